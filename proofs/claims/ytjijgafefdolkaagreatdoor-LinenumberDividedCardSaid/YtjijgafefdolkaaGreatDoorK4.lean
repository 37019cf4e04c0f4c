import Derived.Test.YtjijgafefdolkaaGreatDoorK3
set_option linter.all false
set_option linter.unusedSimpArgs false
set_option linter.unusedVariables false
set_option linter.unusedSectionVars false
section
open Go Go.Proofs AF HY
namespace HY
set_option maxRecDepth 100000
theorem qqC {n : Int} (h0 : 0 ≤ n) (h1 : n ≤ 255) : IntKind.u8.wrap n = n := by
 have e1 : (2 : Int) ^ IntKind.bits IntKind.u8 = 256 := rfl
 have e3 : IntKind.signed IntKind.u8 = false := rfl
 unfold IntKind.wrap
 rw [e1, e3]
 simp only [Bool.false_and, Bool.false_eq_true, if_false]
 omega
theorem qfh (c : UInt8) : ((qdx c).toNat : Int) = if 65 ≤ (c.toNat : Int) ∧ (c.toNat : Int) ≤ 90 then (c.toNat : Int) + 32 else (c.toNat : Int) := by
 have hc := c.toNat_lt
 unfold qdx
 have e1 : (65 ≤ c) = (65 ≤ c.toNat) := by rw [UInt8.le_iff_toNat_le]; rfl
 have e2 : (c ≤ 90) = (c.toNat ≤ 90) := by rw [UInt8.le_iff_toNat_le]; rfl
 simp only [e1, e2]
 by_cases h : 65 ≤ c.toNat ∧ c.toNat ≤ 90
 ·rw [if_pos h, if_pos (by omega), UInt8.toNat_add]
  have : (32 : UInt8).toNat = 32 := rfl
  rw [this]; omega
 ·rw [if_neg h, if_neg (by omega)]
def qfd (s : List UInt8) (i : Nat) : List UInt8 := (jZ s).take i ++ s.drop i
theorem qoR (s : List UInt8) (i : Nat) (h : i ≤ s.length) : (qfd s i).length = s.length := by simp [qfd, jZ]; omega
theorem qoQ {s : List UInt8} {i : Nat} (h : i < s.length) : (qQ (qfd s i))[i]? = some (.int .u8 ((ch s i).toNat : Int)) := by
 simp only [qQ, qfd, List.getElem?_map]
 rw [List.getElem?_append_right (by simp [jZ]; omega)]
 simp [jZ, ch, List.getD_eq_getElem?_getD, Nat.min_eq_left (Nat.le_of_lt h), h]
theorem qoS {s : List UInt8} {i : Nat} (h : i < s.length) : List.take i (qQ (qfd s i)) ++ [.int .u8 ((qdx (ch s i)).toNat : Int)] ++ List.drop (i + 1) (qQ (qfd s i)) = qQ (qfd s (i + 1)) := by
 simp only [qQ, qfd, List.map_append, List.map_take, List.map_drop]
 have hl : (List.take i (List.map (fun b => AV.int .u8 ((b.toNat : Nat) : Int)) (jZ s))).length = i := by simp [jZ]; omega
 rw [List.take_append_of_le_length (by omega), List.take_of_length_le (by omega)]
 rw [show i + 1 = (List.take i (List.map (fun b => AV.int .u8 ((b.toNat : Nat) : Int)) (jZ s))).length + 1 by omega]
 rw [List.drop_append, Nat.add_sub_cancel_left, List.drop_of_length_le (by omega), hl, List.nil_append, List.drop_drop]
 rw [List.take_add_one]
 congr 1
 congr 1
 simp [jZ, ch, List.getD_eq_getElem?_getD, h]
theorem qll {s : List UInt8} {i : Nat} (h : i < s.length) (hb : qdx (ch s i) = ch s i) : qfd s (i + 1) = qfd s i := by
 unfold qfd
 rw [List.take_add_one, List.drop_eq_getElem_cons h]
 have : (jZ s)[i]?.toList = [s[i]] := by
  have e : ch s i = s[i] := by simp [ch, h]
  rw [e] at hb
  simp [jZ, h, hb]
 rw [this]; simp
theorem qoP (s : List UInt8) : qfd s s.length = jZ s := by
 unfold qfd jZ
 rw [List.drop_length, List.append_nil, List.take_of_length_le (by simp)]
theorem qyD (s : List UInt8) (h : List AObj) (hs : s.length ≤ 1000000000) : qs Tryz.prog 145 [.str s] h (.str (jZ s)) h := by
 have h0 : qQ s = qQ (qfd s 0) := by simp [qfd]
 refine qn qux (by simp) ?_
 simp only [lcP, lnP, Nat.reduceAdd, Nat.reduceSub, List.replicate, caP, naP, List.append_nil]
 simp (disch := omega) only [qtG, h0, go_sem, qc, dvP, mdP]
 repeat' first
  | ((first | refine qe ?_ ?_ | refine qg ?_ ?_); (next => exact rvk); simp only [go_sem]; (first | exact VLe.refl _ | refine qh ?_ | refine qd ?_ | refine ql ?_ | skip))
  | with_reducible first | refine And.intro ?_ ?_ | intro _
 all_goals try exact clz
 refine qJ (T := fun i : Nat => qu 30 [(3, .osl h.length 1 1 0 s.length), (8, .osl h.length 1 1 0 s.length), (9, .int .i64 s.length), (10, .int .i64 i)]) (H := fun i => h ++ [.mem 1 (5 + qaP) (qQ (qfd s i))]) (inv := fun i => i ≤ s.length) (m := fun i => s.length - i) 0 (by omega) (Wk.temps ?_) ?_
 ·(simp only [qu, List.foldl, List.replicate, go_sem, qr, qp, qm, qq]; try (repeat' first | (with_reducible refine And.intro ?_ ?_) | (refine qh ?_; omega) | (refine qd ?_; rfl) | exact VLe.refl _))
 ·intro i i1 K hK
  have hlen : (qQ (qfd s i)).length = s.length := by rw [jk, qoR s i i1]
  by_cases hi : i < s.length
  ·have hg := qoQ hi
   have hst := qoS hi
   have hb := qfh (ch s i)
   have hr := qeL (ch s i)
   obtain ⟨c, hc⟩ : ∃ c : Int, c = ((ch s i).toNat : Int) := ⟨_, rfl⟩
   rw [← hc] at hg hb hr
   by_cases hu : 65 ≤ c ∧ c ≤ 90
   ·rw [if_pos hu] at hb
    rw [hb] at hst
    have he : c - 65 + 97 = c + 32 := by omega
    simp (disch := omega) only [qu, List.foldl, List.replicate, hg, hlen, qqC, he, go_sem, qc, dvP, mdP]
    repeat' first
     | ((first | refine qe ?_ ?_ | refine qg ?_ ?_); (next => exact rvk); simp only [go_sem]; (first | exact VLe.refl _ | refine qh ?_ | refine qd ?_ | refine ql ?_ | skip))
     | with_reducible first | refine And.intro ?_ ?_ | intro _
    all_goals try exact clz
    rw [hst]
    refine hK _ _ (i + 1) (by omega) (by omega) (Wk.temps ?_)
    (simp only [qu, List.foldl, List.replicate, go_sem, qr, qp, qm, qq]; try (repeat' first | (with_reducible refine And.intro ?_ ?_) | (refine qh ?_; omega) | (refine qd ?_; rfl) | exact VLe.refl _))
   ·rw [if_neg hu] at hb
    have hsk := qll hi (by rw [← UInt8.toNat_inj]; omega)
    simp (disch := omega) only [qu, List.foldl, List.replicate, hg, hlen, go_sem, qc, dvP, mdP]
    repeat' first
     | ((first | refine qe ?_ ?_ | refine qg ?_ ?_); (next => exact rvk); simp only [go_sem]; (first | exact VLe.refl _ | refine qh ?_ | refine qd ?_ | refine ql ?_ | skip))
     | with_reducible first | refine And.intro ?_ ?_ | intro _
    all_goals try exact clz
    refine hK _ _ (i + 1) (by omega) (by omega) ?_
    rw [hsk]
    refine Wk.temps ?_
    (simp only [qu, List.foldl, List.replicate, go_sem, qr, qp, qm, qq]; try (repeat' first | (with_reducible refine And.intro ?_ ?_) | (refine qh ?_; omega) | (refine qd ?_; rfl) | exact VLe.refl _))
  ·have e : i = s.length := by omega
   subst e
   rw [qoP] at hlen ⊢
   have hT : List.take s.length (qQ (jZ s)) = qQ (jZ s) := List.take_of_length_le (by omega)
   simp (disch := omega) only [qu, List.foldl, List.replicate, hlen, hT, qej, go_sem, qc, dvP, mdP]
   repeat' first
    | ((first | refine qe ?_ ?_ | refine qg ?_ ?_); (next => exact rvk); simp only [go_sem]; (first | exact VLe.refl _ | refine qh ?_ | refine qd ?_ | refine ql ?_ | skip))
    | with_reducible first | refine And.intro ?_ ?_ | intro _
   all_goals try exact clz
   all_goals
    rename_i c hc
    exact qes c hc
end HY
end
section
open Go Go.Proofs AF HY
namespace HY
set_option maxRecDepth 100000
theorem qtf (s p : List UInt8) (h : List AObj) (hs : s.length ≤ 1000000000) (hp : p.length ≤ 1000000000) : qs Tryz.prog 129 [.str s, .str p] h (.bool (qcd s p)) h := by
 unfold qcd
 by_cases hl : p.length ≤ s.length
 ·have k : ((p.length : Int) ≤ (s.length : Int)) = True := eq_true (by omega)
  refine qn qqL (by simp) ?_
  simp only [lcP, lnP, Nat.reduceAdd, Nat.reduceSub, List.replicate, caP, naP, List.append_nil]
  simp (disch := omega) only [qrg, k, go_sem, qc, dvP, mdP]
  repeat' first
   | ((first | refine qe ?_ ?_ | refine qg ?_ ?_); (next => exact rvk); simp only [go_sem]; (first | exact VLe.refl _ | refine qh ?_ | refine qd ?_ | refine ql ?_ | skip))
   | with_reducible first | refine And.intro ?_ ?_ | intro _
  all_goals try exact clz
 ·have k : ((p.length : Int) ≤ (s.length : Int)) = False := eq_false (by omega)
  have e : decide (s.take p.length = p) = false := by
   rw [decide_eq_false_iff_not]
   intro e
   have := congrArg List.length e
   rw [List.length_take] at this
   omega
  rw [e]
  refine qn qqL (by simp) ?_
  simp only [lcP, lnP, Nat.reduceAdd, Nat.reduceSub, List.replicate, caP, naP, List.append_nil]
  simp (disch := omega) only [qrg, k, go_sem, qc, dvP, mdP]
  repeat' first
   | ((first | refine qe ?_ ?_ | refine qg ?_ ?_); (next => exact rvk); simp only [go_sem]; (first | exact VLe.refl _ | refine qh ?_ | refine qd ?_ | refine ql ?_ | skip))
   | with_reducible first | refine And.intro ?_ ?_ | intro _
  all_goals try exact clz
theorem qy3 (s p : List UInt8) (h : List AObj) (hs : s.length ≤ 1000000000) (hp : p.length ≤ 1000000000) : qs Tryz.prog 103 [.str s, .str p] h (.bool (qcd s p)) h := by
 refine qn qt5 (by simp) ?_
 simp only [lcP, lnP, Nat.reduceAdd, Nat.reduceSub, List.replicate, caP, naP, List.append_nil]
 simp (disch := omega) only [qh2, go_sem, qc, dvP, mdP]
 repeat' first
  | ((first | refine qj (qtf s p _ hs hp) ?_ ?_); (next => exact flk); simp (disch := omega) only [go_sem, qc, dvP, mdP])
  | ((first | refine qk (fun e => ⟨?_, qtf s p _ hs hp⟩) ?_); (next => exact flk); simp (disch := omega) only [go_sem, qc, dvP, mdP])
  | ((first | refine qe ?_ ?_ | refine qg ?_ ?_); (next => exact rvk); simp only [go_sem]; (first | exact VLe.refl _ | refine qh ?_ | refine qd ?_ | refine ql ?_ | skip))
  | with_reducible first | refine And.intro ?_ ?_ | intro _
 all_goals try exact clz
theorem qtg (s p : List UInt8) (h : List AObj) (hs : s.length ≤ 1000000000) (hp : p.length ≤ 1000000000) : qs Tryz.prog 81 [.str s, .str p] h (.bool (qce s p)) h := by
 unfold qce
 by_cases hl : p.length ≤ s.length
 ·have k : ((p.length : Int) ≤ (s.length : Int)) = True := eq_true (by omega)
  have k2 : ((s.length : Int) - (p.length : Int)).toNat = s.length - p.length := by omega
  have k3 : List.take (s.length - (s.length - p.length)) (List.drop (s.length - p.length) s) = List.drop (s.length - p.length) s := List.take_of_length_le (by rw [List.length_drop]; omega)
  refine qn quJ (by simp) ?_
  simp only [lcP, lnP, Nat.reduceAdd, Nat.reduceSub, List.replicate, caP, naP, List.append_nil]
  simp (disch := omega) only [qwo, k, k2, k3, go_sem, qc, dvP, mdP]
  repeat' first
   | ((first | refine qe ?_ ?_ | refine qg ?_ ?_); (next => exact rvk); simp only [go_sem]; (first | exact VLe.refl _ | refine qh ?_ | refine qd ?_ | refine ql ?_ | skip))
   | with_reducible first | refine And.intro ?_ ?_ | intro _
  all_goals try exact clz
 ·have k : ((p.length : Int) ≤ (s.length : Int)) = False := eq_false (by omega)
  have e : decide (s.drop (s.length - p.length) = p) = false := by
   rw [decide_eq_false_iff_not]
   intro e
   have := congrArg List.length e
   rw [List.length_drop] at this
   omega
  rw [e]
  refine qn quJ (by simp) ?_
  simp only [lcP, lnP, Nat.reduceAdd, Nat.reduceSub, List.replicate, caP, naP, List.append_nil]
  simp (disch := omega) only [qwo, k, go_sem, qc, dvP, mdP]
  repeat' first
   | ((first | refine qe ?_ ?_ | refine qg ?_ ?_); (next => exact rvk); simp only [go_sem]; (first | exact VLe.refl _ | refine qh ?_ | refine qd ?_ | refine ql ?_ | skip))
   | with_reducible first | refine And.intro ?_ ?_ | intro _
  all_goals try exact clz
theorem qy4 (s p : List UInt8) (h : List AObj) (hs : s.length ≤ 1000000000) (hp : p.length ≤ 1000000000) : qs Tryz.prog 104 [.str s, .str p] h (.bool (qce s p)) h := by
 refine qn qt6 (by simp) ?_
 simp only [lcP, lnP, Nat.reduceAdd, Nat.reduceSub, List.replicate, caP, naP, List.append_nil]
 simp (disch := omega) only [qh3, go_sem, qc, dvP, mdP]
 repeat' first
  | ((first | refine qj (qtg s p _ hs hp) ?_ ?_); (next => exact flk); simp (disch := omega) only [go_sem, qc, dvP, mdP])
  | ((first | refine qk (fun e => ⟨?_, qtg s p _ hs hp⟩) ?_); (next => exact flk); simp (disch := omega) only [go_sem, qc, dvP, mdP])
  | ((first | refine qe ?_ ?_ | refine qg ?_ ?_); (next => exact rvk); simp only [go_sem]; (first | exact VLe.refl _ | refine qh ?_ | refine qd ?_ | refine ql ?_ | skip))
  | with_reducible first | refine And.intro ?_ ?_ | intro _
 all_goals try exact clz
theorem qiA {s p : List UInt8} (h : qcd s p = true) : p.length ≤ s.length := by
 unfold qcd at h
 have := congrArg List.length (of_decide_eq_true h)
 rw [List.length_take] at this
 omega
theorem qiB {s p : List UInt8} (h : qce s p = true) : p.length ≤ s.length := by
 unfold qce at h
 have := congrArg List.length (of_decide_eq_true h)
 rw [List.length_drop] at this
 omega
theorem qyz (s p : List UInt8) (h : List AObj) (hs : s.length ≤ 1000000000) (hp : p.length ≤ 1000000000) : qs Tryz.prog 127 [.str s, .str p] h (.str (qau s p)) h := by
 unfold qau
 cases hh : qcd s p with
 | true =>
  have := qiA hh
  have k3 : List.take (s.length - p.length) (List.drop p.length s) = List.drop p.length s := List.take_of_length_le (by rw [List.length_drop]; omega)
  refine qn qqK (by simp) ?_
  simp only [lcP, lnP, Nat.reduceAdd, Nat.reduceSub, List.replicate, caP, naP, List.append_nil]
  simp (disch := omega) only [qrf, k3, go_sem, qc, dvP, mdP]
  repeat' first
   | ((first | refine qj (qtf s p _ hs hp) ?_ ?_); (next => exact flk); simp (disch := omega) only [hh, k3, go_sem, qc, dvP, mdP])
   | ((first | refine qk (fun e => ⟨?_, qtf s p _ hs hp⟩) ?_); (next => exact flk); simp (disch := omega) only [hh, k3, go_sem, qc, dvP, mdP])
   | ((first | refine qe ?_ ?_ | refine qg ?_ ?_); (next => exact rvk); simp only [go_sem]; (first | exact VLe.refl _ | refine qh ?_ | refine qd ?_ | refine ql ?_ | skip))
   | with_reducible first | refine And.intro ?_ ?_ | intro _
  all_goals try exact clz
 | false =>
  refine qn qqK (by simp) ?_
  simp only [lcP, lnP, Nat.reduceAdd, Nat.reduceSub, List.replicate, caP, naP, List.append_nil]
  simp (disch := omega) only [qrf, go_sem, qc, dvP, mdP]
  repeat' first
   | ((first | refine qj (qtf s p _ hs hp) ?_ ?_); (next => exact flk); simp (disch := omega) only [hh, go_sem, qc, dvP, mdP])
   | ((first | refine qk (fun e => ⟨?_, qtf s p _ hs hp⟩) ?_); (next => exact flk); simp (disch := omega) only [hh, go_sem, qc, dvP, mdP])
   | ((first | refine qe ?_ ?_ | refine qg ?_ ?_); (next => exact rvk); simp only [go_sem]; (first | exact VLe.refl _ | refine qh ?_ | refine qd ?_ | refine ql ?_ | skip))
   | with_reducible first | refine And.intro ?_ ?_ | intro _
  all_goals try exact clz
theorem qyZ (s p : List UInt8) (h : List AObj) (hs : s.length ≤ 1000000000) (hp : p.length ≤ 1000000000) : qs Tryz.prog 96 [.str s, .str p] h (.str (qau s p)) h := by
 refine qn qw9 (by simp) ?_
 simp only [lcP, lnP, Nat.reduceAdd, Nat.reduceSub, List.replicate, caP, naP, List.append_nil]
 simp (disch := omega) only [qs9, go_sem, qc, dvP, mdP]
 repeat' first
  | ((first | refine qj (qyz s p _ hs hp) ?_ ?_); (next => exact flk); simp (disch := omega) only [go_sem, qc, dvP, mdP])
  | ((first | refine qk (fun e => ⟨?_, qyz s p _ hs hp⟩) ?_); (next => exact flk); simp (disch := omega) only [go_sem, qc, dvP, mdP])
  | ((first | refine qe ?_ ?_ | refine qg ?_ ?_); (next => exact rvk); simp only [go_sem]; (first | exact VLe.refl _ | refine qh ?_ | refine qd ?_ | refine ql ?_ | skip))
  | with_reducible first | refine And.intro ?_ ?_ | intro _
 all_goals try exact clz
theorem qyy (s p : List UInt8) (h : List AObj) (hs : s.length ≤ 1000000000) (hp : p.length ≤ 1000000000) : qs Tryz.prog 47 [.str s, .str p] h (.str (qdn s p)) h := by
 unfold qdn
 cases hh : qce s p with
 | true =>
  have := qiB hh
  have k2 : ((s.length : Int) - (p.length : Int)).toNat = s.length - p.length := by omega
  refine qn quD (by simp) ?_
  simp only [lcP, lnP, Nat.reduceAdd, Nat.reduceSub, List.replicate, caP, naP, List.append_nil]
  simp (disch := omega) only [qwl, k2, go_sem, qc, dvP, mdP]
  repeat' first
   | ((first | refine qj (qtg s p _ hs hp) ?_ ?_); (next => exact flk); simp (disch := omega) only [hh, k2, go_sem, qc, dvP, mdP])
   | ((first | refine qk (fun e => ⟨?_, qtg s p _ hs hp⟩) ?_); (next => exact flk); simp (disch := omega) only [hh, k2, go_sem, qc, dvP, mdP])
   | ((first | refine qe ?_ ?_ | refine qg ?_ ?_); (next => exact rvk); simp only [go_sem]; (first | exact VLe.refl _ | refine qh ?_ | refine qd ?_ | refine ql ?_ | skip))
   | with_reducible first | refine And.intro ?_ ?_ | intro _
  all_goals try exact clz
 | false =>
  refine qn quD (by simp) ?_
  simp only [lcP, lnP, Nat.reduceAdd, Nat.reduceSub, List.replicate, caP, naP, List.append_nil]
  simp (disch := omega) only [qwl, go_sem, qc, dvP, mdP]
  repeat' first
   | ((first | refine qj (qtg s p _ hs hp) ?_ ?_); (next => exact flk); simp (disch := omega) only [hh, go_sem, qc, dvP, mdP])
   | ((first | refine qk (fun e => ⟨?_, qtg s p _ hs hp⟩) ?_); (next => exact flk); simp (disch := omega) only [hh, go_sem, qc, dvP, mdP])
   | ((first | refine qe ?_ ?_ | refine qg ?_ ?_); (next => exact rvk); simp only [go_sem]; (first | exact VLe.refl _ | refine qh ?_ | refine qd ?_ | refine ql ?_ | skip))
   | with_reducible first | refine And.intro ?_ ?_ | intro _
  all_goals try exact clz
theorem qyY (s p : List UInt8) (h : List AObj) (hs : s.length ≤ 1000000000) (hp : p.length ≤ 1000000000) : qs Tryz.prog 15 [.str s, .str p] h (.str (qdn s p)) h := by
 refine qn qwA (by simp) ?_
 simp only [lcP, lnP, Nat.reduceAdd, Nat.reduceSub, List.replicate, caP, naP, List.append_nil]
 simp (disch := omega) only [qs8, go_sem, qc, dvP, mdP]
 repeat' first
  | ((first | refine qj (qyy s p _ hs hp) ?_ ?_); (next => exact flk); simp (disch := omega) only [go_sem, qc, dvP, mdP])
  | ((first | refine qk (fun e => ⟨?_, qyy s p _ hs hp⟩) ?_); (next => exact flk); simp (disch := omega) only [go_sem, qc, dvP, mdP])
  | ((first | refine qe ?_ ?_ | refine qg ?_ ?_); (next => exact rvk); simp only [go_sem]; (first | exact VLe.refl _ | refine qh ?_ | refine qd ?_ | refine ql ?_ | skip))
  | with_reducible first | refine And.intro ?_ ?_ | intro _
 all_goals try exact clz
end HY
end
section
open Go Go.Proofs AF HY
namespace HY
set_option maxRecDepth 100000
def qw (l : List Int) : AV := .sl l.length fun i => [.int .i64 (l.getD i 0)]
def qX (p : List Int) : List AV := p.map (AV.int .i64)
theorem zm (p : List Int) : (qX p).length = p.length := by simp [qX]
theorem qaz (L : List Int) (x : Int) : qX (L ++ [x]) = qX L ++ [.int .i64 x] := by simp [qX]
theorem qcG {p : List Int} {n m : Nat} {fz : Nat → Bool} {h : List AObj} (e : p.length = m) : VLe (.sl m fun i => ((List.drop i (qX p)).take 1).map (rei fz h (n + 1))) (qw p) := by
 subst e
 refine qqY (zm p) rfl (fun i c hc => ?_) (fun c hc => ?_)
 ·unfold qX at hc
  rw [List.getElem?_map, Option.map_eq_some_iff] at hc
  obtain ⟨x, hx, rfl⟩ := hc
  simp [List.getD_eq_getElem?_getD, hx]
 ·unfold qX at hc
  rw [List.mem_map] at hc
  obtain ⟨x, _, rfl⟩ := hc
  rfl
def qbz (p : Pat) : List AV := [.str p.letters, qw p.levels]
theorem qy2 (n : Int) (h : List AObj) : qs Tryz.prog 102 [.int .i64 n] h (.bool (qjT n)) h := by
 refine qn qt4 (by simp) ?_
 simp only [lcP, lnP, Nat.reduceAdd, Nat.reduceSub, List.replicate, caP, naP, List.append_nil]
 simp (disch := omega) only [qtl, go_sem, qc, dvP, mdP]
 repeat' first
  | ((first | refine qe ?_ ?_ | refine qg ?_ ?_); (next => exact rvk); simp only [go_sem]; (first | exact VLe.refl _ | refine qh ?_ | refine qd ?_ | refine ql ?_ | skip))
  | with_reducible first | refine And.intro ?_ ?_ | intro _
 all_goals try exact clz
theorem qy0 (c : UInt8) (h : List AObj) : qs Tryz.prog 97 [.int .u8 (c.toNat : Int)] h (.bool (qiR c)) h := by
 refine qn qxa (by simp) ?_
 simp only [lcP, lnP, Nat.reduceAdd, Nat.reduceSub, List.replicate, caP, naP, List.append_nil]
 simp (disch := omega) only [qrj, go_sem, qc, dvP, mdP]
 repeat' first
  | ((first | refine qj (jE c _) ?_ ?_); (next => exact flk); simp (disch := omega) only [go_sem, qc, dvP, mdP])
  | ((first | refine qo (fun _ => jE c _) ?_ ?_); (next => exact flk); simp (disch := omega) only [go_sem, qc, dvP, mdP])
  | ((first | refine qk (fun e => ⟨?_, jE c _⟩) ?_); (next => exact flk); simp (disch := omega) only [go_sem, qc, dvP, mdP])
  | ((first | refine qe ?_ ?_ | refine qg ?_ ?_); (next => exact rvk); simp only [go_sem]; (first | exact VLe.refl _ | refine qh ?_ | refine qd ?_ | refine ql ?_ | skip))
  | with_reducible first | refine And.intro ?_ ?_ | intro _
 all_goals try exact clz
def qcr (p : Int → Bool) : List Int → Nat → Int
 | [], _ => -1
 | c :: r, i => if p c = true then i else qcr p r (i + 1)
theorem qls (p : Int → Bool) : ∀ (s : List Int) (i : Nat), (0 ≤ qcr p s i ↔ s.any p = true) ∧ -1 ≤ qcr p s i := by
 intro s
 induction s with
 | nil => intro i; simp [qcr]
 | cons c r ih =>
  intro i
  by_cases hc : p c = true
  ·have e : qcr p (c :: r) i = i := if_pos hc
   rw [e, List.any_cons, hc]
   simp
   try omega
  ·have e : qcr p (c :: r) i = qcr p r (i + 1) := if_neg hc
   rw [e, List.any_cons]
   have hc' : p c = false := by simpa using hc
   rw [hc', Bool.false_or]
   exact ih (i + 1)
theorem qlr (p : Int → Bool) (s : List Int) (i : Nat) : decide (0 ≤ qcr p s i) = s.any p := by
 rw [Bool.eq_iff_iff, decide_eq_true_eq]; exact (qls p s i).1
theorem qyA (s : List Int) (p : Int → Bool) (F : Nat) (h : List AObj) (hs : s.length ≤ 1000000000) (hp : ∀ (c : Int) (h : List AObj), qs Tryz.prog F [.int .i64 c] h (.bool (p c)) h) : qs Tryz.prog 128 [qw s, .fn (.func F) [] []] h (.int .i64 (qcr p s 0)) h := by
 refine qn quj (by simp) ?_
 simp only [lcP, lnP, Nat.reduceAdd, Nat.reduceSub, List.replicate, caP, naP, List.append_nil]
 simp (disch := omega) only [qtx, qw, go_sem, qc, dvP, mdP]
 repeat' first
  | ((first | refine qe ?_ ?_ | refine qg ?_ ?_); (next => exact rvk); simp only [go_sem]; (first | exact VLe.refl _ | refine qh ?_ | refine qd ?_ | refine ql ?_ | skip))
  | with_reducible first | refine And.intro ?_ ?_ | intro _
 all_goals try exact clz
 refine qJ (T := fun i : Nat => qu 19 [(0, qw s), (1, .fn (.func F) [] []), (6, qw s), (7, .int .i64 s.length), (8, .int .i64 i)]) (H := fun _ => h) (inv := fun i => i ≤ s.length ∧ qcr p s 0 = qcr p (s.drop i) i) (m := fun i => s.length - i) 0 ⟨by omega, by simp⟩ (Wk.temps ?_) ?_
 ·(simp only [qw, qu, List.foldl, List.replicate, go_sem, qr, qp, qm, qq]; try (repeat' first | (with_reducible refine And.intro ?_ ?_) | (refine qh ?_; omega) | (refine qd ?_; rfl) | exact VLe.refl _))
 ·rintro i ⟨i1, i2⟩ K hK
  rw [i2]
  by_cases hi : i < s.length
  ·have e : s.drop i = s.getD i 0 :: s.drop (i + 1) := by rw [List.drop_eq_getElem_cons hi]; simp [List.getD_eq_getElem?_getD, hi]
   rw [e] at i2 ⊢
   simp only [qcr] at i2 ⊢
   have hpc := fun h => hp (s.getD i 0) h
   cases hb : p (s.getD i 0) with
   | true =>
    rw [hb] at hpc
    simp (disch := omega) only [qu, List.foldl, List.replicate, qw, go_sem, qc, dvP, mdP]
    repeat' first
     | (refine zR (hpc _) ?_; simp (disch := omega) only [qw, go_sem, qc, dvP, mdP])
     | ((first | refine qe ?_ ?_ | refine qg ?_ ?_); (next => exact rvk); simp only [go_sem]; (first | exact VLe.refl _ | refine qh ?_ | refine qd ?_ | refine ql ?_ | skip))
     | with_reducible first | refine And.intro ?_ ?_ | intro _
    all_goals try exact clz
    all_goals simp
   | false =>
    rw [hb] at hpc i2
    simp (disch := omega) only [qu, List.foldl, List.replicate, qw, go_sem, qc, dvP, mdP]
    repeat' first
     | (refine zR (hpc _) ?_; simp (disch := omega) only [qw, go_sem, qc, dvP, mdP])
     | ((first | refine qe ?_ ?_ | refine qg ?_ ?_); (next => exact rvk); simp only [go_sem]; (first | exact VLe.refl _ | refine qh ?_ | refine qd ?_ | refine ql ?_ | skip))
     | with_reducible first | refine And.intro ?_ ?_ | intro _
    all_goals try exact clz
    refine hK _ _ (i + 1) ⟨by omega, by rw [i2]; simp⟩ (by omega) (Wk.temps ?_)
    (simp only [qw, qu, List.foldl, List.replicate, go_sem, qr, qp, qm, qq]; try (repeat' first | (with_reducible refine And.intro ?_ ?_) | (refine qh ?_; omega) | (refine qd ?_; rfl) | exact VLe.refl _))
  ·have e : i = s.length := by omega
   subst e
   rw [List.drop_length]
   simp (disch := omega) only [qu, List.foldl, List.replicate, qw, go_sem, qc, dvP, mdP]
   repeat' first
    | ((first | refine qe ?_ ?_ | refine qg ?_ ?_); (next => exact rvk); simp only [go_sem]; (first | exact VLe.refl _ | refine qh ?_ | refine qd ?_ | refine ql ?_ | skip))
    | with_reducible first | refine And.intro ?_ ?_ | intro _
   all_goals try exact clz
theorem qy1 (s : List Int) (p : Int → Bool) (F : Nat) (h : List AObj) (hs : s.length ≤ 1000000000) (hp : ∀ (c : Int) (h : List AObj), qs Tryz.prog F [.int .i64 c] h (.bool (p c)) h) : qs Tryz.prog 101 [qw s, .fn (.func F) [] []] h (.bool (s.any p)) h := by
 rw [← qlr p s 0]
 refine qn qt3 (by simp) ?_
 simp only [lcP, lnP, Nat.reduceAdd, Nat.reduceSub, List.replicate, caP, naP, List.append_nil]
 simp (disch := omega) only [qh1, qw, go_sem, qc, dvP, mdP]
 repeat' first
  | ((first | refine qj (qyA s p F _ hs hp) ?_ ?_); (next => exact flk); simp (disch := omega) only [qw, go_sem, qc, dvP, mdP])
  | ((first | refine qk (fun e => ⟨?_, qyA s p F _ hs hp⟩) ?_); (next => exact flk); simp (disch := omega) only [qw, go_sem, qc, dvP, mdP])
  | ((first | refine qe ?_ ?_ | refine qg ?_ ?_); (next => exact rvk); simp only [go_sem]; (first | exact VLe.refl _ | refine qh ?_ | refine qd ?_ | refine ql ?_ | skip))
  | with_reducible first | refine And.intro ?_ ?_ | intro _
 all_goals try exact clz
theorem qwb (s : List UInt8) (h : List AObj) (hs : s.length ≤ 1000000000) : qs Tryz.prog 100 [.str s] h (qF (qU s)) h := by
 refine qn qt2 (by simp) ?_
 simp only [lcP, lnP, Nat.reduceAdd, Nat.reduceSub, List.replicate, caP, naP, List.append_nil]
 simp (disch := omega) only [qbd, go_sem, qc, dvP, mdP]
 repeat' first
  | ((first | refine qj (t67 s _ hs) ?_ ?_); (next => exact flk); simp (disch := omega) only [qF, go_sem, qc, dvP, mdP])
  | ((first | refine qk (fun e => ⟨?_, t67 s _ hs⟩) ?_); (next => exact flk); simp (disch := omega) only [qF, go_sem, qc, dvP, mdP])
  | ((first | refine qe ?_ ?_ | refine qg ?_ ?_); (next => exact rvk); simp only [go_sem]; (first | exact VLe.refl _ | refine qh ?_ | refine qd ?_ | refine ql ?_ | skip))
  | with_reducible first | refine And.intro ?_ ?_ | intro _
 all_goals try exact clz
end HY
end
section
open Go Go.Proofs AF HY
namespace HY
set_option maxRecDepth 100000
def qa0 (c : UInt8) : Bool := !decide (kind c = 2)
theorem qja {s : List UInt8} (h : qbf s = 0) (hs : s.length ≤ 64) : s.any qa0 = !decide (s = []) := by
 rw [qk1, if_neg (by omega)] at h
 cases s with
 | nil => rfl
 | cons c r =>
  have hb : qco (c :: r) 0 = false := by
   cases hb : qco (c :: r) 0 with
   | false => rfl
   | true => rw [if_pos (qdr (i := 0) (by simp) hb)] at h; cases h
  have hm : qa0 c = true := by
   unfold qco at hb
   simp [ch, jN] at hb
   unfold qa0
   simp [hb.2]
  simp [hm]
theorem qlP (s : List UInt8) : (qiE s).length ≤ s.length := by
 unfold qiE qdn qau
 split <;> split <;> simp <;> omega
theorem qee {s : List UInt8} {p : UInt8 → Bool} {i : Nat} (h : i < s.length) : (s.take (i + 1)).any p = ((s.take i).any p || p (ch s i)) := by
 rw [List.take_add_one, List.any_append, List.getElem?_eq_getElem h]
 simp [ch, h]
theorem qjP {s : List UInt8} {p : UInt8 → Bool} {i : Nat} (h : i < s.length) (hp : p (ch s i) = true) : s.any p = true := by
 rw [List.any_eq_true]
 exact ⟨s[i], List.getElem_mem h, by simpa [ch, h] using hp⟩
set_option maxHeartbeats 8000000 in
theorem t87 (p : Pat) (h : List AObj) (hl : p.letters.length ≤ 1000000000) (hv : p.levels.length ≤ 1000000000) : qs Tryz.prog 64 [.agg (qbz p)] h (.int .i64 (jS p)) h := by
 unfold jS
 by_cases g0 : 64 < p.letters.length
 ·have k0 : (64 < (p.letters.length : Int)) = True := eq_true (by omega)
  rw [if_pos g0]
  refine qn quF (by simp) ?_
  simp only [lcP, lnP, Nat.reduceAdd, Nat.reduceSub, List.replicate, caP, naP, List.append_nil]
  simp (disch := omega) only [qkJ, qbz, k0, go_sem, qc, dvP, mdP]
  repeat' first
   | ((first | refine qe ?_ ?_ | refine qg ?_ ?_); (next => exact rvk); simp only [go_sem]; (first | exact VLe.refl _ | refine qh ?_ | refine qd ?_ | refine ql ?_ | skip))
   | with_reducible first | refine And.intro ?_ ?_ | intro _
  all_goals try exact clz
 ·have k0 : (64 < (p.letters.length : Int)) = False := eq_false (by omega)
  rw [if_neg g0]
  have hil := qlP p.letters
  have htl : (qau p.letters [46]).length ≤ 1000000000 := by
   unfold qau
   split
   ·rw [List.length_drop]; omega
   ·omega
  obtain ⟨own, hown⟩ : ∃ o, o = qiE p.letters := ⟨_, rfl⟩
  have qs9 := fun h => qyZ p.letters [46] h hl (by simp)
  have qs8 : ∀ h : List AObj, qs Tryz.prog 15 [.str (qau p.letters [46]), .str [46]] h (.str own) h := fun h => by rw [hown]; exact qyY _ [46] h htl (by simp)
  rw [← hown] at hil ⊢
  obtain ⟨q, hq⟩ : ∃ q, q = qbf own := ⟨_, rfl⟩
  have qgd : ∀ h : List AObj, qs Tryz.prog 99 [.str own] h (.int .i64 q) h := fun h => by rw [hq]; exact qyu own h (by omega)
  have hso : q = 0 → own.any qa0 = !decide (own = []) := fun e => qja (by rw [← hq]; exact e) (by omega)
  rw [← hq]
  refine qn quF (by simp) ?_
  simp only [lcP, lnP, Nat.reduceAdd, Nat.reduceSub, List.replicate, caP, naP, List.append_nil]
  simp (disch := omega) only [qkJ, qbz, k0, go_sem, qc, dvP, mdP]
  repeat' first
   | ((first | refine qj (qs9 _) ?_ ?_ | refine qj (qs8 _) ?_ ?_); (next => exact flk); simp (disch := omega) only [k0, qbz, go_sem, qc, dvP, mdP])
   | ((first | refine qo (fun _ => qs9 _) ?_ ?_ | refine qo (fun _ => qs8 _) ?_ ?_); (next => exact flk); simp (disch := omega) only [k0, qbz, go_sem, qc, dvP, mdP])
   | ((first | refine qk (fun e => ⟨?_, qs9 _⟩) ?_ | refine qk (fun e => ⟨?_, qs8 _⟩) ?_); (next => exact flk); simp (disch := omega) only [k0, qbz, go_sem, qc, dvP, mdP])
   | ((first | refine qe ?_ ?_ | refine qg ?_ ?_); (next => exact rvk); simp only [go_sem]; (first | exact VLe.refl _ | refine qh ?_ | refine qd ?_ | refine ql ?_ | skip))
   | with_reducible first | refine And.intro ?_ ?_ | intro _
  all_goals try exact clz
  refine qJ (T := fun i : Nat => qu 80 [(1, .op h.length 1 0), (3, .str own), (4, .fn (.func 97) [] []), (5, .bool ((own.take i).any qa0)), (16, .int .i64 own.length), (17, .int .i64 i)]) (H := fun _ => h ++ [.mem 1 61 [.str p.letters, qw p.levels]])
   (inv := fun i => i ≤ own.length ∧ ∀ j, j < i → qiR (ch own j) = true) (m := fun i => own.length - i) 0 ⟨by omega, by omega⟩ (Wk.temps ?_) ?_
  ·(simp only [List.take_zero, List.any_nil, qu, List.foldl, List.replicate, go_sem, qr, qp, qm, qq]; try (repeat' first | (with_reducible refine And.intro ?_ ?_) | (refine qh ?_; omega) | (refine qd ?_; rfl) | exact VLe.refl _))
  ·rintro i ⟨i1, i2⟩ K hK
   by_cases hi : i < own.length
   ·have qrj := fun h => qy0 (ch own i) h
    cases hb : qiR (ch own i) with
    | false =>
     rw [hb] at qrj
     rw [if_pos (qjP (p := fun c => !qiR c) hi (by rw [hb]; rfl))]
     simp (disch := omega) only [qu, List.foldl, List.replicate, jn, go_sem, qc, dvP, mdP]
     repeat' first
      | (refine zR (qrj _) ?_; simp (disch := omega) only [jn, go_sem, qc, dvP, mdP])
      | ((first | refine qe ?_ ?_ | refine qg ?_ ?_); (next => exact rvk); simp only [go_sem]; (first | exact VLe.refl _ | refine qh ?_ | refine qd ?_ | refine ql ?_ | skip))
      | with_reducible first | refine And.intro ?_ ?_ | intro _
     all_goals try exact clz
    | true =>
     rw [hb] at qrj
     have hst := qee (p := qa0) hi
     simp (disch := omega) only [qu, List.foldl, List.replicate, jn, go_sem, qc, dvP, mdP]
     repeat' first
      | (refine zR (qrj _) ?_; simp (disch := omega) only [jn, go_sem, qc, dvP, mdP])
      | ((first | refine qj (jE _ _) ?_ ?_); (next => exact flk); simp (disch := omega) only [jn, go_sem, qc, dvP, mdP])
      | ((first | refine qo (fun _ => jE _ _) ?_ ?_); (next => exact flk); simp (disch := omega) only [jn, go_sem, qc, dvP, mdP])
      | ((first | refine qk (fun e => ⟨?_, jE _ _⟩) ?_); (next => exact flk); simp (disch := omega) only [jn, go_sem, qc, dvP, mdP])
      | ((first | refine qe ?_ ?_ | refine qg ?_ ?_); (next => exact rvk); simp only [go_sem]; (first | exact VLe.refl _ | refine qh ?_ | refine qd ?_ | refine ql ?_ | skip))
      | with_reducible first | refine And.intro ?_ ?_ | intro _
     all_goals try exact clz
     refine hK _ _ (i + 1) ⟨by omega, fun j hj => ?_⟩ (by omega) ?_
     ·by_cases e : j = i
      ·subst e; exact hb
      ·exact i2 j (by omega)
     ·rw [hst]
      unfold qa0
      refine Wk.temps ?_
      (simp only [qu, List.foldl, List.replicate, go_sem, qr, qp, qm, qq]; try (repeat' first | (with_reducible refine And.intro ?_ ?_) | (refine qh ?_; omega) | (refine qd ?_; rfl) | exact VLe.refl _))
   ·have e : i = own.length := by omega
    subst e
    have hall : own.any (fun c => !qiR c) = false := by
     rw [List.any_eq_false]
     intro x hx
     obtain ⟨j, hj, rfl⟩ := List.mem_iff_getElem.1 hx
     have := i2 j hj
     simpa [ch, hj] using this
    rw [hall, if_neg (by simp), List.take_length]
    by_cases g1 : q = 0
    ·rw [if_neg (show ¬ q ≠ 0 by simpa using g1), hso g1]
     by_cases g2 : own = []
     ·rw [if_pos g2, decide_eq_true g2]
      simp (disch := omega) only [qu, List.foldl, List.replicate, go_sem, qc, dvP, mdP]
      repeat' first
       | ((first | refine qj (qgd _) ?_ ?_); (next => exact flk); simp (disch := omega) only [g1, go_sem, qc, dvP, mdP])
       | ((first | refine qo (fun _ => qgd _) ?_ ?_); (next => exact flk); simp (disch := omega) only [g1, go_sem, qc, dvP, mdP])
       | ((first | refine qk (fun e => ⟨?_, qgd _⟩) ?_); (next => exact flk); simp (disch := omega) only [g1, go_sem, qc, dvP, mdP])
       | ((first | refine qe ?_ ?_ | refine qg ?_ ?_); (next => exact rvk); simp only [go_sem]; (first | exact VLe.refl _ | refine qh ?_ | refine qd ?_ | refine ql ?_ | skip))
       | with_reducible first | refine And.intro ?_ ?_ | intro _
      all_goals try exact clz
     ·rw [if_neg g2, decide_eq_false g2]
      obtain ⟨L, hL⟩ : ∃ L, L = p.levels := ⟨_, rfl⟩
      obtain ⟨S, hS⟩ : ∃ S, S = p.letters := ⟨_, rfl⟩
      rw [← hL] at hv ⊢
      rw [← hS] at hl g0 hil ⊢
      have qbd := fun h => qwb S h hl
      have qh1 := fun h => qy1 L qjT 102 h hv qy2
      have qh2 := fun h => qy3 S [46] h hl (by simp)
      have qh3 := fun h => qy4 S [46] h hl (by simp)
      have hcl := jo S
      by_cases g3 : L.length = (qU S).length + 1
      ·have hx1 : ((L.length : Int) - 1).toNat = L.length - 1 := by omega
       have k3 : ((L.length : Int) = ((qU S).length : Int) + 1) = True := eq_true (by omega)
       rw [if_neg (show ¬ L.length ≠ (qU S).length + 1 by simpa using g3)]
       simp (disch := omega) only [qu, List.foldl, List.replicate, qw, go_sem, qc, dvP, mdP]
       repeat' first
        | ((first | refine qj (qgd _) ?_ ?_ | refine qj (qbd _) ?_ ?_ | refine qj (qh1 _) ?_ ?_ | refine qj (qh2 _) ?_ ?_ | refine qj (qh3 _) ?_ ?_); (next => exact flk); simp (disch := omega) only [g1, qw, qF, k3, hx1, go_sem, qc, dvP, mdP])
        | ((first | refine qo (fun _ => qgd _) ?_ ?_ | refine qo (fun _ => qbd _) ?_ ?_ | refine qo (fun _ => qh1 _) ?_ ?_ | refine qo (fun _ => qh2 _) ?_ ?_ | refine qo (fun _ => qh3 _) ?_ ?_); (next => exact flk); simp (disch := omega) only [g1, qw, qF, k3, hx1, go_sem, qc, dvP, mdP])
        | ((first | refine qk (fun e => ⟨?_, qgd _⟩) ?_ | refine qk (fun e => ⟨?_, qbd _⟩) ?_ | refine qk (fun e => ⟨?_, qh1 _⟩) ?_ | refine qk (fun e => ⟨?_, qh2 _⟩) ?_ | refine qk (fun e => ⟨?_, qh3 _⟩) ?_); (next => exact flk); simp (disch := omega) only [g1, qw, qF, k3, hx1, go_sem, qc, dvP, mdP])
        | ((first | refine qe ?_ ?_ | refine qg ?_ ?_); (next => exact rvk); simp only [go_sem]; (first | exact VLe.refl _ | refine qh ?_ | refine qd ?_ | refine ql ?_ | skip))
        | with_reducible first | refine And.intro ?_ ?_ | intro _
       all_goals try exact clz
       all_goals first | (rename_i hx; exact hx.1) | (rename_i hx; exact hx.2) | (rename_i hx; exact hx.1.1) | (rename_i hx; exact hx.1.2) | (rename_i hx; exact hx.2.1) | (rename_i hx; exact hx.2.2) | grind | trace_state
      ·have k3 : ((L.length : Int) = ((qU S).length : Int) + 1) = False := eq_false (by omega)
       rw [if_pos g3]
       simp (disch := omega) only [qu, List.foldl, List.replicate, qw, go_sem, qc, dvP, mdP]
       repeat' first
        | ((first | refine qj (qgd _) ?_ ?_ | refine qj (qbd _) ?_ ?_); (next => exact flk); simp (disch := omega) only [g1, qw, qF, k3, go_sem, qc, dvP, mdP])
        | ((first | refine qo (fun _ => qgd _) ?_ ?_ | refine qo (fun _ => qbd _) ?_ ?_); (next => exact flk); simp (disch := omega) only [g1, qw, qF, k3, go_sem, qc, dvP, mdP])
        | ((first | refine qk (fun e => ⟨?_, qgd _⟩) ?_ | refine qk (fun e => ⟨?_, qbd _⟩) ?_); (next => exact flk); simp (disch := omega) only [g1, qw, qF, k3, go_sem, qc, dvP, mdP])
        | ((first | refine qe ?_ ?_ | refine qg ?_ ?_); (next => exact rvk); simp only [go_sem]; (first | exact VLe.refl _ | refine qh ?_ | refine qd ?_ | refine ql ?_ | skip))
        | with_reducible first | refine And.intro ?_ ?_ | intro _
       all_goals try exact clz
    ·rw [if_pos g1]
     simp (disch := omega) only [qu, List.foldl, List.replicate, go_sem, qc, dvP, mdP]
     repeat' first
      | ((first | refine qj (qgd _) ?_ ?_); (next => exact flk); simp (disch := omega) only [g1, go_sem, qc, dvP, mdP])
      | ((first | refine qo (fun _ => qgd _) ?_ ?_); (next => exact flk); simp (disch := omega) only [g1, go_sem, qc, dvP, mdP])
      | ((first | refine qk (fun e => ⟨?_, qgd _⟩) ?_); (next => exact flk); simp (disch := omega) only [g1, go_sem, qc, dvP, mdP])
      | ((first | refine qe ?_ ?_ | refine qg ?_ ?_); (next => exact rvk); simp only [go_sem]; (first | exact VLe.refl _ | refine qh ?_ | refine qd ?_ | refine ql ?_ | skip))
      | with_reducible first | refine And.intro ?_ ?_ | intro _
     all_goals try exact clz
end HY
end
section
open Go Go.Proofs AF HY
namespace HY
set_option maxRecDepth 100000
theorem qhj {s : List UInt8} (h : s ≠ []) : 0 < (qU s).length := by
 cases hc : qU s with
 | nil =>
  exfalso
  have := qbh s
  rw [hc] at this
  exact h (by simpa using this.symm)
 | cons a r => simp
end HY
end
section
open Go Go.Proofs AF HY
namespace HY
set_option maxRecDepth 100000
end HY
end
section
open Go Go.Proofs AF HY
namespace HY
set_option maxRecDepth 100000
def qA (ps : List Pat) : AV := .sl ps.length fun i => qbz (ps.getD i default)
def qcY : List Pat → Int
 | [] => 0
 | p :: r => if jS p = 0 then qcY r else jS p
def jd (ps : List Pat) : Int := if 4096 < ps.length then 4 else qcY ps
def qbx (ps : List Pat) : Prop := ps.length ≤ 1000000000 ∧ ∀ i, i < ps.length → (ps.getD i default).letters.length ≤ 1000000000 ∧ (ps.getD i default).levels.length ≤ 1000000000
theorem qel {ps : List Pat} {i : Nat} (h : i < ps.length) : ps.drop i = ps.getD i default :: ps.drop (i + 1) := by
 rw [List.drop_eq_getElem_cons h]; simp [List.getD_eq_getElem?_getD, h]
theorem t64 (ps : List Pat) (h : List AObj) (hok : qbx ps) : qs Tryz.prog 36 [qA ps] h (.int .i64 (jd ps)) h := by
 obtain ⟨hl, hp⟩ := hok
 unfold jd
 by_cases g0 : 4096 < ps.length
 ·have k0 : (4096 < (ps.length : Int)) = True := eq_true (by omega)
  rw [if_pos g0]
  refine qn quA (by simp) ?_
  simp only [lcP, lnP, Nat.reduceAdd, Nat.reduceSub, List.replicate, caP, naP, List.append_nil]
  simp (disch := omega) only [qbI, qA, k0, go_sem, qc, dvP, mdP]
  repeat' first
   | ((first | refine qe ?_ ?_ | refine qg ?_ ?_); (next => exact rvk); simp only [go_sem]; (first | exact VLe.refl _ | refine qh ?_ | refine qd ?_ | refine ql ?_ | skip))
   | with_reducible first | refine And.intro ?_ ?_ | intro _
  all_goals try exact clz
 have k0 : (4096 < (ps.length : Int)) = False := eq_false (by omega)
 rw [if_neg g0]
 refine qn quA (by simp) ?_
 simp only [lcP, lnP, Nat.reduceAdd, Nat.reduceSub, List.replicate, caP, naP, List.append_nil]
 simp (disch := omega) only [qbI, qA, k0, go_sem, qc, dvP, mdP]
 repeat' first
  | ((first | refine qe ?_ ?_ | refine qg ?_ ?_); (next => exact rvk); simp only [go_sem]; (first | exact VLe.refl _ | refine qh ?_ | refine qd ?_ | refine ql ?_ | skip))
  | with_reducible first | refine And.intro ?_ ?_ | intro _
 all_goals try exact clz
 refine qJ (T := fun i : Nat × AObj => qu 21 [(9, qA ps), (10, .int .i64 ps.length), (11, .int .i64 i.1)]) (H := fun i => h ++ [i.2])
  (inv := fun i => i.1 ≤ ps.length ∧ qcY ps = qcY (ps.drop i.1) ∧ zc [i.2] 0 = true) (m := fun i => ps.length - i.1) (0, .emp 0) ⟨by simp, by simp, rfl⟩ (Wk.temps ?_) ?_
 ·(simp only [qA, qu, List.foldl, List.replicate, go_sem, qr, qp, qm, qq]; try (repeat' first | (with_reducible refine And.intro ?_ ?_) | (refine qh ?_; omega) | (refine qd ?_; rfl) | exact VLe.refl _))
 rintro ⟨i, O⟩ ⟨i1, i2, i3⟩ K hK
 simp only at i1 i2 i3 hK
 have i3' : ∀ m, zc (O :: m) 0 = true := fun _ => i3
 rw [i2]
 by_cases hi : i < ps.length
 ·obtain ⟨b1, b2⟩ := hp i hi
  rw [qel hi] at i2 ⊢
  obtain ⟨p, hpp⟩ : ∃ p, p = ps.getD i default := ⟨_, rfl⟩
  have epp := hpp.symm
  rw [← hpp] at i2 b1 b2 ⊢
  simp only [qcY] at i2 ⊢
  have qkJ := fun h => t87 p h b1 b2
  obtain ⟨q, hq⟩ : ∃ q, q = jS p := ⟨_, rfl⟩
  rw [← hq] at qkJ i2 ⊢
  by_cases g1 : q = 0
  ·rw [if_pos g1] at i2 ⊢
   simp (disch := omega) only [qu, List.foldl, List.replicate, qA, qbz, epp, i3', go_sem, qc, dvP, mdP]
   repeat' first
    | ((first | refine qj (qkJ _) ?_ ?_); (next => exact flk); simp (disch := omega) only [g1, go_sem, qc, dvP, mdP])
    | ((first | refine qo (fun _ => qkJ _) ?_ ?_); (next => exact flk); simp (disch := omega) only [g1, go_sem, qc, dvP, mdP])
    | ((first | refine qk (fun e => ⟨?_, qkJ _⟩) ?_); (next => exact flk); simp (disch := omega) only [g1, go_sem, qc, dvP, mdP])
    | ((first | refine qe ?_ ?_ | refine qg ?_ ?_); (next => exact rvk); simp only [go_sem]; (first | exact VLe.refl _ | refine qh ?_ | refine qd ?_ | refine ql ?_ | skip))
    | with_reducible first | refine And.intro ?_ ?_ | intro _
   all_goals try exact clz
   refine hK _ _ (i + 1, .mem (qz (some O) + 1) 61 [.str p.letters, qw p.levels]) ⟨by simp only; omega, i2, rfl⟩ (by simp only; omega) (Wk.temps ?_)
   (simp only [qA, qbz, qu, List.foldl, List.replicate, go_sem, qr, qp, qm, qq]; try (repeat' first | (with_reducible refine And.intro ?_ ?_) | (refine qh ?_; omega) | (refine qd ?_; rfl) | exact VLe.refl _))
  ·rw [if_neg g1]
   simp (disch := omega) only [qu, List.foldl, List.replicate, qA, qbz, epp, i3', go_sem, qc, dvP, mdP]
   repeat' first
    | ((first | refine qj (qkJ _) ?_ ?_); (next => exact flk); simp (disch := omega) only [g1, go_sem, qc, dvP, mdP])
    | ((first | refine qo (fun _ => qkJ _) ?_ ?_); (next => exact flk); simp (disch := omega) only [g1, go_sem, qc, dvP, mdP])
    | ((first | refine qk (fun e => ⟨?_, qkJ _⟩) ?_); (next => exact flk); simp (disch := omega) only [g1, go_sem, qc, dvP, mdP])
    | ((first | refine qe ?_ ?_ | refine qg ?_ ?_); (next => exact rvk); simp only [go_sem]; (first | exact VLe.refl _ | refine qh ?_ | refine qd ?_ | refine ql ?_ | skip))
    | with_reducible first | refine And.intro ?_ ?_ | intro _
   all_goals try exact clz
 ·have e : i = ps.length := by omega
  subst e
  rw [List.drop_length]
  simp (disch := omega) only [qu, List.foldl, List.replicate, qA, qbz, go_sem, qc, dvP, mdP]
  repeat' first
   | ((first | refine qe ?_ ?_ | refine qg ?_ ?_); (next => exact rvk); simp only [go_sem]; (first | exact VLe.refl _ | refine qh ?_ | refine qd ?_ | refine ql ?_ | skip))
   | with_reducible first | refine And.intro ?_ ?_ | intro _
  all_goals try exact clz
def qas (ps : List Pat) (w : List UInt8) : Int := if jd ps = 0 then (if qaO w = true then 0 else 11) else 1
theorem qy6 (ps : List Pat) (w : List UInt8) (h : List AObj) (hok : qbx ps) (hw : w.length ≤ 1000000000) : qs Tryz.prog 107 [qA ps, .str w] h (.int .i64 (qas ps w)) h := by
 unfold qas
 have qbI := fun h => t64 ps h hok
 have qbJ := fun h => t88 w h hw
 obtain ⟨q, hq⟩ : ∃ q, q = jd ps := ⟨_, rfl⟩
 obtain ⟨u, hu⟩ : ∃ u, u = qaO w := ⟨_, rfl⟩
 rw [← hq] at qbI ⊢
 rw [← hu] at qbJ ⊢
 by_cases g1 : q = 0
 ·rw [if_pos g1]
  cases u with
  | true =>
   refine qn qlA (by simp) ?_
   simp only [lcP, lnP, Nat.reduceAdd, Nat.reduceSub, List.replicate, caP, naP, List.append_nil]
   simp (disch := omega) only [qcp, qA, go_sem, qc, dvP, mdP]
   repeat' first
    | ((first | refine qj (qbI _) ?_ ?_ | refine qj (qbJ _) ?_ ?_); (next => exact flk); simp (disch := omega) only [qA, g1, go_sem, qc, dvP, mdP])
    | ((first | refine qo (fun _ => qbI _) ?_ ?_ | refine qo (fun _ => qbJ _) ?_ ?_); (next => exact flk); simp (disch := omega) only [qA, g1, go_sem, qc, dvP, mdP])
    | ((first | refine qk (fun e => ⟨?_, qbI _⟩) ?_ | refine qk (fun e => ⟨?_, qbJ _⟩) ?_); (next => exact flk); simp (disch := omega) only [qA, g1, go_sem, qc, dvP, mdP])
    | ((first | refine qe ?_ ?_ | refine qg ?_ ?_); (next => exact rvk); simp only [go_sem]; (first | exact VLe.refl _ | refine qh ?_ | refine qd ?_ | refine ql ?_ | skip))
    | with_reducible first | refine And.intro ?_ ?_ | intro _
   all_goals try exact clz
  | false =>
   refine qn qlA (by simp) ?_
   simp only [lcP, lnP, Nat.reduceAdd, Nat.reduceSub, List.replicate, caP, naP, List.append_nil]
   simp (disch := omega) only [qcp, qA, go_sem, qc, dvP, mdP]
   repeat' first
    | ((first | refine qj (qbI _) ?_ ?_ | refine qj (qbJ _) ?_ ?_); (next => exact flk); simp (disch := omega) only [qA, g1, go_sem, qc, dvP, mdP])
    | ((first | refine qo (fun _ => qbI _) ?_ ?_ | refine qo (fun _ => qbJ _) ?_ ?_); (next => exact flk); simp (disch := omega) only [qA, g1, go_sem, qc, dvP, mdP])
    | ((first | refine qk (fun e => ⟨?_, qbI _⟩) ?_ | refine qk (fun e => ⟨?_, qbJ _⟩) ?_); (next => exact flk); simp (disch := omega) only [qA, g1, go_sem, qc, dvP, mdP])
    | ((first | refine qe ?_ ?_ | refine qg ?_ ?_); (next => exact rvk); simp only [go_sem]; (first | exact VLe.refl _ | refine qh ?_ | refine qd ?_ | refine ql ?_ | skip))
    | with_reducible first | refine And.intro ?_ ?_ | intro _
   all_goals try exact clz
 ·rw [if_neg g1]
  refine qn qlA (by simp) ?_
  simp only [lcP, lnP, Nat.reduceAdd, Nat.reduceSub, List.replicate, caP, naP, List.append_nil]
  simp (disch := omega) only [qcp, qA, go_sem, qc, dvP, mdP]
  repeat' first
   | ((first | refine qj (qbI _) ?_ ?_ | refine qj (qbJ _) ?_ ?_); (next => exact flk); simp (disch := omega) only [qA, g1, go_sem, qc, dvP, mdP])
   | ((first | refine qo (fun _ => qbI _) ?_ ?_ | refine qo (fun _ => qbJ _) ?_ ?_); (next => exact flk); simp (disch := omega) only [qA, g1, go_sem, qc, dvP, mdP])
   | ((first | refine qk (fun e => ⟨?_, qbI _⟩) ?_ | refine qk (fun e => ⟨?_, qbJ _⟩) ?_); (next => exact flk); simp (disch := omega) only [qA, g1, go_sem, qc, dvP, mdP])
   | ((first | refine qe ?_ ?_ | refine qg ?_ ?_); (next => exact rvk); simp only [go_sem]; (first | exact VLe.refl _ | refine qh ?_ | refine qd ?_ | refine ql ?_ | skip))
   | with_reducible first | refine And.intro ?_ ?_ | intro _
  all_goals try exact clz
end HY
end
section
open Go Go.Proofs AF HY
namespace HY
set_option maxRecDepth 100000
theorem ql3 {z : List AV} {c : AV} : ∀ {n : Nat}, c ∈ qM z n → c ∈ z := by
 intro n
 induction n with
 | zero => intro h; simp [qM] at h
 | succ n ih => intro h; simp only [qM, List.mem_append] at h; exact h.elim id ih
theorem qze (n : Nat) (h : List AObj) (k : Nat) (hk : zc h k = true) (hn : 0 < n) (hn1 : n ≤ 1000000000) :
  qs Tryz.prog 144 [.nl, .int .i64 n] h (.osl k (qz (qK k h) + 1) 1 0 0) (qN k h (.mem (qz (qK k h) + 1) 9 (qM [.str []] n))) := by
 refine qgg quw k (by simp) ?_
 simp only [lcP, lnP, Nat.reduceAdd, Nat.reduceSub, List.replicate, caP, naP, List.append_nil]
 simp (disch := omega) only [qtF, go_sem, qc, dvP, mdP]
 repeat' first
  | (with_reducible refine And.intro ?_ ?_)
  | (with_reducible intro _)
 all_goals first
  | omega
  | skip
 have e0 : ((n : Int) - (0 - 0)).toNat = n := by omega
 rw [e0]
 exact ⟨h.length + 1, 1, 1, 0, 0, 9, qM [.str []] n, [AObj.emp 1, AObj.mem 1 9 (qM [.str []] n)], ⟨trivial, trivial⟩, rfl, rfl, by omega, by simp only [go_sem], fun c hc => by have := ql3 hc; simp at this; subst this; rfl, hk, rfl, rfl⟩
structure Src (h : List AObj) (e : AV) (n : Nat) (cs : List AV) : Prop where
 flag : e.flag = true
 strip : e.strip = e
 lenOk : ∀ X, okL (h ++ X) .len [e] = True
 len : ∀ X, valL (h ++ X) .len [e] = .int .i64 n
 cells : ∀ X, qy (h ++ X) e = some (n, cs)
 apart : ∀ k v z p m, h.length ≤ k → qdL (.osl k v z p m) e = true
theorem qp7 (a b : List (List UInt8)) : zZ (a ++ b) = zZ a ++ zZ b := by simp [zZ]
theorem jA {α : Type} (L : List (List α)) {i : Nat} (h : i < L.length) : (L.take (i + 1)).flatten = (L.take i).flatten ++ L.getD i [] := by
 rw [List.take_add_one, List.flatten_append, List.getElem?_eq_getElem h]
 simp [List.getD_eq_getElem?_getD, h]
theorem jp {α : Type} (L : List (List α)) (i : Nat) : (L.take i).flatten.length ≤ L.flatten.length := by
 conv => rhs; rw [← List.take_append_drop i L, List.flatten_append, List.length_append]
 omega
set_option maxHeartbeats 4000000 in
theorem qzb (Ls : List (List (List UInt8))) (E : Nat → AV) (h : List AObj) (k v : Nat) (cs : List AV) (hk : qK k h = some (.mem v 23 cs)) (hcl : cs.length = Ls.length) (hE : ∀ i, i < Ls.length → cs[i]? = some (E i) ∧ Src h (E i) (Ls.getD i []).length (zZ (Ls.getD i [])))
  (h0 : 0 < Ls.flatten.length) (h1 : Ls.flatten.length ≤ 1000000000) (h2 : Ls.length ≤ 1000000000) (hv : (v == v) = true) : qs Tryz.prog 138 [.osl k v 1 0 Ls.length] h (qF Ls.flatten) h := by
 have hkl : k < h.length := zS hk
 have hL : ∀ X, zn (h ++ X) k v = true := fun X => by rw [qd0 hkl]; unfold zn; rw [hk]; simp
 have hC : ∀ X, cellsOf (h ++ X) k v = some cs := fun X => by rw [qb7 hkl]; exact jz hk
 have hLs : 0 < Ls.length := by
  cases Ls with
  | nil => simp at h0
  | cons => simp
 refine qn quq (by simp) ?_
 simp only [lcP, lnP, Nat.reduceAdd, Nat.reduceSub, List.replicate, caP, naP, List.append_nil]
 simp (disch := omega) only [qkH, hL, hC, go_sem, qc, dvP, mdP]
 repeat' first
  | ((first | refine qe ?_ ?_ | refine qg ?_ ?_); (next => exact rvk); simp only [go_sem]; (first | exact VLe.refl _ | refine qh ?_ | refine qd ?_ | refine ql ?_ | skip))
  | with_reducible first | refine And.intro ?_ ?_ | intro _
 all_goals try exact clz
 refine qJ (T := fun i : Nat => qu 36 [(0, .osl k v 1 0 Ls.length), (3, .int .i64 (Ls.take i).flatten.length), (9, .osl k v 1 0 Ls.length), (10, .int .i64 Ls.length), (11, .int .i64 i)]) (H := fun i => h ++ [.emp 1, .emp 0, .emp 0])
  (inv := fun i => i ≤ Ls.length) (m := fun i => Ls.length - i) 0 (by omega) (Wk.temps ?_) ?_
 ·(simp only [qu, List.foldl, List.replicate, go_sem, qr, qp, qm, qq]; try (repeat' first | (with_reducible refine And.intro ?_ ?_) | (refine qh ?_; omega) | (refine qd ?_; rfl) | exact VLe.refl _))
 rintro i i1 K hK
 by_cases hi : i < Ls.length
 ·obtain ⟨c1, ⟨s1, s2, s3, s4, s5, s6⟩⟩ := hE i hi
  have hst := jA Ls hi
  have hle := jp Ls (i + 1)
  rw [hst, List.length_append] at hle
  simp (disch := omega) only [qu, List.foldl, List.replicate, hL, hC, c1, s1, s2, s3, s4, hcl, go_sem, qc, dvP, mdP]
  repeat' first
   | ((first | refine qe ?_ ?_ | refine qg ?_ ?_); (next => exact rvk); simp only [go_sem]; (first | exact VLe.refl _ | refine qh ?_ | refine qd ?_ | refine ql ?_ | skip))
   | with_reducible first | refine And.intro ?_ ?_ | intro _
  all_goals try exact clz
  have hln : (List.take (i + 1) Ls).flatten.length = (List.take i Ls).flatten.length + (Ls.getD i []).length := by rw [hst, List.length_append]
  refine hK _ _ (i + 1) (by omega) (by omega) (Wk.temps ?_)
  (simp only [qu, List.foldl, List.replicate, go_sem, qr, qp, qm, qq]; try (repeat' first | (with_reducible refine And.intro ?_ ?_) | (refine qh ?_; omega) | (refine qd ?_; rfl) | exact VLe.refl _))
 have e : i = Ls.length := by omega
 subst e
 rw [List.take_length]
 obtain ⟨N, hN⟩ : ∃ N, N = Ls.flatten.length := ⟨_, rfl⟩
 rw [← hN] at h0 h1 ⊢
 simp (disch := omega) only [qu, List.foldl, List.replicate, hL, hC, hcl, go_sem, qc, dvP, mdP]
 refine ⟨fun hf => absurd hf (by omega), fun _ => ?_⟩
 refine qV (qze N _ (h.length + 2) (by simp only [go_sem]) h0 h1) ⟨rfl, rfl, trivial⟩ ?_
 simp (disch := omega) only [hL, hC, go_sem, qc, dvP, mdP]
 repeat' first
  | ((first | refine qe ?_ ?_ | refine qg ?_ ?_); (next => exact rvk); simp only [go_sem]; (first | exact VLe.refl _ | refine qh ?_ | refine qd ?_ | refine ql ?_ | skip))
  | with_reducible first | refine And.intro ?_ ?_ | intro _
 all_goals try exact clz
 refine qJ (T := fun i : Nat × Nat × Nat => qu 36 [(6, .osl (h.length + 2) i.2.1 1 0 i.2.2), (25, .osl k v 1 0 Ls.length), (26, .int .i64 Ls.length), (27, .int .i64 i.1)]) (H := fun i => h ++ [.emp 1, .emp 0, .mem i.2.1 9 (if i.1 = 0 then qM [.str []] N else zZ (Ls.take i.1).flatten)])
  (inv := fun i => i.1 ≤ Ls.length ∧ i.2.2 = (Ls.take i.1).flatten.length) (m := fun i => Ls.length - i.1) (0, 1, 0) ⟨by simp, by simp⟩ (Wk.temps ?_) ?_
 ·(simp only [qu, List.foldl, List.replicate, go_sem, qr, qp, qm, qq]; try (repeat' first | (with_reducible refine And.intro ?_ ?_) | (refine qh ?_; omega) | (refine qd ?_; rfl) | exact VLe.refl _))
 rintro ⟨i, w, m⟩ ⟨i1, i2⟩ K hK
 simp only at i1 i2 hK
 by_cases hi : i < Ls.length
 ·obtain ⟨c1, ⟨s1, s2, s3, s4, s5, s6⟩⟩ := hE i hi
  have hst := jA Ls hi
  have hle := jp Ls (i + 1)
  rw [hst, List.length_append, ← hN] at hle
  have eT : ∀ n, List.take m (if i = 0 then qM [.str []] n else zZ (Ls.take i).flatten) = zZ (Ls.take i).flatten := by
   intro n
   split
   ·rename_i e0; subst e0; subst i2; rfl
   ·exact List.take_of_length_le (by rw [zy, i2]; exact Nat.le_refl _)
  obtain ⟨ms, hms⟩ : ∃ ms, ms = (if i = 0 then qM [.str []] N else zZ (Ls.take i).flatten) := ⟨_, rfl⟩
  have eT' := eT N
  rw [← hms] at eT' ⊢
  have hml : m ≤ ms.length := by
   have := congrArg List.length eT'
   rw [List.length_take, zy, ← i2] at this
   omega
  have hsl := zy (Ls.getD i [])
  simp (disch := omega) only [qu, List.foldl, List.replicate, hL, hC, c1, s1, s2, s3, s4, s5, s6, hcl, eT', hsl, go_sem, qc, dvP, mdP]
  repeat' first
   | ((first | refine qe ?_ ?_ | refine qg ?_ ?_); (next => exact rvk); simp only [go_sem]; (first | exact VLe.refl _ | refine qh ?_ | refine qd ?_ | refine ql ?_ | skip))
   | with_reducible first | refine And.intro ?_ ?_ | intro _
  all_goals try exact clz
  have hfin : h ++ [AObj.emp 1, AObj.emp 0, AObj.mem (w + 1) 9 (zZ (List.take i Ls).flatten ++ zZ (Ls.getD i []))] = h ++ [AObj.emp 1, AObj.emp 0, AObj.mem (w + 1) 9 (if i + 1 = 0 then qM [.str []] N else zZ (Ls.take (i + 1)).flatten)] := by rw [if_neg (by omega), hst, qp7]
  rw [hfin]
  refine hK _ _ (i + 1, w + 1, m + (Ls.getD i []).length) ⟨by simp only; omega, by simp only; rw [hst, List.length_append, i2]⟩ (by simp only; omega) (Wk.temps ?_)
  (simp only [qu, List.foldl, List.replicate, go_sem, qr, qp, qm, qq]; try (repeat' first | (with_reducible refine And.intro ?_ ?_) | (refine qh ?_; omega) | (refine qd ?_; rfl) | exact VLe.refl _))
 ·have e : i = Ls.length := by omega
  subst e
  rw [List.take_length, ← hN] at i2
  subst i2
  rw [List.take_length, if_neg (by omega)]
  have eL : (zZ Ls.flatten).length = m := by rw [zy, hN]
  simp (disch := omega) only [qu, List.foldl, List.replicate, hL, hC, hcl, eL, go_sem, qc, dvP, mdP]
  repeat' first
   | ((first | refine qe ?_ ?_ | refine qg ?_ ?_); (next => exact rvk); simp only [go_sem]; (first | exact VLe.refl _ | refine qh ?_ | refine qd ?_ | refine ql ?_ | skip))
   | with_reducible first | refine And.intro ?_ ?_ | intro _
  all_goals try exact clz
  rw [if_pos (by omega)]
  exact qeK hN.symm
end HY
end
section
open Go Go.Proofs AF HY
namespace HY
set_option maxRecDepth 100000
def eqS (n m : Nat) (f g : Nat → List UInt8) : Bool := decide (n = m) && (List.range n).all fun i => decide (f i = g i)
def qbS (pat l : List (List UInt8)) (at_ : Nat) : Bool := (List.range pat.length).all fun i => decide (l.getD (at_ + i) [] = pat.getD i [])
def ze (pat l : List (List UInt8)) : List Nat := (List.range (l.length + 1 - pat.length)).filter (qbS pat l)
def addAt (all : List Int) (at_ : Nat) : List Int → List Int
 | [] => all
 | x :: r => addAt (all.set at_ (max (all.getD at_ 0) x)) (at_ + 1) r
def qdH (l : List (List UInt8)) (all : List Int) (p : Pat) : List Int := (ze (qU (jZ p.letters)) l).foldl (fun a i => addAt a i p.levels) all
def qaa (w : List UInt8) : List (List UInt8) := [46] :: (qU (jZ w) ++ [[46]])
def qah (ps : List Pat) (l : List (List UInt8)) : List Int := ps.foldl (qdH l) (List.replicate (l.length + 1) 0)
def jg (ps : List Pat) (w : List UInt8) : List Int := ((qah ps (qaa w)).drop 2).take ((qaa w).length - 1 - 2)
theorem qeW (r : List Int) : ∀ (all : List Int) (i : Nat), (addAt all i r).length = all.length := by
 induction r with
 | nil => intro all i; rfl
 | cons x r ih => intro all i; simp only [addAt]; rw [ih, List.length_set]
theorem qc1 {α : Type} {f : List Int → α → List Int} (hf : ∀ a x, (f a x).length = a.length) (l : List α) : ∀ all, (l.foldl f all).length = all.length := by
 induction l with
 | nil => intro all; rfl
 | cons x l ih => intro all; rw [List.foldl_cons, ih, hf]
theorem qdI (l : List (List UInt8)) (all : List Int) (p : Pat) : (qdH l all p).length = all.length := qc1 (fun a x => qeW _ _ _) _ _
theorem qln {p : Nat → Bool} {N i : Nat} (h : i < N) : ∃ rest, (List.range N).filter p = (List.range (i + 1)).filter p ++ rest := by
 obtain ⟨r, rfl⟩ : ∃ r, N = i + 1 + r := ⟨N - (i + 1), by omega⟩
 exact ⟨_, by rw [List.range_add, List.filter_append]⟩
theorem jT {p : Nat → Bool} {i : Nat} (h : p i = true) : (List.range (i + 1)).filter p = (List.range i).filter p ++ [i] := by
 rw [List.range_succ, List.filter_append]; simp [h]
theorem kU {p : Nat → Bool} {i : Nat} (h : p i = false) : (List.range (i + 1)).filter p = (List.range i).filter p := by
 rw [List.range_succ, List.filter_append]; simp [h]
theorem qip {p : Nat → Bool} {N i : Nat} (h : i < N) (hp : p i = true) : ∃ (hj : ((List.range i).filter p).length < ((List.range N).filter p).length), ((List.range N).filter p)[((List.range i).filter p).length] = i := by
 obtain ⟨rest, e⟩ := qln (p := p) h
 rw [jT hp, List.append_assoc] at e
 refine ⟨by rw [e]; simp, ?_⟩
 simp only [e]
 rw [List.getElem_append_right (Nat.le_refl _)]
 simp
theorem qob {f g : Nat → List UInt8} {n i : Nat} (h : ∀ j, j < n → f j = g j) : ((List.range n).all fun i => decide (f i = g i)) = true := by
 rw [List.all_eq_true]
 intro j hj
 simpa using h j (by simpa using hj)
theorem qjO {f g : Nat → List UInt8} {n i : Nat} (hi : i < n) (h : ¬ f i = g i) : ((List.range n).all fun i => decide (f i = g i)) = false := by
 rw [Bool.eq_false_iff]
 intro hc
 rw [List.all_eq_true] at hc
 have := hc i (by simpa using hi)
 simp at this
 exact h this
theorem qyE (n m : Nat) (f g : Nat → List UInt8) (h : List AObj) (hn : n ≤ 1000000000) : qs Tryz.prog 54 [.sl n fun i => [.str (f i)], .sl m fun i => [.str (g i)]] h (.bool (eqS n m f g)) h := by
 unfold eqS
 by_cases g0 : n = m
 ·subst g0
  refine qn quE (by simp) ?_
  simp only [lcP, lnP, Nat.reduceAdd, Nat.reduceSub, List.replicate, caP, naP, List.append_nil]
  simp (disch := omega) only [qjL, go_sem, qc, dvP, mdP]
  repeat' first
   | ((first | refine qe ?_ ?_ | refine qg ?_ ?_); (next => exact rvk); simp only [go_sem]; (first | exact VLe.refl _ | refine qh ?_ | refine qd ?_ | refine ql ?_ | skip))
   | with_reducible first | refine And.intro ?_ ?_ | intro _
  all_goals try exact clz
  refine qJ (T := fun i : Nat => qu 26 [(0, .sl n fun i => [.str (f i)]), (1, .sl n fun i => [.str (g i)]), (12, .int .i64 n), (13, .int .i64 i)]) (H := fun _ => h) (inv := fun i => i ≤ n ∧ ∀ j, j < i → f j = g j) (m := fun i => n - i) 0 ⟨by omega, by omega⟩ (Wk.temps ?_) ?_
  ·(simp only [qu, List.foldl, List.replicate, go_sem, qr, qp, qm, qq]; try (repeat' first | (with_reducible refine And.intro ?_ ?_) | (refine qh ?_; omega) | (refine qd ?_; rfl) | exact VLe.refl _))
  rintro i ⟨i1, i2⟩ K hK
  by_cases hi : i < n
  ·by_cases hb : f i = g i
   ·have k1 : (f i = g i) = True := eq_true hb
    simp (disch := omega) only [qu, List.foldl, List.replicate, k1, go_sem, qc, dvP, mdP]
    repeat' first
     | ((first | refine qe ?_ ?_ | refine qg ?_ ?_); (next => exact rvk); simp only [go_sem]; (first | exact VLe.refl _ | refine qh ?_ | refine qd ?_ | refine ql ?_ | skip))
     | with_reducible first | refine And.intro ?_ ?_ | intro _
    all_goals try exact clz
    refine hK _ _ (i + 1) ⟨by omega, fun j hj => ?_⟩ (by omega) (Wk.temps ?_)
    ·by_cases e : j = i
     ·subst e; exact hb
     ·exact i2 j (by omega)
    ·(simp only [qu, List.foldl, List.replicate, go_sem, qr, qp, qm, qq]; try (repeat' first | (with_reducible refine And.intro ?_ ?_) | (refine qh ?_; omega) | (refine qd ?_; rfl) | exact VLe.refl _))
   ·have k1 : (f i = g i) = False := eq_false hb
    rw [qjO hi hb]
    simp (disch := omega) only [qu, List.foldl, List.replicate, k1, go_sem, qc, dvP, mdP]
    repeat' first
     | ((first | refine qe ?_ ?_ | refine qg ?_ ?_); (next => exact rvk); simp only [go_sem]; (first | exact VLe.refl _ | refine qh ?_ | refine qd ?_ | refine ql ?_ | skip))
     | with_reducible first | refine And.intro ?_ ?_ | intro _
    all_goals try exact clz
  ·have e : i = n := by omega
   subst e
   rw [qob (i := 0) i2]
   simp (disch := omega) only [qu, List.foldl, List.replicate, go_sem, qc, dvP, mdP]
   repeat' first
    | ((first | refine qe ?_ ?_ | refine qg ?_ ?_); (next => exact rvk); simp only [go_sem]; (first | exact VLe.refl _ | refine qh ?_ | refine qd ?_ | refine ql ?_ | skip))
    | with_reducible first | refine And.intro ?_ ?_ | intro _
   all_goals try exact clz
 ·have k0 : ((n : Int) = m) = False := eq_false (by omega)
  rw [decide_eq_false g0]
  refine qn quE (by simp) ?_
  simp only [lcP, lnP, Nat.reduceAdd, Nat.reduceSub, List.replicate, caP, naP, List.append_nil]
  simp (disch := omega) only [qjL, k0, go_sem, qc, dvP, mdP]
  repeat' first
   | ((first | refine qe ?_ ?_ | refine qg ?_ ?_); (next => exact rvk); simp only [go_sem]; (first | exact VLe.refl _ | refine qh ?_ | refine qd ?_ | refine ql ?_ | skip))
   | with_reducible first | refine And.intro ?_ ?_ | intro _
  all_goals try exact clz
theorem qay (s : List UInt8) : (jZ s).length = s.length := by simp [jZ]
theorem qyC (s : List UInt8) (h : List AObj) (hs : s.length ≤ 1000000000) : qs Tryz.prog 139 [.str s] h (qF (qU (jZ s))) h := by
 refine qn qur (by simp) ?_
 simp only [lcP, lnP, Nat.reduceAdd, Nat.reduceSub, List.replicate, caP, naP, List.append_nil]
 simp (disch := omega) only [qh6, go_sem, qc, dvP, mdP]
 repeat' first
  | ((first | refine qj (qyD s _ hs) ?_ ?_ | refine qj (qwb (jZ s) _ (by rw [qay]; exact hs)) ?_ ?_); (next => exact flk); simp (disch := omega) only [qF, go_sem, qc, dvP, mdP])
  | ((first | refine qk (fun e => ⟨?_, qyD s _ hs⟩) ?_ | refine qk (fun e => ⟨?_, qwb (jZ s) _ (by rw [qay]; exact hs)⟩) ?_); (next => exact flk); simp (disch := omega) only [qF, go_sem, qc, dvP, mdP])
  | ((first | refine qe ?_ ?_ | refine qg ?_ ?_); (next => exact rvk); simp only [go_sem]; (first | exact VLe.refl _ | refine qh ?_ | refine qd ?_ | refine ql ?_ | skip))
  | with_reducible first | refine And.intro ?_ ?_ | intro _
 all_goals try exact clz
def qdf (a b : List (List UInt8)) : AV := .fn (.func 146) [] [.ip [qF a], .ip [qF b]]
theorem qff (a b : List (List UInt8)) : (qdf a b).flag = true := rfl
theorem qeI (a b : List (List UInt8)) : (qdf a b).strip = qdf a b := rfl
attribute [go_sem] qff qeI
theorem qzd (a b : List (List UInt8)) (h : List AObj) : qs Tryz.prog 141 [qF a, qF b] h (qdf a b) h := by
 refine qn qut (by simp) ?_
 simp only [lcP, lnP, Nat.reduceAdd, Nat.reduceSub, List.replicate, caP, naP, List.append_nil]
 simp (disch := omega) only [qh7, qF, go_sem, qc, dvP, mdP]
 repeat' first
  | ((first | refine qe ?_ ?_ | refine qg ?_ ?_); (next => exact rvk); simp only [go_sem]; (first | exact VLe.refl _ | refine qh ?_ | refine qd ?_ | refine ql ?_ | skip))
  | with_reducible first | refine And.intro ?_ ?_ | intro _
 all_goals try exact clz
def qiV (a b : List (List UInt8)) : List (List AV) := (ze a b).map fun (i : Nat) => [.int .i64 (i : Int)]
theorem ql2 (pat l : List (List UInt8)) (i : Nat) : eqS pat.length pat.length (fun k => l.getD (i + k) []) (fun k => pat.getD k []) = qbS pat l i := by simp [eqS, qbS]
theorem qxc (pat l : List (List UInt8)) (hp : pat.length ≤ 1000000000) (hl : l.length ≤ 1000000000) : qv3 Tryz.prog 146 [.ip [qF pat], .ip [qF l]] (qiV pat l) := by
 intro h ts L S E hS hE body start hts
 refine kB quy (by simp) ?_
 simp only [lcP, lnP, Nat.reduceAdd, Nat.reduceSub, List.replicate, caP, naP, List.append_nil]
 simp (disch := omega) only [qtH, qF, go_sem, qc, dvP, mdP]
 repeat' first
  | ((first | refine qe ?_ ?_ | refine qg ?_ ?_); (next => exact rvk); simp only [go_sem]; (first | exact VLe.refl _ | refine qh ?_ | refine qd ?_ | refine ql ?_ | skip))
  | with_reducible first | refine And.intro ?_ ?_ | intro _
 all_goals try exact clz
 refine qJ (T := fun i : Nat × List AObj => qu 29 [(0, .yld h.length), (1, .ip [qF pat]), (2, .ip [qF l]), (4, .int .i64 i.1)]) (H := fun i => i.2 ++ [.lp .ready ts L])
  (inv := fun i => S ((List.range i.1).filter (qbS pat l)).length i.2 ∧ i.1 ≤ l.length + 1 - pat.length) (m := fun i => l.length + 1 - i.1) (0, h) ⟨start, by simp⟩ (Wk.temps ?_) ?_
 ·(simp only [qF, qu, List.foldl, List.replicate, go_sem, qr, qp, qm, qq]; try (repeat' first | (with_reducible refine And.intro ?_ ?_) | (refine qh ?_; omega) | (refine qd ?_; rfl) | exact VLe.refl _))
 rintro ⟨i, hh⟩ ⟨i1, i2⟩ K hK
 simp only at i1 i2 hK
 obtain ⟨hlen, hlow⟩ := hS _ _ i1
 have he := ql2 pat l i
 have hx : ((i : Int) + (pat.length : Int)).toNat - i = pat.length := by omega
 by_cases hi : i < l.length + 1 - pat.length
 ·have k0 : ((i : Int) + (pat.length : Int) ≤ (l.length : Int)) = True := eq_true (by omega)
  have qjL := fun h => qyE pat.length pat.length (fun k => l.getD (i + k) []) (fun k => pat.getD k []) h hp
  cases hb : qbS pat l i with
  | false =>
   rw [he, hb] at qjL
   rw [← kU hb] at i1
   simp (disch := omega) only [qu, List.foldl, List.replicate, qF, k0, hx, go_sem, qc, dvP, mdP]
   repeat' first
    | ((first | refine qj (qjL _) ?_ ?_); (next => exact flk); simp (disch := omega) only [qF, k0, hx, go_sem, qc, dvP, mdP])
    | ((first | refine qo (fun _ => qjL _) ?_ ?_); (next => exact flk); simp (disch := omega) only [qF, k0, hx, go_sem, qc, dvP, mdP])
    | ((first | refine qk (fun e => ⟨?_, qjL _⟩) ?_); (next => exact flk); simp (disch := omega) only [qF, k0, hx, go_sem, qc, dvP, mdP])
    | ((first | refine qe ?_ ?_ | refine qg ?_ ?_); (next => exact rvk); simp only [go_sem]; (first | exact VLe.refl _ | refine qh ?_ | refine qd ?_ | refine ql ?_ | skip))
    | with_reducible first | refine And.intro ?_ ?_ | intro _
   all_goals try exact clz
   refine hK _ _ (i + 1, hh) ⟨i1, by simp only; omega⟩ (by simp only; omega) (Wk.temps ?_)
   (simp only [qF, qu, List.foldl, List.replicate, go_sem, qr, qp, qm, qq]; try (repeat' first | (with_reducible refine And.intro ?_ ?_) | (refine qh ?_; omega) | (refine qd ?_; rfl) | exact VLe.refl _))
  | true =>
   rw [he, hb] at qjL
   obtain ⟨hj, hget⟩ := qip hi hb
   have hb' := body _ hh [] (by simpa [qiV, ze] using hj) i1
   have hxx : (qiV pat l)[((List.range i).filter (qbS pat l)).length]'(by simpa [qiV, ze] using hj) = [.int .i64 (i : Int)] := by
    simp only [qiV, ze, List.getElem_map, hget]
   rw [hxx] at hb'
   simp (disch := omega) only [qu, List.foldl, List.replicate, qF, k0, hx, go_sem, qc, dvP, mdP]
   repeat' first
    | ((first | refine qj (qjL _) ?_ ?_); (next => exact flk); simp (disch := omega) only [qF, k0, hx, go_sem, qc, dvP, mdP])
    | ((first | refine qo (fun _ => qjL _) ?_ ?_); (next => exact flk); simp (disch := omega) only [qF, k0, hx, go_sem, qc, dvP, mdP])
    | ((first | refine qk (fun e => ⟨?_, qjL _⟩) ?_); (next => exact flk); simp (disch := omega) only [qF, k0, hx, go_sem, qc, dvP, mdP])
    | ((first | refine qe ?_ ?_ | refine qg ?_ ?_); (next => exact rvk); simp only [go_sem]; (first | exact VLe.refl _ | refine qh ?_ | refine qd ?_ | refine ql ?_ | skip))
    | with_reducible first | refine And.intro ?_ ?_ | intro _
   all_goals try exact clz
   all_goals first
    | exact ⟨.ready, ts, L, qcb hlen⟩
    | skip
   refine kf.mono ?_ hb'
   rintro v h' ⟨hh', ⟨rfl, hn, rfl⟩ | ⟨st, rfl, hs', rfl⟩⟩
   ·simp (disch := omega) only [go_sem, qc, dvP, mdP]
    repeat' first
     | ((first | refine qe ?_ ?_ | refine qg ?_ ?_); (next => exact rvk); simp only [go_sem]; (first | exact VLe.refl _ | refine qh ?_ | refine qd ?_ | refine ql ?_ | skip))
     | with_reducible first | refine And.intro ?_ ?_ | intro _
    all_goals try exact clz
    refine hK _ _ (i + 1, hh') ⟨?_, by simp only; omega⟩ (by simp only; omega) (Wk.temps ?_)
    ·simp only
     rw [jT hb, List.length_append]
     exact hn
    ·(simp only [qF, qu, List.foldl, List.replicate, go_sem, qr, qp, qm, qq]; try (repeat' first | (with_reducible refine And.intro ?_ ?_) | (refine qh ?_; omega) | (refine qd ?_; rfl) | exact VLe.refl _))
   ·simp (disch := omega) only [go_sem, qc, dvP, mdP]
    obtain ⟨r1, r2⟩ := (hE _ _ hs').ret (L := L) st hts
    exact qhq trivial r1 r2 ⟨_, .inr ⟨st, hs', rfl⟩⟩ (VLe.refl _)
 ·have k0 : ((i : Int) + (pat.length : Int) ≤ (l.length : Int)) = False := eq_false (by omega)
  have e : i = l.length + 1 - pat.length := by omega
  simp (disch := omega) only [qu, List.foldl, List.replicate, qF, k0, go_sem, qc, dvP, mdP]
  repeat' first
   | ((first | refine qe ?_ ?_ | refine qg ?_ ?_); (next => exact rvk); simp only [go_sem]; (first | exact VLe.refl _ | refine qh ?_ | refine qd ?_ | refine ql ?_ | skip))
   | with_reducible first | refine And.intro ?_ ?_ | intro _
  all_goals try exact clz
  subst e
  obtain ⟨r1, r2⟩ := (hS _ _ i1).ret (L := L) .ready hts
  exact qc0 trivial r1 r2 ⟨hh, .inl ⟨by simpa [qiV, ze] using i1, rfl⟩⟩ (VLe.refl _)
end HY
end
section
open Go Go.Proofs AF HY
namespace HY
set_option maxRecDepth 100000
theorem qkN {P : Program} {f : Nat} {first cap args : List AV} {d : Option Nat} {nx : Nx} {t : List AV} {h h' : List AObj} {v : AV} (hc : qs P f (first ++ args ++ cap) h v h') (hn : nx (qY t d v) h') : qbM P (.fn (.func f) first cap :: args) d nx t h := ⟨v, h', hc, hn⟩
theorem qfq (all : List Int) {a : Nat} (x : Int) (ha : a < all.length) : List.take a (qX all) ++ [.int .i64 x] ++ List.drop (a + 1) (qX all) = qX (all.set a x) := by
 unfold qX
 rw [List.map_set, List.set_eq_take_append_cons_drop, if_pos (by simpa using ha), List.append_assoc]
 rfl
theorem qbn {all : List Int} {a : Nat} (ha : a < all.length) : (qX all)[a]? = some (.int .i64 (all.getD a 0)) := by simp [qX, List.getD_eq_getElem?_getD, ha]
theorem qc2 {all : List Int} {n : Nat} : qc8 n (.mem 1 3 (qX all)) := by
 intro c hc
 unfold qX at hc
 rw [List.mem_map] at hc
 obtain ⟨x, _, rfl⟩ := hc
 rfl
theorem qaD (n : Nat) : qM [.int .i64 0] n = qX (List.replicate n 0) := by
 induction n with
 | zero => rfl
 | succ n ih => simp only [qM, ih, List.replicate_succ]; rfl
theorem qzc (k v k2 n a : Nat) (all : List Int) (z x : Int) (h : List AObj) (hk : qK k h = some (.mem v 42 [.osl k2 1 1 0 n])) (hk2 : qK k2 h = some (.mem 1 3 (qX all))) (hn : all.length = n) (ha : a < n) (hz : z = a) :
  qs Tryz.prog 140 [.int .i64 z, .int .i64 x, .op k v 0] h (.tup []) (qN k2 h (.mem 1 3 (qX (all.set a (max (all.getD a 0) x))))) := by
 subst hz
 subst hn
 have hc := jz hk
 have hc2 := jz hk2
 have hg := qbn ha
 have hlen := zm all
 have hst := qfq all (max (all.getD a 0) x) ha
 refine qn qus (by simp) ?_
 simp only [lcP, lnP, Nat.reduceAdd, Nat.reduceSub, List.replicate, caP, naP, List.append_nil]
 simp (disch := omega) only [qtC, hc, hc2, hk2, hg, hlen, go_sem, qc, dvP, mdP]
 repeat' first
  | ((first | refine qe ?_ ?_ | refine qg ?_ ?_); (next => exact rvk); simp only [go_sem]; (first | exact VLe.refl _ | refine qh ?_ | refine qd ?_ | refine ql ?_ | skip))
  | with_reducible first | refine And.intro ?_ ?_ | intro _
 all_goals try exact clz
 rw [hst]
 refine qc0 trivial zd (fun o ho => ?_) ⟨rfl, rfl⟩ (VLe.refl _)
 rcases qbt ho with h4 | rfl
 ·exact .inl h4
 ·exact .inr qc2
theorem qvA (h : List AObj) (L : List (List UInt8)) : Src h (qF L) L.length (zZ L) := by
 refine ⟨rfl, rfl, fun X => rfl, fun X => rfl, fun X => ?_, fun k v z p m _ => rfl⟩
 show some (L.length, (List.range L.length).flatMap fun i => [AV.str (L.getD i [])]) = _
 congr 2
 rw [← List.map_eq_flatMap]
 unfold zZ
 apply List.ext_getElem
 ·simp
 ·intro i h1 h2
  simp at h1
  simp [List.getD_eq_getElem?_getD, h1]
theorem qni {h : List AObj} {k v : Nat} {ty : TypeId} {L : List (List UInt8)} (hk : qK k h = some (.mem v ty (zZ L))) : Src h (.osl k v 1 0 L.length) L.length (zZ L) := by
 have hkl := zS hk
 refine ⟨rfl, rfl, fun X => ?_, fun X => rfl, fun X => ?_, fun k' v' z p m hk' => ?_⟩
 ·show (zn (h ++ X) k v = true) = True
  rw [qd0 hkl]
  unfold zn
  rw [hk]
  simp
 ·rw [qaV, zO hkl, hk, qfZ, if_pos (by rw [zy]; simp)]
  simp [zy]
  try exact List.take_of_length_le (by rw [zy]; exact Nat.le_refl _)
 ·show (k' != k) = true
  rw [bne_iff_ne]
  omega
theorem qh5 (w : List UInt8) (b : Nat) (H : List AObj) (hw : w.length ≤ 1000000000 - 2) (h1 : qK (b + 1) H = some (.mem 1 9 [.str [46]])) (h2 : qK (b + 2) H = some (.mem 1 9 [.str [46]]))
  (h3 : qK (b + 3) H = some (.mem 1 23 [.osl (b + 1) 1 1 0 1, qF (qU (jZ w)), .osl (b + 2) 1 1 0 1])) : qs Tryz.prog 138 [.osl (b + 3) 1 1 0 3] H (qF (qaa w)) H := by
 have hcl := jo (jZ w)
 rw [qay] at hcl
 have e : qaa w = [[[46]], qU (jZ w), [[46]]].flatten := by simp [qaa]
 rw [e]
 refine qzb [[[46]], qU (jZ w), [[46]]] (fun i => if i = 0 then .osl (b + 1) 1 1 0 1 else if i = 1 then qF (qU (jZ w)) else .osl (b + 2) 1 1 0 1) H (b + 3) 1 _ h3 rfl ?_ (by simp) (by simp; omega) (by simp) (by simp)
 intro i hi
 have : i = 0 ∨ i = 1 ∨ i = 2 := by have : i < 3 := hi; omega
 rcases this with rfl | rfl | rfl
 ·exact ⟨rfl, qni (L := [[46]]) h1⟩
 ·exact ⟨rfl, qvA H _⟩
 ·exact ⟨rfl, qni (L := [[46]]) h2⟩
theorem qlQ {p : List Int} {k m n : Nat} {fz : Nat → Bool} {h : List AObj} (e : k + m ≤ p.length) : VLe (.sl m fun i => ((List.drop (k + i) (qX p)).take 1).map (rei fz h (n + 1))) (qw ((p.drop k).take m)) := by
 refine qcM (by rw [List.length_take, List.length_drop]; omega) (fun i hi => ?_)
 rw [List.length_take, List.length_drop] at hi
 have h1 : k + i < (qX p).length := by rw [zm]; omega
 rw [List.drop_eq_getElem_cons h1]
 simp [qX, List.getD_eq_getElem?_getD, show i < m by omega, show k + i < p.length by omega]
 rfl
theorem qE {z : List AV} : qM z 1 = z := by simp [qM]
theorem qhw {z : List AV} : qM z 3 = z ++ (z ++ z) := by simp [qM]
def qbv (b : Nat) (A : List (List UInt8)) (len : Nat) (all : List Int) (O : AObj) : List AObj :=
 [.emp 1, .mem 1 9 [.str [46]], .mem 1 9 [.str [46]], .mem 1 23 [.osl (b + 1) 1 1 0 1, qF A, .osl (b + 2) 1 1 0 1], .mem 1 3 (qX all), .mem 1 42 [.osl (b + 4) 1 1 0 len], .mem 1 179 [.fn (.func 140) [] [.op (b + 5) 1 0]], O]
def qhR (ps : List Pat) : Prop := ∀ i, i < ps.length → (ps.getD i default).levels.length = (qU (jZ (ps.getD i default).letters)).length + 1
set_option maxHeartbeats 4000000 in
theorem qy9 (ps : List Pat) (w : List UInt8) (h : List AObj) (hok : qbx ps) (hw : w.length ≤ 1000000) (hw0 : 0 < (qU (jZ w)).length) (hwf : qhR ps) : qs Tryz.prog 131 [qA ps, .str w] h (qw (jg ps w)) h := by
 have hcl := jo (jZ w)
 rw [qay] at hcl
 obtain ⟨A, hA⟩ : ∃ A, A = qU (jZ w) := ⟨_, rfl⟩
 have qh6 : ∀ h, qs Tryz.prog 139 [.str w] h (qF A) h := fun h => by rw [hA]; exact qyC w h (by omega)
 have hul : (qaa w).length = A.length + 2 := by rw [hA]; simp [qaa]
 obtain ⟨l, hl⟩ : ∃ l, l = qaa w := ⟨_, rfl⟩
 have qkH : ∀ H : List AObj, qK (h.length + 1) H = some (.mem 1 9 [.str [46]]) → qK (h.length + 2) H = some (.mem 1 9 [.str [46]]) → qK (h.length + 3) H = some (.mem 1 23 [.osl (h.length + 1) 1 1 0 1, qF A, .osl (h.length + 2) 1 1 0 1]) →
   qs Tryz.prog 138 [.osl (h.length + 3) 1 1 0 3] H (qF l) H := fun H h1 h2 h3 => by
  rw [hl]; rw [hA] at h3; exact qh5 w h.length H (by omega) h1 h2 h3
 unfold jg
 rw [← hl] at hul ⊢
 rw [← hA] at hw0 hcl
 obtain ⟨hpl, hp⟩ := hok
 have hz : ((l.length : Int) + 1).toNat = l.length + 1 := by omega
 refine qn qul (by simp) ?_
 simp only [lcP, lnP, Nat.reduceAdd, Nat.reduceSub, List.replicate, caP, naP, List.append_nil]
 simp (disch := omega) only [qgn, qA, qF, qE, qhw, hz, qaD, go_sem, qc, dvP, mdP]
 repeat' first
  | ((first | refine qj (qh6 _) ?_ ?_ | refine qj (qkH _ (by simp only [qF, go_sem]) (by simp only [qF, go_sem]) (by simp only [qF, go_sem])) ?_ ?_); (next => exact flk); simp (disch := omega) only [qA, qF, qE, qhw, hz, qaD, go_sem, qc, dvP, mdP])
  | ((first | refine qo (fun _ => qh6 _) ?_ ?_); (next => exact flk); simp (disch := omega) only [qA, qF, qE, qhw, hz, qaD, go_sem, qc, dvP, mdP])
  | ((first | refine qk (fun e => ⟨?_, qh6 _⟩) ?_ | refine qk (fun e => ⟨?_, qkH _ (by simp only [qF, go_sem]) (by simp only [qF, go_sem]) (by simp only [qF, go_sem])⟩) ?_); (next => exact flk); simp (disch := omega) only [qA, qF, qE, qhw, hz, qaD, go_sem, qc, dvP, mdP])
  | ((first | refine qe ?_ ?_ | refine qg ?_ ?_); (next => exact rvk); simp only [go_sem]; (first | exact VLe.refl _ | refine qh ?_ | refine qd ?_ | refine ql ?_ | skip))
  | with_reducible first | refine And.intro ?_ ?_ | intro _
 all_goals try exact clz
 refine qJ (T := fun i : Nat × List Int × AObj => qu 57 [(5, qF l), (6, .op (h.length + 5) 1 0), (7, .op (h.length + 6) 1 0), (24, qA ps), (25, .int .i64 ps.length), (26, .int .i64 i.1)]) (H := fun i => h ++ qbv h.length A (l.length + 1) i.2.1 i.2.2)
  (inv := fun i => i.1 ≤ ps.length ∧ i.2.1.length = l.length + 1 ∧ qah ps l = (ps.drop i.1).foldl (qdH l) i.2.1 ∧ zc [i.2.2] 0 = true) (m := fun i => ps.length - i.1) (0, List.replicate (l.length + 1) 0, .emp 0) ⟨by simp, by simp, by simp [qah], rfl⟩ (Wk.temps ?_) ?_
 ·(simp only [qF, qA, qu, List.foldl, List.replicate, go_sem, qr, qp, qm, qq]; try (repeat' first | (with_reducible refine And.intro ?_ ?_) | (refine qh ?_; omega) | (refine qd ?_; rfl) | exact VLe.refl _))
 rintro ⟨i, all, O⟩ ⟨i1, i2, i3, i4⟩ K hK
 simp only at i1 i2 i3 i4 hK
 have i4' : ∀ m, zc (O :: m) 0 = true := fun _ => i4
 by_cases hi : i < ps.length
 ·obtain ⟨b1, b2⟩ := hp i hi
  have hwp := hwf i hi
  rw [qel hi, List.foldl_cons] at i3
  obtain ⟨p, hpp⟩ : ∃ p, p = ps.getD i default := ⟨_, rfl⟩
  have epp := hpp.symm
  rw [← hpp] at i3 b1 b2 hwp
  obtain ⟨pat, hpat⟩ : ∃ pat, pat = qU (jZ p.letters) := ⟨_, rfl⟩
  have c136p : ∀ h, qs Tryz.prog 139 [.str p.letters] h (qF pat) h := fun h => by rw [hpat]; exact qyC _ h b1
  have hpl2 := jo (jZ p.letters)
  rw [qay] at hpl2
  rw [← hpat] at hwp hpl2
  have qh7 := fun h => qzd pat l h
  have hit := qxc pat l (by omega) (by omega)
  simp (disch := omega) only [qu, List.foldl, List.replicate, qA, qbz, epp, i4', qbv, go_sem, qc, dvP, mdP]
  repeat' first
   | ((first | refine qj (c136p _) ?_ ?_ | refine qj (qh7 _) ?_ ?_); (next => exact flk); simp (disch := omega) only [qA, qbz, epp, i4', qF, qbv, go_sem, qc, dvP, mdP])
   | ((first | refine qo (fun _ => c136p _) ?_ ?_ | refine qo (fun _ => qh7 _) ?_ ?_); (next => exact flk); simp (disch := omega) only [qA, qbz, epp, i4', qF, qbv, go_sem, qc, dvP, mdP])
   | ((first | refine qk (fun e => ⟨?_, c136p _⟩) ?_ | refine qk (fun e => ⟨?_, qh7 _⟩) ?_); (next => exact flk); simp (disch := omega) only [qA, qbz, epp, i4', qF, qbv, go_sem, qc, dvP, mdP])
   | ((first | refine qe ?_ ?_ | refine qg ?_ ?_); (next => exact rvk); simp only [go_sem]; (first | exact VLe.refl _ | refine qh ?_ | refine qd ?_ | refine ql ?_ | skip))
   | with_reducible first | refine And.intro ?_ ?_ | intro _
  all_goals try exact clz
  obtain ⟨OO, hOO⟩ : ∃ x : AObj, x = .mem (qz (some O) + 1) 61 [.str p.letters, qw p.levels] := ⟨_, rfl⟩
  obtain ⟨ov, hov⟩ : ∃ x : Nat, x = qz (some O) + 1 := ⟨_, rfl⟩
  rw [← hov] at hOO ⊢
  rw [show h ++ [AObj.emp 1, AObj.mem 1 9 [AV.str [46]], AObj.mem 1 9 [AV.str [46]], AObj.mem 1 23 [AV.osl (h.length + 1) 1 1 0 1, AV.sl A.length fun i => [AV.str (A.getD i [])], AV.osl (h.length + 2) 1 1 0 1],
    AObj.mem 1 3 (qX all), AObj.mem 1 42 [AV.osl (h.length + 4) 1 1 0 (l.length + 1)], AObj.mem 1 179 [AV.fn (Fn.func 140) [] [AV.op (h.length + 5) 1 0]],
    AObj.mem ov 61 [AV.str p.letters, qw p.levels]] = h ++ qbv h.length A (l.length + 1) all OO by rw [hOO]; rfl]
  refine qaH (xs := qiV pat l) hit (by intro a ha; simp [qiV] at ha; obtain ⟨_, _, rfl⟩ := ha; rfl)
   (S := fun j hh => hh = h ++ qbv h.length A (l.length + 1) (((ze pat l).take j).foldl (fun a i => addAt a i p.levels) all) OO)
   (E := fun _ _ => False) ?_ (fun _ _ h => h.elim) ?_ ?_ ?_ ?_ (fun _ _ h => h.elim)
  ·rintro j hh rfl
   refine LowI.app rfl (fun o ho => ?_)
   simp only [qbv, List.mem_cons, List.not_mem_nil, or_false] at ho
   rcases ho with rfl | rfl | rfl | rfl | rfl | rfl | rfl | rfl
   case inr.inr.inr.inr.inl => exact .inr ⟨qc2, qc2⟩
   all_goals (left; simp [qbv])
  ·simp
  ·simp [zX, zX.lowVs, qdf, qw, qbv]
   try omega
  ·rintro j hh tl L hj rfl hlen
   have hjp : j < (ze pat l).length := by simpa [qiV] using hj
   have hxj : (qiV pat l)[j] = [.int .i64 (((ze pat l)[j] : Nat) : Int)] := by simp [qiV]
   rw [hxj]
   have hqm : (ze pat l)[j] < l.length + 1 - pat.length := by
    have := List.getElem_mem hjp
    unfold ze at this
    rw [List.mem_filter, List.mem_range] at this
    exact this.1
   have hst : ((ze pat l).take (j + 1)).foldl (fun a i => addAt a i p.levels) all = addAt (((ze pat l).take j).foldl (fun a i => addAt a i p.levels) all) (ze pat l)[j] p.levels := by
    rw [List.take_add_one, List.getElem?_eq_getElem hjp, Option.toList_some, List.foldl_append]; rfl
   obtain ⟨q, hq⟩ : ∃ q, q = (ze pat l)[j] := ⟨_, rfl⟩
   obtain ⟨all1, hall1⟩ : ∃ a, a = ((ze pat l).take j).foldl (fun a i => addAt a i p.levels) all := ⟨_, rfl⟩
   have hal : all1.length = l.length + 1 := by rw [hall1, qc1 (fun a x => qeW _ _ _), i2]
   rw [← hq, ← hall1] at hst
   rw [← hq] at hqm ⊢
   rw [← hall1]
   simp only [qa5]
   subst hOO
   simp (disch := omega) only [List.append_assoc, eq_self, qbv, qF, qw, go_sem, qc, dvP, mdP]
   repeat' first
    | ((first | refine qe ?_ ?_ | refine qg ?_ ?_); (next => exact rvk); simp only [go_sem]; (first | exact VLe.refl _ | refine qh ?_ | refine qd ?_ | refine ql ?_ | skip))
    | with_reducible first | refine And.intro ?_ ?_ | intro _
   all_goals try exact clz
   refine qJ (T := fun k : Nat × List Int => qu 57 [(7, .op (h.length + 6) 1 0), (10, .int .i64 q), (37, qw p.levels), (38, .int .i64 p.levels.length), (39, .int .i64 k.1)])
    (H := fun k => h ++ (AObj.emp 1 :: AObj.mem 1 9 [AV.str [46]] :: AObj.mem 1 9 [AV.str [46]] :: AObj.mem 1 23 [AV.osl (h.length + 1) 1 1 0 1, qF A, AV.osl (h.length + 2) 1 1 0 1] :: AObj.mem 1 3 (qX k.2) ::
     AObj.mem 1 42 [AV.osl (h.length + 4) 1 1 0 (l.length + 1)] :: AObj.mem 1 179 [AV.fn (Fn.func 140) [] [AV.op (h.length + 5) 1 0]] :: AObj.mem ov 61 [AV.str p.letters, qw p.levels] :: AObj.lp LS.busy _ L :: tl))
    (inv := fun k => k.1 ≤ p.levels.length ∧ k.2.length = l.length + 1 ∧ addAt all1 q p.levels = addAt k.2 (q + k.1) (p.levels.drop k.1)) (m := fun k => p.levels.length - k.1) (0, all1) ⟨by simp, hal, by simp⟩ (Wk.temps ?_) ?_
   ·(simp only [qw, qu, List.foldl, List.replicate, go_sem, qr, qp, qm, qq]; try (repeat' first | (with_reducible refine And.intro ?_ ?_) | (refine qh ?_; omega) | (refine qd ?_; rfl) | exact VLe.refl _))
   rintro ⟨k, all2⟩ ⟨k1, k2, k3⟩ K2 hK2
   simp only at k1 k2 k3 hK2
   by_cases hk : k < p.levels.length
   ·have e : p.levels.drop k = p.levels.getD k 0 :: p.levels.drop (k + 1) := by rw [List.drop_eq_getElem_cons hk]; simp [List.getD_eq_getElem?_getD, hk]
    rw [e] at k3
    simp only [addAt] at k3
    simp (disch := omega) only [qu, List.foldl, List.replicate, qF, qw, go_sem, qc, dvP, mdP]
    repeat' first
     | ((first | refine qe ?_ ?_ | refine qg ?_ ?_); (next => exact rvk); simp only [go_sem]; (first | exact VLe.refl _ | refine qh ?_ | refine qd ?_ | refine ql ?_ | skip))
     | with_reducible first | refine And.intro ?_ ?_ | intro _
    all_goals try exact clz
    refine qkN (qzc (h.length + 5) 1 (h.length + 4) (l.length + 1) (q + k) all2 _ _ _ (by simp only [go_sem]) (by simp only [go_sem]) k2 (by omega) (by omega)) ?_
    simp (disch := omega) only [qF, qw, go_sem, qc, dvP, mdP]
    repeat' first
     | ((first | refine qe ?_ ?_ | refine qg ?_ ?_); (next => exact rvk); simp only [go_sem]; (first | exact VLe.refl _ | refine qh ?_ | refine qd ?_ | refine ql ?_ | skip))
     | with_reducible first | refine And.intro ?_ ?_ | intro _
    all_goals try exact clz
    refine hK2 _ _ (k + 1, all2.set (q + k) (max (all2.getD (q + k) 0) (p.levels.getD k 0))) ⟨by simp only; omega, by simp only [List.length_set]; exact k2, by rw [k3]; rfl⟩ (by simp only; omega) (Wk.temps ?_)
    (simp only [qw, qu, List.foldl, List.replicate, go_sem, qr, qp, qm, qq]; try (repeat' first | (with_reducible refine And.intro ?_ ?_) | (refine qh ?_; omega) | (refine qd ?_; rfl) | exact VLe.refl _))
   ·have e : k = p.levels.length := by omega
    subst e
    rw [List.drop_length] at k3
    simp only [addAt] at k3
    simp (disch := omega) only [qu, List.foldl, List.replicate, qF, qw, go_sem, qc, dvP, mdP]
    repeat' first
     | ((first | refine qe ?_ ?_ | refine qg ?_ ?_); (next => exact rvk); simp only [go_sem]; (first | exact VLe.refl _ | refine qh ?_ | refine qd ?_ | refine ql ?_ | skip))
     | with_reducible first | refine And.intro ?_ ?_ | intro _
    all_goals try exact clz
    rw [hst, k3]
    exact ⟨h ++ qbv h.length A (l.length + 1) all2 (.mem ov 61 [.str p.letters, qw p.levels]), by rw [List.append_assoc]; rfl, by simp [qbv], rfl⟩
  ·rintro hh rfl
   have hpx : (qiV pat l).length = (ze pat l).length := by simp [qiV]
   rw [hpx, List.take_length]
   have hnx : (ze pat l).foldl (fun a i => addAt a i p.levels) all = qdH l all p := by unfold qdH; rw [← hpat]
   rw [hnx]
   simp (disch := omega) only [qu, List.foldl, List.replicate, qF, qw, go_sem, qc, dvP, mdP]
   repeat' first
    | ((first | refine qe ?_ ?_ | refine qg ?_ ?_); (next => exact rvk); simp only [go_sem]; (first | exact VLe.refl _ | refine qh ?_ | refine qd ?_ | refine ql ?_ | skip))
    | with_reducible first | refine And.intro ?_ ?_ | intro _
   all_goals try exact clz
   subst hOO
   refine hK _ _ (i + 1, qdH l all p, .mem ov 61 [.str p.letters, qw p.levels]) ⟨by simp only; omega, by simp only; rw [qdI, i2], i3, rfl⟩ (by simp only; omega) (Wk.temps ?_)
   (simp only [qF, qA, qbz, qw, qu, List.foldl, List.replicate, go_sem, qr, qp, qm, qq]; try (repeat' first | (with_reducible refine And.intro ?_ ?_) | (refine qh ?_; omega) | (refine qd ?_; rfl) | exact VLe.refl _))
 ·have e : i = ps.length := by omega
  subst e
  rw [List.drop_length, List.foldl_nil] at i3
  have hlen := zm all
  have hx1 : ((l.length : Int) - 1).toNat - (2 : Int).toNat = l.length - 1 - 2 := by omega
  simp (disch := omega) only [qu, List.foldl, List.replicate, qF, qbv, hx1, hlen, go_sem, qc, dvP, mdP]
  repeat' first
   | ((first | refine qe ?_ ?_ | refine qg ?_ ?_); (next => exact rvk); simp only [go_sem]; (first | exact VLe.refl _ | refine qh ?_ | refine qd ?_ | refine ql ?_ | skip))
   | with_reducible first | refine And.intro ?_ ?_ | intro _
  all_goals try exact clz
  rw [i3, if_pos (by rw [hlen, i2, show Int.toNat 2 = 2 from rfl]; omega)]
  exact qlQ (by rw [i2]; omega)
end HY
end
section
open Go Go.Proofs AF HY
namespace HY
set_option maxRecDepth 100000
def same (pat l : List (List UInt8)) (a k : Nat) : Bool := (List.range k).all fun i => decide (l.getD (a + i) [] = pat.getD i [])
end HY
end
section
open Go Go.Proofs AF HY
namespace HY
set_option maxRecDepth 100000
theorem qdW (c : UInt8) : kind (qdx c) = kind c := by
 have hc := c.toNat_lt
 have hn := qfh c
 by_cases h : 65 ≤ (c.toNat : Int) ∧ (c.toNat : Int) ≤ 90
 ·rw [if_pos h] at hn
  unfold kind qgC
  rw [if_pos (by omega), if_pos (by omega)]
 ·rw [if_neg h] at hn
  unfold kind
  rw [hn]
theorem qro (s : List UInt8) (i : Nat) (h : i < s.length) : ch (jZ s) i = qdx (ch s i) := by simp [jZ, ch, List.getD_eq_getElem?_getD, h]
theorem qid (r : List UInt8) : ∀ (f : Nat) (cur : List UInt8), 0 < cur.length → jJ f (jZ cur) (jZ r) = (jJ f cur r).map (fun x => (x.1, jZ x.2)) := by
 induction r with
 | nil => intro f cur _; rfl
 | cons c r ih =>
  intro f cur hc
  have e : jZ (c :: r) = qdx c :: jZ r := rfl
  rw [e]
  simp only [jJ]
  rw [qro cur 0 hc, qdW, qdW]
  split
  ·rw [← ih f (cur ++ [c]) (by simp)]
   simp [jZ]
  ·rw [List.map_cons, ← ih (f + cur.length) [c] (by simp), qay]
   rfl
theorem qk5 (s : List UInt8) : qU (jZ s) = (qU s).map jZ := by
 cases s with
 | nil => rfl
 | cons c r =>
  have := qid r 0 [c] (by simp)
  simp only [qU, zq, show jZ (c :: r) = qdx c :: jZ r from rfl]
  rw [show [qdx c] = jZ [c] from rfl, this]
  simp
theorem kS (s : List UInt8) : (qU (jZ s)).length = (qU s).length := by rw [qk5]; simp
theorem qed (ps : List Pat) (l : List (List UInt8)) : (qah ps l).length = l.length + 1 := by
 unfold qah
 rw [qc1 (fun a p => qdI l a p)]
 simp
theorem qfz (ps : List Pat) (w : List UInt8) : (jg ps w).length = (qU w).length - 1 := by
 unfold jg
 rw [List.length_take, List.length_drop, qed]
 simp [qaa, kS]
 omega
def qn4 (n : Nat) (lv : List Int) (i : Nat) : Bool := decide ((lv.getD i 0).tmod 2 = 1) && (decide (1 ≤ i) && decide (i + 3 ≤ n))
def qhz (own : List (List UInt8)) (i : Nat) : Nat := (own.take i).flatten.length
def qdi (n : Nat) (lv : List Int) (m : Nat) : List Nat := (List.range m).filter (qn4 n lv)
def qcu (own : List (List UInt8)) (lv : List Int) (m : Nat) : List Int := (qdi own.length lv m).map fun i => (qhz own (i + 1) : Int)
def qfK (n : Nat) (lv : List Int) (m : Nat) : List Int := (qdi n lv m).map fun i => lv.getD i 0
theorem qmc (own : List (List UInt8)) : qhz own 0 = 0 := rfl
theorem qfC {own : List (List UInt8)} {i : Nat} (h : i < own.length) : qhz own (i + 1) = qhz own i + (own.getD i []).length := by
 unfold qhz; rw [jA own h, List.length_append]
theorem qmb (own : List (List UInt8)) (i : Nat) : qhz own i ≤ own.flatten.length := jp own i
theorem qve {own : List (List UInt8)} {lv : List Int} {i : Nat} (h : qn4 own.length lv i = true) : qcu own lv (i + 1) = qcu own lv i ++ [(qhz own (i + 1) : Int)] := by
 unfold qcu qdi; rw [jT h, List.map_append]; rfl
theorem qvg {n : Nat} {lv : List Int} {i : Nat} (h : qn4 n lv i = true) : qfK n lv (i + 1) = qfK n lv i ++ [lv.getD i 0] := by
 unfold qfK qdi; rw [jT h, List.map_append]; rfl
theorem qvd {own : List (List UInt8)} {lv : List Int} {i : Nat} (h : qn4 own.length lv i = false) : qcu own lv (i + 1) = qcu own lv i := by
 unfold qcu qdi; rw [kU h]
theorem qvf {n : Nat} {lv : List Int} {i : Nat} (h : qn4 n lv i = false) : qfK n lv (i + 1) = qfK n lv i := by
 unfold qfK qdi; rw [kU h]
theorem qhE (n : Nat) (lv : List Int) (m : Nat) : (qdi n lv m).length ≤ m := by
 have := List.length_filter_le (qn4 n lv) (List.range m)
 rwa [List.length_range] at this
theorem qhD (own : List (List UInt8)) (lv : List Int) (m : Nat) : (qcu own lv m).length = (qdi own.length lv m).length := by simp [qcu]
theorem qpG (n : Nat) (lv : List Int) (m : Nat) : (qfK n lv m).length = (qdi n lv m).length := by simp [qfK]
def jB (L : List Int) : AV := if L = [] then .nl else qw L
theorem qfr : jB [] = .nl := rfl
theorem qpb (L : List Int) : VLe (jB L) (qw L) := by
 unfold jB
 split
 ·rename_i e; subst e; exact kA
 ·exact VLe.refl _
theorem qi6 {v n : Nat} {L : List Int} {fz : Nat → Bool} {h : List AObj} : VLe (qn6 (some (ku v 3 (qX L))) v 1 0 L.length (rei fz h (n + 1))) (jB L) := by
 unfold ku jB
 split
 ·rename_i e
  have : L = [] := by cases L with
   | nil => rfl
   | cons a l => simp [qX] at e
  subst this
  rw [slOf_emp, if_pos rfl, if_pos rfl]
  exact VLe.refl _
 ·rename_i e
  rw [if_neg (by intro e2; subst e2; exact e rfl), slOf_mem, if_pos ⟨rfl, by rw [zm]; omega⟩]
  simp only [Nat.zero_add, Nat.mul_one]
  exact qcG rfl
theorem qfY {v n : Nat} {L : List Int} {fz : Nat → Bool} {h : List AObj} : VLe (qn6 (some (ku v 3 (qX L))) v 1 0 L.length (rei fz h (n + 1))) (qw L) := by
 unfold ku
 split
 ·rename_i e
  have : L = [] := by cases L with
   | nil => rfl
   | cons a l => simp [qX] at e
  subst this
  rw [slOf_emp, if_pos rfl]
  exact kA
 ·rw [slOf_mem, if_pos ⟨rfl, by rw [zm]; omega⟩]
  simp only [Nat.zero_add, Nat.mul_one]
  exact qcG rfl
set_option maxHeartbeats 4000000 in
theorem qy7 (ps : List Pat) (w : List UInt8) (h : List AObj) (hok : qbx ps) (hw : w.length ≤ 1000000) (hw0 : 0 < (qU w).length) (hwf : qhR ps) :
  qs Tryz.prog 108 [qA ps, .str w] h (.tup [jB (qcu (qU w) (jg ps w) ((qU w).length - 1)), qw (qfK (qU w).length (jg ps w) ((qU w).length - 1))]) h := by
 have qgn := fun h => qy9 ps w h hok hw (by rw [kS]; exact hw0) hwf
 have qbd := fun h => qwb w h (by omega)
 have hll := qfz ps w
 have hcl := jo w
 have hof := fun i => qmb (qU w) i
 rw [qbh] at hof
 obtain ⟨lv, hlv⟩ : ∃ x, x = jg ps w := ⟨_, rfl⟩
 obtain ⟨own, hown⟩ : ∃ x, x = qU w := ⟨_, rfl⟩
 rw [← hlv] at qgn hll ⊢
 rw [← hown] at qbd hll hcl hof hw0 ⊢
 refine qn qt9 (by simp) ?_
 simp only [lcP, lnP, Nat.reduceAdd, Nat.reduceSub, List.replicate, caP, naP, List.append_nil]
 simp (disch := omega) only [qh4, qA, qE, go_sem, qc, dvP, mdP]
 repeat' first
  | ((first | refine qj (qbd _) ?_ ?_ | refine qj (qgn _) ?_ ?_); (next => exact flk); simp (disch := omega) only [qA, qE, qw, qF, go_sem, qc, dvP, mdP])
  | ((first | refine qo (fun _ => qbd _) ?_ ?_ | refine qo (fun _ => qgn _) ?_ ?_); (next => exact flk); simp (disch := omega) only [qA, qE, qw, qF, go_sem, qc, dvP, mdP])
  | ((first | refine qk (fun e => ⟨?_, qbd _⟩) ?_ | refine qk (fun e => ⟨?_, qgn _⟩) ?_); (next => exact flk); simp (disch := omega) only [qA, qE, qw, qF, go_sem, qc, dvP, mdP])
  | ((first | refine qe ?_ ?_ | refine qg ?_ ?_); (next => exact rvk); simp only [go_sem]; (first | exact VLe.refl _ | refine qh ?_ | refine qd ?_ | refine ql ?_ | skip))
  | with_reducible first | refine And.intro ?_ ?_ | intro _
 all_goals try exact clz
 refine qJ (T := fun i : Nat × Nat × AObj × AObj => qu 56 [(6, .osl (h.length + 2) i.2.1 1 0 (qcu own lv i.1).length), (7, .osl (h.length + 3) i.2.1 1 0 (qfK own.length lv i.1).length), (8, qF own), (9, .int .i64 (qhz own i.1)), (16, qw lv), (17, .int .i64 lv.length), (18, .int .i64 i.1)])
  (H := fun i => h ++ [.emp 1, .emp 1, ku i.2.1 3 (qX (qcu own lv i.1)), ku i.2.1 3 (qX (qfK own.length lv i.1)), i.2.2.1, .emp 0, i.2.2.2, .emp 0])
  (inv := fun i => i.1 ≤ lv.length ∧ zc [i.2.2.1] 0 = true ∧ zc [i.2.2.2] 0 = true) (m := fun i => lv.length - i.1) (0, 1, .emp 0, .emp 0) ⟨by simp, rfl, rfl⟩ (Wk.temps ?_) ?_
 ·(simp only [qF, qA, qw, qmc, qu, List.foldl, List.replicate, go_sem, qr, qp, qm, qq]; try (repeat' first | (with_reducible refine And.intro ?_ ?_) | (refine qh ?_; omega) | (refine qd ?_; rfl) | exact VLe.refl _))
 rintro ⟨i, v, O1, O2⟩ ⟨i1, i2, i3⟩ K hK
 simp only at i1 i2 i3 hK
 have i2' : ∀ m, zc (O1 :: m) 0 = true := fun _ => i2
 have i3' : ∀ m, zc (O2 :: m) 0 = true := fun _ => i3
 have q1 := qhE own.length lv i
 have q2 := qhD own lv i
 have q3 := qpG own.length lv i
 have e1 := zm (qcu own lv i)
 have e2 := zm (qfK own.length lv i)
 have f1 : List.take (qcu own lv i).length (qX (qcu own lv i)) = qX (qcu own lv i) := List.take_of_length_le (by omega)
 have f2 : List.take (qfK own.length lv i).length (qX (qfK own.length lv i)) = qX (qfK own.length lv i) := List.take_of_length_le (by omega)
 by_cases hi : i < lv.length
 ·have ho := qfC (own := own) (i := i) (by omega)
  have hle := hof (i + 1)
  cases hb : qn4 own.length lv i with
  | true =>
   have r1 := qve hb
   have r2 := qvg hb
   unfold qn4 at hb
   simp only [Bool.and_eq_true, decide_eq_true_eq] at hb
   have k1 : ((lv.getD i 0).tmod 2 = 1) = True := eq_true hb.1
   have k2 : (1 ≤ (i : Int)) = True := eq_true (by omega)
   have k3 : (2 ≤ (own.length : Int) - (i : Int) - 1) = True := eq_true (by omega)
   simp (disch := omega) only [qu, List.foldl, List.replicate, qF, qw, i2', i3', k1, k2, k3, qE, e1, e2, f1, f2, go_sem, qc, dvP, mdP]
   repeat' first
    | ((first | refine qe ?_ ?_ | refine qg ?_ ?_); (next => exact rvk); simp only [go_sem]; (first | exact VLe.refl _ | refine qh ?_ | refine qd ?_ | refine ql ?_ | skip))
    | with_reducible first | refine And.intro ?_ ?_ | intro _
   all_goals try exact clz
   have hoi : (qhz own i : Int) + ((own.getD i []).length : Int) = ((qhz own (i + 1) : Nat) : Int) := by omega
   have l1 : (qcu own lv i).length + 1 = (qcu own lv (i + 1)).length := by rw [r1]; simp
   have l2 : (qfK own.length lv i).length + 1 = (qfK own.length lv (i + 1)).length := by rw [r2]; simp
   rw [hoi, ← qaz, ← qaz, ← r1, ← r2, l1, l2]
   refine hK _ _ (i + 1, v + 1, .mem (qz (some O1) + 1) 3 [.int .i64 (qhz own (i + 1) : Nat)], .mem (qz (some O2) + 1) 3 [.int .i64 (lv.getD i 0)]) ⟨by simp only; omega, rfl, rfl⟩ (by simp only; omega) (Wk.temps ?_)
   (simp only [qF, qw, qu, List.foldl, List.replicate, go_sem, qr, qp, qm, qq]; try (repeat' first | (with_reducible refine And.intro ?_ ?_) | (refine qh ?_; omega) | (refine qd ?_; rfl) | exact VLe.refl _))
  | false =>
   have r1 := qvd hb
   have r2 := qvf hb
   simp (disch := omega) only [qu, List.foldl, List.replicate, qF, qw, i2', i3', qE, go_sem, qc, dvP, mdP]
   repeat' first
    | ((first | refine qe ?_ ?_ | refine qg ?_ ?_); (next => exact rvk); simp only [go_sem]; (first | exact VLe.refl _ | refine qh ?_ | refine qd ?_ | refine ql ?_ | skip))
    | with_reducible first | refine And.intro ?_ ?_ | intro _
   all_goals try exact clz
   ·rename_i hx
    exfalso
    have : qn4 own.length lv i = true := by
     unfold qn4
     simp only [Bool.and_eq_true, decide_eq_true_eq]
     exact ⟨hx.1.1, by omega, by omega⟩
    rw [this] at hb
    cases hb
   ·rw [← r1, ← r2]
    refine hK _ _ (i + 1, v, O1, O2) ⟨by simp only; omega, i2, i3⟩ (by simp only; omega) (Wk.temps ?_)
    (simp only [qF, qw, qu, List.foldl, List.replicate, go_sem, qr, qp, qm, qq]; try (repeat' first | (with_reducible refine And.intro ?_ ?_) | (refine qh ?_; omega) | (refine qd ?_; rfl) | exact VLe.refl _))
 ·have e : i = own.length - 1 := by omega
  subst e
  simp (disch := omega) only [qu, List.foldl, List.replicate, qF, qw, go_sem, qc, dvP, mdP]
  repeat' first
   | ((first | refine qe ?_ ?_ | refine qg ?_ ?_); (next => exact rvk); simp only [go_sem]; (first | exact VLe.refl _ | refine qh ?_ | refine qd ?_ | refine ql ?_ | skip))
   | with_reducible first | refine And.intro ?_ ?_ | intro _
  all_goals try exact clz
  exact zg ⟨qi6, qfY, trivial⟩
end HY
end
section
open Go Go.Proofs AF HY
namespace HY
set_option maxRecDepth 100000
theorem qgx {ps : List Pat} (h : qcY ps = 0) : ∀ p ∈ ps, jS p = 0 := by
 induction ps with
 | nil => intro p hp; simp at hp
 | cons a r ih =>
  simp only [qcY] at h
  split at h
  ·rename_i h0
   intro p hp
   rcases List.mem_cons.1 hp with rfl | hp
   ·exact h0
   ·exact ih h p hp
  ·rename_i h0; exact absurd h h0
theorem qe7 {p : Pat} (h : jS p = 0) : p.levels.length = (qU p.letters).length + 1 := by
 unfold jS at h
 repeat' split at h
 all_goals first
  | (cases h; done)
  | (rename_i hx _; simpa using hx)
  | skip
theorem qhe {ps : List Pat} (h : jd ps = 0) : qhR ps := by
 unfold jd at h
 split at h
 ·cases h
 intro i hi
 rw [kS]
 refine qe7 (qgx h _ ?_)
 rw [List.getD_eq_getElem?_getD, List.getElem?_eq_getElem hi]
 exact List.getElem_mem hi
theorem qqz {w : List UInt8} (h : qaO w = true) : 0 < (qU w).length := by
 apply qhj
 intro e
 subst e
 simp [qaO] at h
theorem qgV {ps : List Pat} {w : List UInt8} (h : qas ps w = 0) : qhR ps ∧ qaO w = true := by
 unfold qas at h
 split at h
 ·rename_i h1
  split at h
  ·rename_i h2; exact ⟨qhe h1, h2⟩
  ·cases h
 ·cases h
def qap (ps : List Pat) (w : List UInt8) : List Int := if qas ps w = 0 then qcu (qU w) (jg ps w) ((qU w).length - 1) else []
theorem qis (L : List Int) : (qw L).flag = true := rfl
theorem qgY (L : List Int) : (qw L).strip = qw L := rfl
theorem qlG {fz : Nat → Bool} {h : List AObj} {n : Nat} (L : List Int) : frz fz h (n + 1) (qw L) = qw L := rfl
theorem qmR {fz : Nat → Bool} {h : List AObj} {n : Nat} (L : List Int) : rei fz h (n + 1) (qw L) = qw L := rfl
theorem qlx (L : List (List UInt8)) : (qF L).flag = true := rfl
theorem qjm (L : List (List UInt8)) : (qF L).strip = qF L := rfl
theorem qo7 {fz : Nat → Bool} {h : List AObj} {n : Nat} (L : List (List UInt8)) : frz fz h (n + 1) (qF L) = qF L := rfl
theorem qpM {fz : Nat → Bool} {h : List AObj} {n : Nat} (L : List (List UInt8)) : rei fz h (n + 1) (qF L) = qF L := rfl
theorem qiv (L : List Pat) : (qA L).flag = true := rfl
theorem qg1 (L : List Pat) : (qA L).strip = qA L := rfl
theorem qlH {fz : Nat → Bool} {h : List AObj} {n : Nat} (L : List Pat) : frz fz h (n + 1) (qA L) = qA L := rfl
theorem qmS {fz : Nat → Bool} {h : List AObj} {n : Nat} (L : List Pat) : rei fz h (n + 1) (qA L) = qA L := rfl
theorem qir (L : List Int) : (jB L).flag = true := by unfold jB; split <;> rfl
theorem qgX (L : List Int) : (jB L).strip = jB L := by unfold jB; split <;> rfl
theorem qlF {fz : Nat → Bool} {h : List AObj} {n : Nat} (L : List Int) : frz fz h (n + 1) (jB L) = jB L := by unfold jB; split <;> rfl
theorem qmQ {fz : Nat → Bool} {h : List AObj} {n : Nat} (L : List Int) : rei fz h (n + 1) (jB L) = jB L := by unfold jB; split <;> rfl
attribute [go_sem] qis qgY qlG qmR qlx qjm qo7 qpM qiv qg1 qlH qmS qir qgX qlF qmQ
theorem t89 (ps : List Pat) (w : List UInt8) (h : List AObj) (hok : qbx ps) (hw : w.length ≤ 1000000) : qs Tryz.prog 66 [qA ps, .str w] h (.tup [jB (qap ps w), .int .i64 (qas ps w)]) h := by
 have qcp := fun h => qy6 ps w h hok (by omega)
 unfold qap
 by_cases g : qas ps w = 0
 ·obtain ⟨g1, g2⟩ := qgV g
  have qh4 := fun h => qy7 ps w h hok hw (qqz g2) g1
  rw [if_pos g]
  rw [g] at qcp ⊢
  refine qn quG (by simp) ?_
  simp only [lcP, lnP, Nat.reduceAdd, Nat.reduceSub, List.replicate, caP, naP, List.append_nil]
  simp (disch := omega) only [qkK, go_sem, qc, dvP, mdP]
  repeat' first
   | ((first | refine qj (qcp _) ?_ ?_ | refine qj (qh4 _) ?_ ?_); (next => exact flk); simp (disch := omega) only [go_sem, qc, dvP, mdP])
   | ((first | refine qo (fun _ => qcp _) ?_ ?_ | refine qo (fun _ => qh4 _) ?_ ?_); (next => exact flk); simp (disch := omega) only [go_sem, qc, dvP, mdP])
   | ((first | refine qk (fun e => ⟨?_, qcp _⟩) ?_ | refine qk (fun e => ⟨?_, qh4 _⟩) ?_); (next => exact flk); simp (disch := omega) only [go_sem, qc, dvP, mdP])
   | ((first | refine qe ?_ ?_ | refine qg ?_ ?_); (next => exact rvk); simp only [go_sem]; (first | exact VLe.refl _ | refine qh ?_ | refine qd ?_ | refine ql ?_ | skip))
   | with_reducible first | refine And.intro ?_ ?_ | intro _
  all_goals try exact clz
 ·rw [if_neg g, qfr]
  refine qn quG (by simp) ?_
  simp only [lcP, lnP, Nat.reduceAdd, Nat.reduceSub, List.replicate, caP, naP, List.append_nil]
  simp (disch := omega) only [qkK, go_sem, qc, dvP, mdP]
  repeat' first
   | ((first | refine qj (qcp _) ?_ ?_); (next => exact flk); simp (disch := omega) only [g, go_sem, qc, dvP, mdP])
   | ((first | refine qo (fun _ => qcp _) ?_ ?_); (next => exact flk); simp (disch := omega) only [g, go_sem, qc, dvP, mdP])
   | ((first | refine qk (fun e => ⟨?_, qcp _⟩) ?_); (next => exact flk); simp (disch := omega) only [g, go_sem, qc, dvP, mdP])
   | ((first | refine qe ?_ ?_ | refine qg ?_ ?_); (next => exact rvk); simp only [go_sem]; (first | exact VLe.refl _ | refine qh ?_ | refine qd ?_ | refine ql ?_ | skip))
   | with_reducible first | refine And.intro ?_ ?_ | intro _
  all_goals try exact clz
end HY
end

import Derived.Test.YtjijgafefdolkaaGreatDoorK10
import Derived.Test.YtjijgafefdolkaaGreatDoorK8
import Derived.Test.YtjijgafefdolkaaGreatDoorK9
set_option linter.all false
set_option linter.unusedSimpArgs false
set_option linter.unusedVariables false
set_option linter.unusedSectionVars false
section
open Go Go.Proofs AF HY P48
namespace HY
set_option maxRecDepth 100000
theorem qdd (a b : List It) : qC (a ++ b) = qC a ++ qC b := by simp [qC]
theorem qiV {l : List It} {i : Nat} (hi : i < l.length) : List.take 6 (List.drop (i * 6) (qC l)) = qH (it l i) := by
 have h1 : l = l.take i ++ it l i :: l.drop (i + 1) := by rw [← qbY hi, List.take_append_drop]
 conv => lhs; rw [h1]
 rw [qdd, List.drop_append_of_le_length (by rw [zq, List.length_take]; omega), List.drop_of_length_le (by rw [zq, List.length_take]; omega)]
 show List.take 6 (qH (it l i) ++ qC (l.drop (i + 1))) = _
 rw [List.take_append_of_le_length (by rw [qds]; omega)]
 rfl
theorem qq5 {l : List It} {n m : Nat} {fz : Nat → Bool} {h : List AObj} (e : l.length = m) : VLe (.sl m fun i => ((List.drop (i * 6) (qC l)).take 6).map (rei fz h (n + 1))) (qu l) := by
 subst e
 refine qc6 rfl (fun i hi => ?_)
 rw [qiV hi]
 rfl
theorem qer {v n : Nat} {L : List It} {fz : Nat → Bool} {h : List AObj} : VLe (qo8 (some (kC v 58 (qC L))) v 6 0 L.length (rei fz h (n + 1))) (qu L) := by
 unfold kC
 split
 ·rename_i e
  have : L = [] := by cases L with
   | nil => rfl
   | cons a l => simp [qC, qH] at e
  subst this
  rw [slOf_emp, if_pos rfl]
  exact kH
 ·rw [slOf_mem, if_pos ⟨rfl, by rw [zq]; omega⟩]
  simp only [Nat.zero_add]
  exact qq5 rfl
theorem qAF (l : List It) (k v : Nat) (h : List AObj) (hk : qL k h = some (kC v 58 (qC l))) (hl : l.length ≤ 9223372036854775807) : qs Tryz.prog 40 [.osl k v 6 0 l.length] h (.int .i64 (jk l)) h := by
 refine qs.borrow ?_ rfl
 refine qs.le (t35 l [] hl) ?_ (VLe.refl _)
 simp only [List.map_cons, List.map_nil, rei_osl, if_true, hk]
 exact zU qer j4.nil
theorem qg0 (L : List Wd) : (qt L).flag = true := rfl
theorem qgs (L : List Wd) : (qt L).strip = qt L := rfl
attribute [go_sem] qg0 qgs
theorem qib (w : List UInt8) (L : List Int) (j : Nat) : (kQ w L j).length ≤ w.length := by
 unfold kQ; rw [List.length_take, List.length_drop]; omega
theorem qtz (ps : List Pat) (w : List UInt8) (k : Nat) : ((zm ps w).getD k []).length ≤ w.length := by
 unfold zm
 split
 ·rw [List.getD_eq_getElem?_getD]
  cases hq : (zt w (zb ps w) (zb ps w).length)[k]? with
  | none => simp
  | some u =>
   have := List.mem_of_getElem? hq
   unfold zt at this
   rw [List.mem_map] at this
   obtain ⟨j, _, rfl⟩ := this
   exact qib _ _ _
 ·cases k <;> simp
theorem qbG {a : Int} {n : Nat} (h0 : 0 ≤ a) (h1 : a ≤ 1073741824) (hn : n ≤ 64) : 0 ≤ a * (n : Int) ∧ a * (n : Int) ≤ 68719476736 := by
 have h2 := Int.mul_le_mul h1 (show (n : Int) ≤ 64 by omega) (by omega) (by omega)
 have h3 := Int.mul_nonneg h0 (show (0 : Int) ≤ n by omega)
 omega
theorem qmI {n : Int} (h : qbb n = true) : 0 ≤ n ∧ n ≤ 1073741824 := by unfold qbb at h; simpa using h
theorem qs9 {ws : List Wd} (h : ws.any qbp = false) {i : Nat} (hi : i < ws.length) : (ws.getD i default).text.length ≤ 64 := by
 rw [List.any_eq_false] at h
 have := h _ (List.getElem_mem hi)
 unfold qbp at this
 simp at this
 rw [List.getD_eq_getElem?_getD, List.getElem?_eq_getElem hi]
 simp
 omega
theorem zI (L : List It) : List.take (L.length * 6) (qC L) = qC L := List.take_of_length_le (by rw [zq]; omega)
theorem zB (L : List It) (y : It) : qC L ++ qH y = qC (L ++ [y]) := by rw [qdd]; simp [qC]
def qyV (l : List It) (e : Int) : AV := .tup [qu l, .int .i64 e]
theorem qbQ {e : Int} : VLe (.tup [.nl, .int .i64 e]) (qyV [] e) := zo (l := [.nl, .int .i64 e]) ⟨kH, VLe.refl _, trivial⟩
theorem qtW {a : AV} {l : List It} {e : Int} (ha : VLe a (qu l)) : VLe (.tup [a, .int .i64 e]) (qyV l e) := zo (l := [a, .int .i64 e]) ⟨ha, VLe.refl _, trivial⟩
set_option maxHeartbeats 16000000 in
theorem t32 (s : Sty) (x : List AV) (ps : List Pat) (ws : List Wd) (h : List AObj) (hok : qa6 ps) (hws : ws.length ≤ 10000) : qs Tryz.prog 12 [.agg (za s x), qw ps, qt ws] h (qyV (qao s ps ws) (jd s ps ws)) h := by
 have qbS := fun h => t64 ps h hok
 have c7z := fun h => t59 ws qbp 37 h (by omega) t65
 unfold qao
 by_cases g0 : kk s = true
 case neg =>
  have g0' : kk s = false := by simpa using g0
  have e0 : jd s ps ws = 2 := by unfold jd; rw [if_pos g0']
  rw [e0, if_neg (by decide)]
  refine qo qmq (by simp) ?_
  simp only [lcP, lnP, Nat.reduceAdd, Nat.reduceSub, List.replicate, caP, naP, List.append_nil]
  simp (disch := omega) only [qur, za, go_sem, qc, dvP, mdP]
  repeat' first
   | ((first | refine qj (t63 _ _) ?_ ?_); (next => exact flk); simp (disch := omega) only [za, go_sem, qc, dvP, mdP])
   | ((first | refine qn (fun _ => t63 _ _) ?_ ?_); (next => exact flk); simp (disch := omega) only [za, go_sem, qc, dvP, mdP])
   | ((first | refine qk (fun e => ⟨?_, t63 _ _⟩) ?_); (next => exact flk); simp (disch := omega) only [za, go_sem, qc, dvP, mdP])
   | ((first | refine qe ?_ ?_ | refine qg ?_ ?_); (next => exact rvk); simp only [go_sem]; (first | exact VLe.refl _ | refine qh ?_ | refine qd ?_ | refine ql ?_ | skip))
   | with_reducible first | refine And.intro ?_ ?_ | intro _
  all_goals try exact clz
  ·exact qbQ
  ·rename_i hx
   exfalso
   apply g0
   unfold kk
   obtain ⟨⟨⟨⟨⟨a1, a2⟩, a3⟩, a4⟩, a5⟩, a6⟩ := hx
   rw [a1, a2 a1, a3, a4]
   simp
   omega
 have g0' := g0
 unfold kk at g0'
 simp only [Bool.and_eq_true, decide_eq_true_eq] at g0'
 obtain ⟨a1, a2, a3, a4, a5, a6⟩ := g0'
 obtain ⟨b1, b2⟩ := qmI a1
 have k5 : (s.hy < 0) = False := eq_false (by omega)
 have k6 : (10000 < s.hy) = False := eq_false (by omega)
 by_cases g1 : jm ps = 0
 case neg =>
  have e0 : jd s ps ws = 1 := by unfold jd; rw [if_neg (by rw [g0]; simp), if_pos (.inl g1)]
  rw [e0, if_neg (by decide)]
  refine qo qmq (by simp) ?_
  simp only [lcP, lnP, Nat.reduceAdd, Nat.reduceSub, List.replicate, caP, naP, List.append_nil]
  simp (disch := omega) only [qur, za, a1, a2, a3, a4, k5, k6, go_sem, qc, dvP, mdP]
  repeat' first
   | (refine qP ((.bool false)) ?_; simp (disch := omega) only [za, a1, a2, a3, a4, k5, k6, g1, go_sem, qc, dvP, mdP])
   | ((first | refine qj (t63 _ _) ?_ ?_ | refine qj (qbS _) ?_ ?_); (next => exact flk); simp (disch := omega) only [za, a1, a2, a3, a4, k5, k6, g1, go_sem, qc, dvP, mdP])
   | ((first | refine qn (fun _ => t63 _ _) ?_ ?_ | refine qn (fun _ => qbS _) ?_ ?_); (next => exact flk); simp (disch := omega) only [za, a1, a2, a3, a4, k5, k6, g1, go_sem, qc, dvP, mdP])
   | ((first | refine qk (fun e => ⟨?_, t63 _ _⟩) ?_ | refine qk (fun e => ⟨?_, qbS _⟩) ?_); (next => exact flk); simp (disch := omega) only [za, a1, a2, a3, a4, k5, k6, g1, go_sem, qc, dvP, mdP])
   | ((first | refine qe ?_ ?_ | refine qg ?_ ?_); (next => exact rvk); simp only [go_sem]; (first | exact VLe.refl _ | refine qh ?_ | refine qd ?_ | refine ql ?_ | skip))
   | with_reducible first | refine And.intro ?_ ?_ | intro _
  all_goals try exact clz
  exact qbQ
 rw [g1] at qbS
 cases g2 : ws.any qbp with
 | true =>
  have e0 : jd s ps ws = 1 := by unfold jd; rw [if_neg (by rw [g0]; simp), if_pos (.inr g2)]
  rw [g2] at c7z
  rw [e0, if_neg (by decide)]
  refine qo qmq (by simp) ?_
  simp only [lcP, lnP, Nat.reduceAdd, Nat.reduceSub, List.replicate, caP, naP, List.append_nil]
  simp (disch := omega) only [qur, za, a1, a2, a3, a4, k5, k6, go_sem, qc, dvP, mdP]
  repeat' first
   | ((first | refine qj (t63 _ _) ?_ ?_ | refine qj (qbS _) ?_ ?_ | refine qj (c7z _) ?_ ?_); (next => exact flk); simp (disch := omega) only [za, a1, a2, a3, a4, k5, k6, go_sem, qc, dvP, mdP])
   | ((first | refine qn (fun _ => t63 _ _) ?_ ?_ | refine qn (fun _ => qbS _) ?_ ?_ | refine qn (fun _ => c7z _) ?_ ?_); (next => exact flk); simp (disch := omega) only [za, a1, a2, a3, a4, k5, k6, go_sem, qc, dvP, mdP])
   | ((first | refine qk (fun e => ⟨?_, t63 _ _⟩) ?_ | refine qk (fun e => ⟨?_, qbS _⟩) ?_ | refine qk (fun e => ⟨?_, c7z _⟩) ?_); (next => exact flk); simp (disch := omega) only [za, a1, a2, a3, a4, k5, k6, go_sem, qc, dvP, mdP])
   | ((first | refine qe ?_ ?_ | refine qg ?_ ?_); (next => exact rvk); simp only [go_sem]; (first | exact VLe.refl _ | refine qh ?_ | refine qd ?_ | refine ql ?_ | skip))
   | with_reducible first | refine And.intro ?_ ?_ | intro _
  all_goals try exact clz
  exact qbQ
 | false =>
 rw [g2] at c7z
 by_cases g3 : 4096 < ws.length
 case pos =>
  have e0 : jd s ps ws = 4 := by unfold jd; rw [if_neg (by rw [g0]; simp), if_neg (by rw [g1, g2]; simp), if_pos g3]
  rw [e0, if_neg (by decide)]
  have k3 : (4096 < (ws.length : Int)) = True := eq_true (by omega)
  refine qo qmq (by simp) ?_
  simp only [lcP, lnP, Nat.reduceAdd, Nat.reduceSub, List.replicate, caP, naP, List.append_nil]
  simp (disch := omega) only [qur, za, a1, a2, a3, a4, k5, k6, go_sem, qc, dvP, mdP]
  repeat' first
   | ((first | refine qj (t63 _ _) ?_ ?_ | refine qj (qbS _) ?_ ?_ | refine qj (c7z _) ?_ ?_); (next => exact flk); simp (disch := omega) only [za, qt, a1, a2, a3, a4, k5, k6, k3, go_sem, qc, dvP, mdP])
   | ((first | refine qn (fun _ => t63 _ _) ?_ ?_ | refine qn (fun _ => qbS _) ?_ ?_ | refine qn (fun _ => c7z _) ?_ ?_); (next => exact flk); simp (disch := omega) only [za, qt, a1, a2, a3, a4, k5, k6, k3, go_sem, qc, dvP, mdP])
   | ((first | refine qk (fun e => ⟨?_, t63 _ _⟩) ?_ | refine qk (fun e => ⟨?_, qbS _⟩) ?_ | refine qk (fun e => ⟨?_, c7z _⟩) ?_); (next => exact flk); simp (disch := omega) only [za, qt, a1, a2, a3, a4, k5, k6, k3, go_sem, qc, dvP, mdP])
   | ((first | refine qe ?_ ?_ | refine qg ?_ ?_); (next => exact rvk); simp only [go_sem]; (first | exact VLe.refl _ | refine qh ?_ | refine qd ?_ | refine ql ?_ | skip))
   | with_reducible first | refine And.intro ?_ ?_ | intro _
  all_goals try exact clz
  exact qbQ
 have k3 : (4096 < (ws.length : Int)) = False := eq_false (by omega)
 have e0 : jd s ps ws = if jk (zi s ps ws ws.length) ≠ 0 then 4 else 0 := by unfold jd; rw [if_neg (by rw [g0]; simp), if_neg (by rw [g1, g2]; simp), if_neg g3]
 rw [e0]
 have hgw := fun i hi => qs9 (ws := ws) g2 (i := i) hi
 have hwl := fun n hn => qks s ps ws hgw n hn
 refine qo qmq (by simp) ?_
 simp only [lcP, lnP, Nat.reduceAdd, Nat.reduceSub, List.replicate, caP, naP, List.append_nil]
 simp (disch := omega) only [qur, za, a1, a2, a3, a4, k5, k6, go_sem, qc, dvP, mdP]
 repeat' first
  | ((first | refine qj (t63 _ _) ?_ ?_ | refine qj (qbS _) ?_ ?_ | refine qj (c7z _) ?_ ?_); (next => exact flk); simp (disch := omega) only [za, qt, a1, a2, a3, a4, k5, k6, k3, go_sem, qc, dvP, mdP])
  | ((first | refine qn (fun _ => t63 _ _) ?_ ?_ | refine qn (fun _ => qbS _) ?_ ?_ | refine qn (fun _ => c7z _) ?_ ?_); (next => exact flk); simp (disch := omega) only [za, qt, a1, a2, a3, a4, k5, k6, k3, go_sem, qc, dvP, mdP])
  | ((first | refine qk (fun e => ⟨?_, t63 _ _⟩) ?_ | refine qk (fun e => ⟨?_, qbS _⟩) ?_ | refine qk (fun e => ⟨?_, c7z _⟩) ?_); (next => exact flk); simp (disch := omega) only [za, qt, a1, a2, a3, a4, k5, k6, k3, go_sem, qc, dvP, mdP])
  | ((first | refine qe ?_ ?_ | refine qg ?_ ?_); (next => exact rvk); simp only [go_sem]; (first | exact VLe.refl _ | refine qh ?_ | refine qd ?_ | refine ql ?_ | skip))
  | with_reducible first | refine And.intro ?_ ?_ | intro _
 all_goals try exact clz
 refine qJ (T := fun i : Nat × Nat × AObj × AObj × AObj × AObj × AObj => qv 132 [(1, qw ps), (3, .op h.length 1 0), (8, .osl (h.length + 2) i.2.1 6 0 (zi s ps ws i.1).length), (57, qt ws), (58, .int .i64 ws.length), (59, .int .i64 i.1)])
  (H := fun i => h ++ [.mem 1 25 (za s x), .emp 1, kC i.2.1 58 (qC (zi s ps ws i.1)), i.2.2.1, i.2.2.2.1, .emp 0, i.2.2.2.2.1, .emp 0, i.2.2.2.2.2.1, .emp 0, i.2.2.2.2.2.2, .emp 0])
  (inv := fun i => i.1 ≤ ws.length ∧ zf [i.2.2.1] 0 = true ∧ zf [i.2.2.2.1] 0 = true ∧ zf [i.2.2.2.2.1] 0 = true ∧ zf [i.2.2.2.2.2.1] 0 = true ∧ zf [i.2.2.2.2.2.2] 0 = true) (m := fun i => ws.length - i.1) (0, 1, .emp 0, .emp 0, .emp 0, .emp 0, .emp 0) ⟨by simp, rfl, rfl, rfl, rfl, rfl⟩ (Wk.temps ?_) ?_
 ·(simp only [qt, qv, List.foldl, List.replicate, go_sem, qr, qp, qm, qq]; try (repeat' first | (with_reducible refine And.intro ?_ ?_) | (refine qh ?_; omega) | (refine qd ?_; rfl) | exact VLe.refl _))
 rintro ⟨i, v, O3, O4, O6, O8, O10⟩ ⟨i1, i3, i4, i6, i8, i10⟩ K hK
 simp only at i1 i3 i4 i6 i8 i10 hK
 have i3' : ∀ m, zf (O3 :: m) 0 = true := fun _ => i3
 have i4' : ∀ m, zf (O4 :: m) 0 = true := fun _ => i4
 have i6' : ∀ m, zf (O6 :: m) 0 = true := fun _ => i6
 have i8' : ∀ m, zf (O8 :: m) 0 = true := fun _ => i8
 have i10' : ∀ m, zf (O10 :: m) 0 = true := fun _ => i10
 by_cases hi : i < ws.length
 case neg =>
  have e : i = ws.length := by omega
  subst e
  have hll := hwl ws.length (Nat.le_refl _)
  have qpq := fun (H : List AObj) (hh : qL (h.length + 2) H = some (kC v 58 (qC (zi s ps ws ws.length)))) => qAF (zi s ps ws ws.length) (h.length + 2) v H hh (by omega)
  by_cases g4 : jk (zi s ps ws ws.length) = 0
  ·rw [if_neg (show ¬ jk (zi s ps ws ws.length) ≠ 0 by simpa using g4), if_pos rfl]
   simp (disch := omega) only [qv, List.foldl, List.replicate, qt, go_sem, qc, dvP, mdP]
   repeat' first
    | ((first | refine qj (qpq _ (by simp only [go_sem])) ?_ ?_); (next => exact flk); simp (disch := omega) only [g4, go_sem, qc, dvP, mdP])
    | ((first | refine qk (fun e => ⟨?_, qpq _ (by simp only [go_sem])⟩) ?_); (next => exact flk); simp (disch := omega) only [g4, go_sem, qc, dvP, mdP])
    | ((first | refine qe ?_ ?_ | refine qg ?_ ?_); (next => exact rvk); simp only [go_sem]; (first | exact VLe.refl _ | refine qh ?_ | refine qd ?_ | refine ql ?_ | skip))
    | with_reducible first | refine And.intro ?_ ?_ | intro _
   all_goals try exact clz
   exact qtW qer
  ·rw [if_pos g4, if_neg (by decide)]
   simp (disch := omega) only [qv, List.foldl, List.replicate, qt, go_sem, qc, dvP, mdP]
   repeat' first
    | ((first | refine qj (qpq _ (by simp only [go_sem])) ?_ ?_); (next => exact flk); simp (disch := omega) only [g4, go_sem, qc, dvP, mdP])
    | ((first | refine qk (fun e => ⟨?_, qpq _ (by simp only [go_sem])⟩) ?_); (next => exact flk); simp (disch := omega) only [g4, go_sem, qc, dvP, mdP])
    | ((first | refine qe ?_ ?_ | refine qg ?_ ?_); (next => exact rvk); simp only [go_sem]; (first | exact VLe.refl _ | refine qh ?_ | refine qd ?_ | refine ql ?_ | skip))
    | with_reducible first | refine And.intro ?_ ?_ | intro _
   all_goals try exact clz
   exact qbQ
 have hw64 := hgw i hi
 have hnx := hwl (i + 1) (by omega)
 have hcur := hwl i (by omega)
 have hsu := zL s ps ws i
 obtain ⟨w, hwe⟩ : ∃ w, w = ws.getD i default := ⟨_, rfl⟩
 have ewd := hwe.symm
 rw [ewd] at hw64 hsu
 obtain ⟨L, hL⟩ : ∃ L, L = zi s ps ws i := ⟨_, rfl⟩
 have eL := hL.symm
 rw [eL] at hcur hsu ⊢
 have qfc := fun h => t66 ps w.text h hok (by omega) g1
 have hpl := qb7 ps w.text
 have hprt := qtz ps w.text
 obtain ⟨l, hle⟩ : ∃ l, l = zm ps w.text := ⟨_, rfl⟩
 have hwi : qcn s ps i w = qcf s i w ++ qR s l l.length := by rw [hle]; rfl
 rw [← hle] at qfc hpl hprt
 have ec := zq L
 have et := zI L
 have hit : ∀ y : It, qC L ++ [AV.int .i64 y.kind, .int .i64 y.width, .int .i64 y.stretch, .int .i64 y.shrink, .int .i64 y.penalty, .str y.text] = qC (L ++ [y]) := fun y => zB L y
 by_cases g5 : i = 0
 ·have k1 : ((i : Int) = 0) = True := eq_true (by omega)
  have hsp : qcf s i w = [] := by unfold qcf; rw [if_pos g5]
  obtain ⟨L1, hL1⟩ : ∃ L1, L1 = L ++ qcf s i w := ⟨_, rfl⟩
  have hl1 : L1.length ≤ 200 * i + 1 := by rw [hL1, List.length_append]; have := qaW s i w; omega
  simp (disch := omega) only [qv, List.foldl, List.replicate, qt, qY, ewd, za, qF, k1, i3', i4', i6', qE, ec, et, go_sem, qc, dvP, mdP]
  repeat' first
   | ((first | refine qj (qfc _) ?_ ?_); (next => exact flk); simp (disch := omega) only [qY, za, qF, k1, i3', i4', i6', qE, ec, et, go_sem, qc, dvP, mdP])
   | ((first | refine qn (fun _ => qfc _) ?_ ?_); (next => exact flk); simp (disch := omega) only [qY, za, qF, k1, i3', i4', i6', qE, ec, et, go_sem, qc, dvP, mdP])
   | ((first | refine qk (fun e => ⟨?_, qfc _⟩) ?_); (next => exact flk); simp (disch := omega) only [qY, za, qF, k1, i3', i4', i6', qE, ec, et, go_sem, qc, dvP, mdP])
   | ((first | refine qe ?_ ?_ | refine qg ?_ ?_); (next => exact rvk); simp only [go_sem]; (first | exact VLe.refl _ | refine qh ?_ | refine qd ?_ | refine ql ?_ | skip))
   | with_reducible first | refine And.intro ?_ ?_ | intro _
  all_goals try exact clz
  rw [show L = L1 by rw [hL1, hsp, List.append_nil]]
  rw [show qC L1 = qC (L1 ++ qR s l 0) by rw [zr, List.append_nil], show L1.length = (L1 ++ qR s l 0).length by rw [zr, List.append_nil]]
  refine qJ (T := fun k : Nat × Nat × AObj × AObj => qv 132 [(1, qw ps), (3, .op h.length 1 0), (8, .osl (h.length + 2) k.2.1 6 0 (L1 ++ qR s l k.1).length), (57, qt ws), (58, .int .i64 ws.length), (59, .int .i64 i), (98, qF l), (99, .int .i64 l.length), (100, .int .i64 k.1)])
   (H := fun k => h ++ [.mem 1 25 (za s x), .emp 1, kC k.2.1 58 (qC (L1 ++ qR s l k.1)), .mem (qA (some O3) + 1) 33 (qY w), O4, .emp 0, O6, .emp 0, k.2.2.1, .emp 0, k.2.2.2, .emp 0])
   (inv := fun k => k.1 ≤ l.length ∧ zf [k.2.2.1] 0 = true ∧ zf [k.2.2.2] 0 = true) (m := fun k => l.length - k.1) (0, v, O8, O10) ⟨by simp, i8, i10⟩ (Wk.temps ?_) ?_
  ·(simp only [qt, qF, qv, List.foldl, List.replicate, go_sem, qr, qp, qm, qq]; try (repeat' first | (with_reducible refine And.intro ?_ ?_) | (refine qh ?_; omega) | (refine qd ?_; rfl) | exact VLe.refl _))
  rintro ⟨k, v2, P8, P10⟩ ⟨j1, j8, j10⟩ K2 hK2
  simp only at j1 j8 j10 hK2
  have j8' : ∀ m, zf (P8 :: m) 0 = true := fun _ => j8
  have j10' : ∀ m, zf (P10 :: m) 0 = true := fun _ => j10
  have hpk := kc s l k
  obtain ⟨M, hM⟩ : ∃ M, M = L1 ++ qR s l k := ⟨_, rfl⟩
  have hml : M.length ≤ 200 * i + 1 + 2 * k := by rw [hM, List.length_append]; omega
  rw [← hM]
  have fc := zq M
  have ft := zI M
  have fit : ∀ y : It, qC M ++ [AV.int .i64 y.kind, .int .i64 y.width, .int .i64 y.stretch, .int .i64 y.shrink, .int .i64 y.penalty, .str y.text] = qC (M ++ [y]) := fun y => zB M y
  by_cases hk : k < l.length
  ·have hsk := zh s l k
   have hpk2 := hprt k
   obtain ⟨u, hu⟩ : ∃ u, u = l.getD k [] := ⟨_, rfl⟩
   have eu := hu.symm
   rw [eu] at hsk hpk2
   have hcu := jB u
   have qbn := fun h => t67 u h (by omega)
   obtain ⟨m1, m2⟩ := qbG (n := (qV u).length) b1 b2 (by omega)
   by_cases hk0 : k = 0
   ·have k7 : (0 < (k : Int)) = False := eq_false (by omega)
    have hpi : jI s k u = [⟨1, s.le * ((qV u).length : Int), 0, 0, 0, u⟩] := by unfold jI; rw [if_pos hk0]; rfl
    have hnxt : L1 ++ qR s l (k + 1) = M ++ [⟨1, s.le * ((qV u).length : Int), 0, 0, 0, u⟩] := by rw [hsk, hpi, hM, List.append_assoc]
    have hln : M.length + 1 = (L1 ++ qR s l (k + 1)).length := by rw [hnxt]; simp
    have hfin := fit ⟨1, s.le * ((qV u).length : Int), 0, 0, 0, u⟩
    simp only at hfin
    simp (disch := omega) only [qv, List.foldl, List.replicate, qF, za, eu, k7, j8', j10', qE, fc, ft, go_sem, qc, dvP, mdP]
    repeat' first
     | ((first | refine qj (qbn _) ?_ ?_); (next => exact flk); simp (disch := omega) only [qF, za, eu, k7, j8', j10', qE, fc, ft, go_sem, qc, dvP, mdP])
     | ((first | refine qn (fun _ => qbn _) ?_ ?_); (next => exact flk); simp (disch := omega) only [qF, za, eu, k7, j8', j10', qE, fc, ft, go_sem, qc, dvP, mdP])
     | ((first | refine qk (fun e => ⟨?_, qbn _⟩) ?_); (next => exact flk); simp (disch := omega) only [qF, za, eu, k7, j8', j10', qE, fc, ft, go_sem, qc, dvP, mdP])
     | ((first | refine qe ?_ ?_ | refine qg ?_ ?_); (next => exact rvk); simp only [go_sem]; (first | exact VLe.refl _ | refine qh ?_ | refine qd ?_ | refine ql ?_ | skip))
     | with_reducible first | refine And.intro ?_ ?_ | intro _
    all_goals try exact clz
    rw [hfin, hln, ← hnxt]
    refine hK2 _ _ (k + 1, v2 + 1, P8, .mem (qA (some P10) + 1) 58 [.int .i64 1, .int .i64 (s.le * ((qV u).length : Int)), .int .i64 0, .int .i64 0, .int .i64 0, .str u]) ⟨by simp only; omega, j8, rfl⟩ (by simp only; omega) (Wk.temps ?_)
    (simp only [qt, qF, qv, List.foldl, List.replicate, go_sem, qr, qp, qm, qq]; try (repeat' first | (with_reducible refine And.intro ?_ ?_) | (refine qh ?_; omega) | (refine qd ?_; rfl) | exact VLe.refl _))
   ·have k7 : (0 < (k : Int)) = True := eq_true (by omega)
    have hpi : jI s k u = [⟨3, s.le, 0, 0, s.hy, [61]⟩, ⟨1, s.le * ((qV u).length : Int), 0, 0, 0, u⟩] := by unfold jI; rw [if_neg hk0]; rfl
    have hnxt : L1 ++ qR s l (k + 1) = (M ++ [⟨3, s.le, 0, 0, s.hy, [61]⟩]) ++ [⟨1, s.le * ((qV u).length : Int), 0, 0, 0, u⟩] := by rw [hsk, hpi, hM]; simp
    have hln : M.length + 1 + 1 = (L1 ++ qR s l (k + 1)).length := by rw [hnxt]; simp
    have hfin0 := fit ⟨3, s.le, 0, 0, s.hy, [61]⟩
    obtain ⟨M2, hM2⟩ : ∃ M2, M2 = M ++ [(⟨3, s.le, 0, 0, s.hy, [61]⟩ : It)] := ⟨_, rfl⟩
    have hl2 : M2.length = M.length + 1 := by rw [hM2]; simp
    rw [← hM2] at hfin0 hnxt
    have fc2 : (qC M2).length = (M.length + 1) * 6 := by rw [zq, hl2]
    have ft2 : List.take ((M.length + 1) * 6) (qC M2) = qC M2 := by rw [← hl2]; exact zI M2
    have hfin : qC M2 ++ [AV.int .i64 1, .int .i64 (s.le * ((qV u).length : Int)), .int .i64 0, .int .i64 0, .int .i64 0, .str u] = qC (M2 ++ [⟨1, s.le * ((qV u).length : Int), 0, 0, 0, u⟩]) := zB M2 ⟨1, s.le * ((qV u).length : Int), 0, 0, 0, u⟩
    simp only at hfin0
    simp (disch := omega) only [qv, List.foldl, List.replicate, qF, za, eu, k7, j8', j10', qE, fc, ft, hfin0, fc2, ft2, go_sem, qc, dvP, mdP]
    repeat' first
     | ((first | refine qj (qbn _) ?_ ?_); (next => exact flk); simp (disch := omega) only [qF, za, eu, k7, j8', j10', qE, fc, ft, hfin0, fc2, ft2, go_sem, qc, dvP, mdP])
     | ((first | refine qn (fun _ => qbn _) ?_ ?_); (next => exact flk); simp (disch := omega) only [qF, za, eu, k7, j8', j10', qE, fc, ft, hfin0, fc2, ft2, go_sem, qc, dvP, mdP])
     | ((first | refine qk (fun e => ⟨?_, qbn _⟩) ?_); (next => exact flk); simp (disch := omega) only [qF, za, eu, k7, j8', j10', qE, fc, ft, hfin0, fc2, ft2, go_sem, qc, dvP, mdP])
     | ((first | refine qe ?_ ?_ | refine qg ?_ ?_); (next => exact rvk); simp only [go_sem]; (first | exact VLe.refl _ | refine qh ?_ | refine qd ?_ | refine ql ?_ | skip))
     | with_reducible first | refine And.intro ?_ ?_ | intro _
    all_goals try exact clz
    rw [hfin, hln, ← hnxt]
    refine hK2 _ _ (k + 1, v2 + 1 + 1, .mem (qA (some P8) + 1) 58 [.int .i64 3, .int .i64 s.le, .int .i64 0, .int .i64 0, .int .i64 s.hy, .str [61]], .mem (qA (some P10) + 1) 58 [.int .i64 1, .int .i64 (s.le * ((qV u).length : Int)), .int .i64 0, .int .i64 0, .int .i64 0, .str u]) ⟨by simp only; omega, rfl, rfl⟩ (by simp only; omega) (Wk.temps ?_)
    (simp only [qt, qF, qv, List.foldl, List.replicate, go_sem, qr, qp, qm, qq]; try (repeat' first | (with_reducible refine And.intro ?_ ?_) | (refine qh ?_; omega) | (refine qd ?_; rfl) | exact VLe.refl _))
  ·have e : k = l.length := by omega
   have hfn : M = zi s ps ws (i + 1) := by rw [hM, e, hsu, hwi, hL1, List.append_assoc]
   rw [hfn]
   simp (disch := omega) only [qv, List.foldl, List.replicate, qF, go_sem, qc, dvP, mdP]
   repeat' first
    | ((first | refine qe ?_ ?_ | refine qg ?_ ?_); (next => exact rvk); simp only [go_sem]; (first | exact VLe.refl _ | refine qh ?_ | refine qd ?_ | refine ql ?_ | skip))
    | with_reducible first | refine And.intro ?_ ?_ | intro _
   all_goals try exact clz
   refine hK _ _ (i + 1, v2, .mem (qA (some O3) + 1) 33 (qY w), O4, O6, P8, P10) ⟨by simp only; omega, rfl, i4, i6, j8, j10⟩ (by simp only; omega) (Wk.temps ?_)
   (simp only [qt, qF, qv, List.foldl, List.replicate, go_sem, qr, qp, qm, qq]; try (repeat' first | (with_reducible refine And.intro ?_ ?_) | (refine qh ?_; omega) | (refine qd ?_; rfl) | exact VLe.refl _))
 have k1 : ((i : Int) = 0) = False := eq_false (by omega)
 cases g6 : w.verse with
 | true =>
  have hsp : qcf s i w = [⟨3, 0, 0, 0, -10000, []⟩] := by unfold qcf; rw [if_neg g5, if_pos g6]
  have hfin := hit ⟨3, 0, 0, 0, -10000, []⟩
  simp only at hfin
  obtain ⟨L1, hL1⟩ : ∃ L1, L1 = L ++ qcf s i w := ⟨_, rfl⟩
  have hl1 : L1.length ≤ 200 * i + 1 := by rw [hL1, List.length_append]; have := qaW s i w; omega
  simp (disch := omega) only [qv, List.foldl, List.replicate, qt, qY, ewd, za, qF, k1, g6, hfin, i3', i4', i6', qE, ec, et, go_sem, qc, dvP, mdP]
  repeat' first
   | ((first | refine qj (qfc _) ?_ ?_); (next => exact flk); simp (disch := omega) only [qY, za, qF, k1, g6, hfin, i3', i4', i6', qE, ec, et, go_sem, qc, dvP, mdP])
   | ((first | refine qn (fun _ => qfc _) ?_ ?_); (next => exact flk); simp (disch := omega) only [qY, za, qF, k1, g6, hfin, i3', i4', i6', qE, ec, et, go_sem, qc, dvP, mdP])
   | ((first | refine qk (fun e => ⟨?_, qfc _⟩) ?_); (next => exact flk); simp (disch := omega) only [qY, za, qF, k1, g6, hfin, i3', i4', i6', qE, ec, et, go_sem, qc, dvP, mdP])
   | ((first | refine qe ?_ ?_ | refine qg ?_ ?_); (next => exact rvk); simp only [go_sem]; (first | exact VLe.refl _ | refine qh ?_ | refine qd ?_ | refine ql ?_ | skip))
   | with_reducible first | refine And.intro ?_ ?_ | intro _
  all_goals try exact clz
  rw [show L ++ [(⟨3, 0, 0, 0, -10000, []⟩ : It)] = L1 by rw [hL1, hsp], show L.length + 1 = L1.length by rw [hL1, hsp]; simp]
  rw [show qC L1 = qC (L1 ++ qR s l 0) by rw [zr, List.append_nil], show L1.length = (L1 ++ qR s l 0).length by rw [zr, List.append_nil]]
  refine qJ (T := fun k : Nat × Nat × AObj × AObj => qv 132 [(1, qw ps), (3, .op h.length 1 0), (8, .osl (h.length + 2) k.2.1 6 0 (L1 ++ qR s l k.1).length), (57, qt ws), (58, .int .i64 ws.length), (59, .int .i64 i), (98, qF l), (99, .int .i64 l.length), (100, .int .i64 k.1)])
   (H := fun k => h ++ [.mem 1 25 (za s x), .emp 1, kC k.2.1 58 (qC (L1 ++ qR s l k.1)), .mem (qA (some O3) + 1) 33 [.str w.text, .int .i64 w.col, .int .i64 w.unit, .int .i64 w.dec, .bool w.joined, .bool true, .str w.name], .mem (qA (some O4) + 1) 58 [.int .i64 3, .int .i64 0, .int .i64 0, .int .i64 0, .int .i64 (-10000), .str []], .emp 0, O6, .emp 0, k.2.2.1, .emp 0, k.2.2.2, .emp 0])
   (inv := fun k => k.1 ≤ l.length ∧ zf [k.2.2.1] 0 = true ∧ zf [k.2.2.2] 0 = true) (m := fun k => l.length - k.1) (0, v + 1, O8, O10) ⟨by simp, i8, i10⟩ (Wk.temps ?_) ?_
  ·(simp only [qt, qF, qv, List.foldl, List.replicate, go_sem, qr, qp, qm, qq]; try (repeat' first | (with_reducible refine And.intro ?_ ?_) | (refine qh ?_; omega) | (refine qd ?_; rfl) | exact VLe.refl _))
  rintro ⟨k, v2, P8, P10⟩ ⟨j1, j8, j10⟩ K2 hK2
  simp only at j1 j8 j10 hK2
  have j8' : ∀ m, zf (P8 :: m) 0 = true := fun _ => j8
  have j10' : ∀ m, zf (P10 :: m) 0 = true := fun _ => j10
  have hpk := kc s l k
  obtain ⟨M, hM⟩ : ∃ M, M = L1 ++ qR s l k := ⟨_, rfl⟩
  have hml : M.length ≤ 200 * i + 1 + 2 * k := by rw [hM, List.length_append]; omega
  rw [← hM]
  have fc := zq M
  have ft := zI M
  have fit : ∀ y : It, qC M ++ [AV.int .i64 y.kind, .int .i64 y.width, .int .i64 y.stretch, .int .i64 y.shrink, .int .i64 y.penalty, .str y.text] = qC (M ++ [y]) := fun y => zB M y
  by_cases hk : k < l.length
  ·have hsk := zh s l k
   have hpk2 := hprt k
   obtain ⟨u, hu⟩ : ∃ u, u = l.getD k [] := ⟨_, rfl⟩
   have eu := hu.symm
   rw [eu] at hsk hpk2
   have hcu := jB u
   have qbn := fun h => t67 u h (by omega)
   obtain ⟨m1, m2⟩ := qbG (n := (qV u).length) b1 b2 (by omega)
   by_cases hk0 : k = 0
   ·have k7 : (0 < (k : Int)) = False := eq_false (by omega)
    have hpi : jI s k u = [⟨1, s.le * ((qV u).length : Int), 0, 0, 0, u⟩] := by unfold jI; rw [if_pos hk0]; rfl
    have hnxt : L1 ++ qR s l (k + 1) = M ++ [⟨1, s.le * ((qV u).length : Int), 0, 0, 0, u⟩] := by rw [hsk, hpi, hM, List.append_assoc]
    have hln : M.length + 1 = (L1 ++ qR s l (k + 1)).length := by rw [hnxt]; simp
    have hfin := fit ⟨1, s.le * ((qV u).length : Int), 0, 0, 0, u⟩
    simp only at hfin
    simp (disch := omega) only [qv, List.foldl, List.replicate, qF, za, eu, k7, j8', j10', qE, fc, ft, go_sem, qc, dvP, mdP]
    repeat' first
     | ((first | refine qj (qbn _) ?_ ?_); (next => exact flk); simp (disch := omega) only [qF, za, eu, k7, j8', j10', qE, fc, ft, go_sem, qc, dvP, mdP])
     | ((first | refine qn (fun _ => qbn _) ?_ ?_); (next => exact flk); simp (disch := omega) only [qF, za, eu, k7, j8', j10', qE, fc, ft, go_sem, qc, dvP, mdP])
     | ((first | refine qk (fun e => ⟨?_, qbn _⟩) ?_); (next => exact flk); simp (disch := omega) only [qF, za, eu, k7, j8', j10', qE, fc, ft, go_sem, qc, dvP, mdP])
     | ((first | refine qe ?_ ?_ | refine qg ?_ ?_); (next => exact rvk); simp only [go_sem]; (first | exact VLe.refl _ | refine qh ?_ | refine qd ?_ | refine ql ?_ | skip))
     | with_reducible first | refine And.intro ?_ ?_ | intro _
    all_goals try exact clz
    rw [hfin, hln, ← hnxt]
    refine hK2 _ _ (k + 1, v2 + 1, P8, .mem (qA (some P10) + 1) 58 [.int .i64 1, .int .i64 (s.le * ((qV u).length : Int)), .int .i64 0, .int .i64 0, .int .i64 0, .str u]) ⟨by simp only; omega, j8, rfl⟩ (by simp only; omega) (Wk.temps ?_)
    (simp only [qt, qF, qv, List.foldl, List.replicate, go_sem, qr, qp, qm, qq]; try (repeat' first | (with_reducible refine And.intro ?_ ?_) | (refine qh ?_; omega) | (refine qd ?_; rfl) | exact VLe.refl _))
   ·have k7 : (0 < (k : Int)) = True := eq_true (by omega)
    have hpi : jI s k u = [⟨3, s.le, 0, 0, s.hy, [61]⟩, ⟨1, s.le * ((qV u).length : Int), 0, 0, 0, u⟩] := by unfold jI; rw [if_neg hk0]; rfl
    have hnxt : L1 ++ qR s l (k + 1) = (M ++ [⟨3, s.le, 0, 0, s.hy, [61]⟩]) ++ [⟨1, s.le * ((qV u).length : Int), 0, 0, 0, u⟩] := by rw [hsk, hpi, hM]; simp
    have hln : M.length + 1 + 1 = (L1 ++ qR s l (k + 1)).length := by rw [hnxt]; simp
    have hfin0 := fit ⟨3, s.le, 0, 0, s.hy, [61]⟩
    obtain ⟨M2, hM2⟩ : ∃ M2, M2 = M ++ [(⟨3, s.le, 0, 0, s.hy, [61]⟩ : It)] := ⟨_, rfl⟩
    have hl2 : M2.length = M.length + 1 := by rw [hM2]; simp
    rw [← hM2] at hfin0 hnxt
    have fc2 : (qC M2).length = (M.length + 1) * 6 := by rw [zq, hl2]
    have ft2 : List.take ((M.length + 1) * 6) (qC M2) = qC M2 := by rw [← hl2]; exact zI M2
    have hfin : qC M2 ++ [AV.int .i64 1, .int .i64 (s.le * ((qV u).length : Int)), .int .i64 0, .int .i64 0, .int .i64 0, .str u] = qC (M2 ++ [⟨1, s.le * ((qV u).length : Int), 0, 0, 0, u⟩]) := zB M2 ⟨1, s.le * ((qV u).length : Int), 0, 0, 0, u⟩
    simp only at hfin0
    simp (disch := omega) only [qv, List.foldl, List.replicate, qF, za, eu, k7, j8', j10', qE, fc, ft, hfin0, fc2, ft2, go_sem, qc, dvP, mdP]
    repeat' first
     | ((first | refine qj (qbn _) ?_ ?_); (next => exact flk); simp (disch := omega) only [qF, za, eu, k7, j8', j10', qE, fc, ft, hfin0, fc2, ft2, go_sem, qc, dvP, mdP])
     | ((first | refine qn (fun _ => qbn _) ?_ ?_); (next => exact flk); simp (disch := omega) only [qF, za, eu, k7, j8', j10', qE, fc, ft, hfin0, fc2, ft2, go_sem, qc, dvP, mdP])
     | ((first | refine qk (fun e => ⟨?_, qbn _⟩) ?_); (next => exact flk); simp (disch := omega) only [qF, za, eu, k7, j8', j10', qE, fc, ft, hfin0, fc2, ft2, go_sem, qc, dvP, mdP])
     | ((first | refine qe ?_ ?_ | refine qg ?_ ?_); (next => exact rvk); simp only [go_sem]; (first | exact VLe.refl _ | refine qh ?_ | refine qd ?_ | refine ql ?_ | skip))
     | with_reducible first | refine And.intro ?_ ?_ | intro _
    all_goals try exact clz
    rw [hfin, hln, ← hnxt]
    refine hK2 _ _ (k + 1, v2 + 1 + 1, .mem (qA (some P8) + 1) 58 [.int .i64 3, .int .i64 s.le, .int .i64 0, .int .i64 0, .int .i64 s.hy, .str [61]], .mem (qA (some P10) + 1) 58 [.int .i64 1, .int .i64 (s.le * ((qV u).length : Int)), .int .i64 0, .int .i64 0, .int .i64 0, .str u]) ⟨by simp only; omega, rfl, rfl⟩ (by simp only; omega) (Wk.temps ?_)
    (simp only [qt, qF, qv, List.foldl, List.replicate, go_sem, qr, qp, qm, qq]; try (repeat' first | (with_reducible refine And.intro ?_ ?_) | (refine qh ?_; omega) | (refine qd ?_; rfl) | exact VLe.refl _))
  ·have e : k = l.length := by omega
   have hfn : M = zi s ps ws (i + 1) := by rw [hM, e, hsu, hwi, hL1, List.append_assoc]
   rw [hfn]
   simp (disch := omega) only [qv, List.foldl, List.replicate, qF, go_sem, qc, dvP, mdP]
   repeat' first
    | ((first | refine qe ?_ ?_ | refine qg ?_ ?_); (next => exact rvk); simp only [go_sem]; (first | exact VLe.refl _ | refine qh ?_ | refine qd ?_ | refine ql ?_ | skip))
    | with_reducible first | refine And.intro ?_ ?_ | intro _
   all_goals try exact clz
   refine hK _ _ (i + 1, v2, .mem (qA (some O3) + 1) 33 [.str w.text, .int .i64 w.col, .int .i64 w.unit, .int .i64 w.dec, .bool w.joined, .bool true, .str w.name], .mem (qA (some O4) + 1) 58 [.int .i64 3, .int .i64 0, .int .i64 0, .int .i64 0, .int .i64 (-10000), .str []], O6, P8, P10) ⟨by simp only; omega, rfl, rfl, i6, j8, j10⟩ (by simp only; omega) (Wk.temps ?_)
   (simp only [qt, qF, qv, List.foldl, List.replicate, go_sem, qr, qp, qm, qq]; try (repeat' first | (with_reducible refine And.intro ?_ ?_) | (refine qh ?_; omega) | (refine qd ?_; rfl) | exact VLe.refl _))
 | false =>
 cases g7 : w.joined with
 | true =>
  have hsp : qcf s i w = [] := by unfold qcf; rw [if_neg g5, if_neg (by rw [g6]; simp), if_pos g7]
  obtain ⟨L1, hL1⟩ : ∃ L1, L1 = L ++ qcf s i w := ⟨_, rfl⟩
  have hl1 : L1.length ≤ 200 * i + 1 := by rw [hL1, List.length_append]; have := qaW s i w; omega
  simp (disch := omega) only [qv, List.foldl, List.replicate, qt, qY, ewd, za, qF, k1, g6, g7, i3', i4', i6', qE, ec, et, go_sem, qc, dvP, mdP]
  repeat' first
   | ((first | refine qj (qfc _) ?_ ?_); (next => exact flk); simp (disch := omega) only [qY, za, qF, k1, g6, g7, i3', i4', i6', qE, ec, et, go_sem, qc, dvP, mdP])
   | ((first | refine qn (fun _ => qfc _) ?_ ?_); (next => exact flk); simp (disch := omega) only [qY, za, qF, k1, g6, g7, i3', i4', i6', qE, ec, et, go_sem, qc, dvP, mdP])
   | ((first | refine qk (fun e => ⟨?_, qfc _⟩) ?_); (next => exact flk); simp (disch := omega) only [qY, za, qF, k1, g6, g7, i3', i4', i6', qE, ec, et, go_sem, qc, dvP, mdP])
   | ((first | refine qe ?_ ?_ | refine qg ?_ ?_); (next => exact rvk); simp only [go_sem]; (first | exact VLe.refl _ | refine qh ?_ | refine qd ?_ | refine ql ?_ | skip))
   | with_reducible first | refine And.intro ?_ ?_ | intro _
  all_goals try exact clz
  rw [show L = L1 by rw [hL1, hsp, List.append_nil]]
  rw [show qC L1 = qC (L1 ++ qR s l 0) by rw [zr, List.append_nil], show L1.length = (L1 ++ qR s l 0).length by rw [zr, List.append_nil]]
  refine qJ (T := fun k : Nat × Nat × AObj × AObj => qv 132 [(1, qw ps), (3, .op h.length 1 0), (8, .osl (h.length + 2) k.2.1 6 0 (L1 ++ qR s l k.1).length), (57, qt ws), (58, .int .i64 ws.length), (59, .int .i64 i), (98, qF l), (99, .int .i64 l.length), (100, .int .i64 k.1)])
   (H := fun k => h ++ [.mem 1 25 (za s x), .emp 1, kC k.2.1 58 (qC (L1 ++ qR s l k.1)), .mem (qA (some O3) + 1) 33 [.str w.text, .int .i64 w.col, .int .i64 w.unit, .int .i64 w.dec, .bool true, .bool false, .str w.name], O4, .emp 0, O6, .emp 0, k.2.2.1, .emp 0, k.2.2.2, .emp 0])
   (inv := fun k => k.1 ≤ l.length ∧ zf [k.2.2.1] 0 = true ∧ zf [k.2.2.2] 0 = true) (m := fun k => l.length - k.1) (0, v, O8, O10) ⟨by simp, i8, i10⟩ (Wk.temps ?_) ?_
  ·(simp only [qt, qF, qv, List.foldl, List.replicate, go_sem, qr, qp, qm, qq]; try (repeat' first | (with_reducible refine And.intro ?_ ?_) | (refine qh ?_; omega) | (refine qd ?_; rfl) | exact VLe.refl _))
  rintro ⟨k, v2, P8, P10⟩ ⟨j1, j8, j10⟩ K2 hK2
  simp only at j1 j8 j10 hK2
  have j8' : ∀ m, zf (P8 :: m) 0 = true := fun _ => j8
  have j10' : ∀ m, zf (P10 :: m) 0 = true := fun _ => j10
  have hpk := kc s l k
  obtain ⟨M, hM⟩ : ∃ M, M = L1 ++ qR s l k := ⟨_, rfl⟩
  have hml : M.length ≤ 200 * i + 1 + 2 * k := by rw [hM, List.length_append]; omega
  rw [← hM]
  have fc := zq M
  have ft := zI M
  have fit : ∀ y : It, qC M ++ [AV.int .i64 y.kind, .int .i64 y.width, .int .i64 y.stretch, .int .i64 y.shrink, .int .i64 y.penalty, .str y.text] = qC (M ++ [y]) := fun y => zB M y
  by_cases hk : k < l.length
  ·have hsk := zh s l k
   have hpk2 := hprt k
   obtain ⟨u, hu⟩ : ∃ u, u = l.getD k [] := ⟨_, rfl⟩
   have eu := hu.symm
   rw [eu] at hsk hpk2
   have hcu := jB u
   have qbn := fun h => t67 u h (by omega)
   obtain ⟨m1, m2⟩ := qbG (n := (qV u).length) b1 b2 (by omega)
   by_cases hk0 : k = 0
   ·have k7 : (0 < (k : Int)) = False := eq_false (by omega)
    have hpi : jI s k u = [⟨1, s.le * ((qV u).length : Int), 0, 0, 0, u⟩] := by unfold jI; rw [if_pos hk0]; rfl
    have hnxt : L1 ++ qR s l (k + 1) = M ++ [⟨1, s.le * ((qV u).length : Int), 0, 0, 0, u⟩] := by rw [hsk, hpi, hM, List.append_assoc]
    have hln : M.length + 1 = (L1 ++ qR s l (k + 1)).length := by rw [hnxt]; simp
    have hfin := fit ⟨1, s.le * ((qV u).length : Int), 0, 0, 0, u⟩
    simp only at hfin
    simp (disch := omega) only [qv, List.foldl, List.replicate, qF, za, eu, k7, j8', j10', qE, fc, ft, go_sem, qc, dvP, mdP]
    repeat' first
     | ((first | refine qj (qbn _) ?_ ?_); (next => exact flk); simp (disch := omega) only [qF, za, eu, k7, j8', j10', qE, fc, ft, go_sem, qc, dvP, mdP])
     | ((first | refine qn (fun _ => qbn _) ?_ ?_); (next => exact flk); simp (disch := omega) only [qF, za, eu, k7, j8', j10', qE, fc, ft, go_sem, qc, dvP, mdP])
     | ((first | refine qk (fun e => ⟨?_, qbn _⟩) ?_); (next => exact flk); simp (disch := omega) only [qF, za, eu, k7, j8', j10', qE, fc, ft, go_sem, qc, dvP, mdP])
     | ((first | refine qe ?_ ?_ | refine qg ?_ ?_); (next => exact rvk); simp only [go_sem]; (first | exact VLe.refl _ | refine qh ?_ | refine qd ?_ | refine ql ?_ | skip))
     | with_reducible first | refine And.intro ?_ ?_ | intro _
    all_goals try exact clz
    rw [hfin, hln, ← hnxt]
    refine hK2 _ _ (k + 1, v2 + 1, P8, .mem (qA (some P10) + 1) 58 [.int .i64 1, .int .i64 (s.le * ((qV u).length : Int)), .int .i64 0, .int .i64 0, .int .i64 0, .str u]) ⟨by simp only; omega, j8, rfl⟩ (by simp only; omega) (Wk.temps ?_)
    (simp only [qt, qF, qv, List.foldl, List.replicate, go_sem, qr, qp, qm, qq]; try (repeat' first | (with_reducible refine And.intro ?_ ?_) | (refine qh ?_; omega) | (refine qd ?_; rfl) | exact VLe.refl _))
   ·have k7 : (0 < (k : Int)) = True := eq_true (by omega)
    have hpi : jI s k u = [⟨3, s.le, 0, 0, s.hy, [61]⟩, ⟨1, s.le * ((qV u).length : Int), 0, 0, 0, u⟩] := by unfold jI; rw [if_neg hk0]; rfl
    have hnxt : L1 ++ qR s l (k + 1) = (M ++ [⟨3, s.le, 0, 0, s.hy, [61]⟩]) ++ [⟨1, s.le * ((qV u).length : Int), 0, 0, 0, u⟩] := by rw [hsk, hpi, hM]; simp
    have hln : M.length + 1 + 1 = (L1 ++ qR s l (k + 1)).length := by rw [hnxt]; simp
    have hfin0 := fit ⟨3, s.le, 0, 0, s.hy, [61]⟩
    obtain ⟨M2, hM2⟩ : ∃ M2, M2 = M ++ [(⟨3, s.le, 0, 0, s.hy, [61]⟩ : It)] := ⟨_, rfl⟩
    have hl2 : M2.length = M.length + 1 := by rw [hM2]; simp
    rw [← hM2] at hfin0 hnxt
    have fc2 : (qC M2).length = (M.length + 1) * 6 := by rw [zq, hl2]
    have ft2 : List.take ((M.length + 1) * 6) (qC M2) = qC M2 := by rw [← hl2]; exact zI M2
    have hfin : qC M2 ++ [AV.int .i64 1, .int .i64 (s.le * ((qV u).length : Int)), .int .i64 0, .int .i64 0, .int .i64 0, .str u] = qC (M2 ++ [⟨1, s.le * ((qV u).length : Int), 0, 0, 0, u⟩]) := zB M2 ⟨1, s.le * ((qV u).length : Int), 0, 0, 0, u⟩
    simp only at hfin0
    simp (disch := omega) only [qv, List.foldl, List.replicate, qF, za, eu, k7, j8', j10', qE, fc, ft, hfin0, fc2, ft2, go_sem, qc, dvP, mdP]
    repeat' first
     | ((first | refine qj (qbn _) ?_ ?_); (next => exact flk); simp (disch := omega) only [qF, za, eu, k7, j8', j10', qE, fc, ft, hfin0, fc2, ft2, go_sem, qc, dvP, mdP])
     | ((first | refine qn (fun _ => qbn _) ?_ ?_); (next => exact flk); simp (disch := omega) only [qF, za, eu, k7, j8', j10', qE, fc, ft, hfin0, fc2, ft2, go_sem, qc, dvP, mdP])
     | ((first | refine qk (fun e => ⟨?_, qbn _⟩) ?_); (next => exact flk); simp (disch := omega) only [qF, za, eu, k7, j8', j10', qE, fc, ft, hfin0, fc2, ft2, go_sem, qc, dvP, mdP])
     | ((first | refine qe ?_ ?_ | refine qg ?_ ?_); (next => exact rvk); simp only [go_sem]; (first | exact VLe.refl _ | refine qh ?_ | refine qd ?_ | refine ql ?_ | skip))
     | with_reducible first | refine And.intro ?_ ?_ | intro _
    all_goals try exact clz
    rw [hfin, hln, ← hnxt]
    refine hK2 _ _ (k + 1, v2 + 1 + 1, .mem (qA (some P8) + 1) 58 [.int .i64 3, .int .i64 s.le, .int .i64 0, .int .i64 0, .int .i64 s.hy, .str [61]], .mem (qA (some P10) + 1) 58 [.int .i64 1, .int .i64 (s.le * ((qV u).length : Int)), .int .i64 0, .int .i64 0, .int .i64 0, .str u]) ⟨by simp only; omega, rfl, rfl⟩ (by simp only; omega) (Wk.temps ?_)
    (simp only [qt, qF, qv, List.foldl, List.replicate, go_sem, qr, qp, qm, qq]; try (repeat' first | (with_reducible refine And.intro ?_ ?_) | (refine qh ?_; omega) | (refine qd ?_; rfl) | exact VLe.refl _))
  ·have e : k = l.length := by omega
   have hfn : M = zi s ps ws (i + 1) := by rw [hM, e, hsu, hwi, hL1, List.append_assoc]
   rw [hfn]
   simp (disch := omega) only [qv, List.foldl, List.replicate, qF, go_sem, qc, dvP, mdP]
   repeat' first
    | ((first | refine qe ?_ ?_ | refine qg ?_ ?_); (next => exact rvk); simp only [go_sem]; (first | exact VLe.refl _ | refine qh ?_ | refine qd ?_ | refine ql ?_ | skip))
    | with_reducible first | refine And.intro ?_ ?_ | intro _
   all_goals try exact clz
   refine hK _ _ (i + 1, v2, .mem (qA (some O3) + 1) 33 [.str w.text, .int .i64 w.col, .int .i64 w.unit, .int .i64 w.dec, .bool true, .bool false, .str w.name], O4, O6, P8, P10) ⟨by simp only; omega, rfl, i4, i6, j8, j10⟩ (by simp only; omega) (Wk.temps ?_)
   (simp only [qt, qF, qv, List.foldl, List.replicate, go_sem, qr, qp, qm, qq]; try (repeat' first | (with_reducible refine And.intro ?_ ?_) | (refine qh ?_; omega) | (refine qd ?_; rfl) | exact VLe.refl _))
 | false =>
  have hsp : qcf s i w = [⟨2, s.sp, s.st, s.sh, 0, []⟩] := by unfold qcf; rw [if_neg g5, if_neg (by rw [g6]; simp), if_neg (by rw [g7]; simp)]
  have hfin := hit ⟨2, s.sp, s.st, s.sh, 0, []⟩
  simp only at hfin
  obtain ⟨L1, hL1⟩ : ∃ L1, L1 = L ++ qcf s i w := ⟨_, rfl⟩
  have hl1 : L1.length ≤ 200 * i + 1 := by rw [hL1, List.length_append]; have := qaW s i w; omega
  simp (disch := omega) only [qv, List.foldl, List.replicate, qt, qY, ewd, za, qF, k1, g6, g7, hfin, i3', i4', i6', qE, ec, et, go_sem, qc, dvP, mdP]
  repeat' first
   | ((first | refine qj (qfc _) ?_ ?_); (next => exact flk); simp (disch := omega) only [qY, za, qF, k1, g6, g7, hfin, i3', i4', i6', qE, ec, et, go_sem, qc, dvP, mdP])
   | ((first | refine qn (fun _ => qfc _) ?_ ?_); (next => exact flk); simp (disch := omega) only [qY, za, qF, k1, g6, g7, hfin, i3', i4', i6', qE, ec, et, go_sem, qc, dvP, mdP])
   | ((first | refine qk (fun e => ⟨?_, qfc _⟩) ?_); (next => exact flk); simp (disch := omega) only [qY, za, qF, k1, g6, g7, hfin, i3', i4', i6', qE, ec, et, go_sem, qc, dvP, mdP])
   | ((first | refine qe ?_ ?_ | refine qg ?_ ?_); (next => exact rvk); simp only [go_sem]; (first | exact VLe.refl _ | refine qh ?_ | refine qd ?_ | refine ql ?_ | skip))
   | with_reducible first | refine And.intro ?_ ?_ | intro _
  all_goals try exact clz
  rw [show L ++ [(⟨2, s.sp, s.st, s.sh, 0, []⟩ : It)] = L1 by rw [hL1, hsp], show L.length + 1 = L1.length by rw [hL1, hsp]; simp]
  rw [show qC L1 = qC (L1 ++ qR s l 0) by rw [zr, List.append_nil], show L1.length = (L1 ++ qR s l 0).length by rw [zr, List.append_nil]]
  refine qJ (T := fun k : Nat × Nat × AObj × AObj => qv 132 [(1, qw ps), (3, .op h.length 1 0), (8, .osl (h.length + 2) k.2.1 6 0 (L1 ++ qR s l k.1).length), (57, qt ws), (58, .int .i64 ws.length), (59, .int .i64 i), (98, qF l), (99, .int .i64 l.length), (100, .int .i64 k.1)])
   (H := fun k => h ++ [.mem 1 25 (za s x), .emp 1, kC k.2.1 58 (qC (L1 ++ qR s l k.1)), .mem (qA (some O3) + 1) 33 [.str w.text, .int .i64 w.col, .int .i64 w.unit, .int .i64 w.dec, .bool false, .bool false, .str w.name], O4, .emp 0, .mem (qA (some O6) + 1) 58 [.int .i64 2, .int .i64 s.sp, .int .i64 s.st, .int .i64 s.sh, .int .i64 0, .str []], .emp 0, k.2.2.1, .emp 0, k.2.2.2, .emp 0])
   (inv := fun k => k.1 ≤ l.length ∧ zf [k.2.2.1] 0 = true ∧ zf [k.2.2.2] 0 = true) (m := fun k => l.length - k.1) (0, v + 1, O8, O10) ⟨by simp, i8, i10⟩ (Wk.temps ?_) ?_
  ·(simp only [qt, qF, qv, List.foldl, List.replicate, go_sem, qr, qp, qm, qq]; try (repeat' first | (with_reducible refine And.intro ?_ ?_) | (refine qh ?_; omega) | (refine qd ?_; rfl) | exact VLe.refl _))
  rintro ⟨k, v2, P8, P10⟩ ⟨j1, j8, j10⟩ K2 hK2
  simp only at j1 j8 j10 hK2
  have j8' : ∀ m, zf (P8 :: m) 0 = true := fun _ => j8
  have j10' : ∀ m, zf (P10 :: m) 0 = true := fun _ => j10
  have hpk := kc s l k
  obtain ⟨M, hM⟩ : ∃ M, M = L1 ++ qR s l k := ⟨_, rfl⟩
  have hml : M.length ≤ 200 * i + 1 + 2 * k := by rw [hM, List.length_append]; omega
  rw [← hM]
  have fc := zq M
  have ft := zI M
  have fit : ∀ y : It, qC M ++ [AV.int .i64 y.kind, .int .i64 y.width, .int .i64 y.stretch, .int .i64 y.shrink, .int .i64 y.penalty, .str y.text] = qC (M ++ [y]) := fun y => zB M y
  by_cases hk : k < l.length
  ·have hsk := zh s l k
   have hpk2 := hprt k
   obtain ⟨u, hu⟩ : ∃ u, u = l.getD k [] := ⟨_, rfl⟩
   have eu := hu.symm
   rw [eu] at hsk hpk2
   have hcu := jB u
   have qbn := fun h => t67 u h (by omega)
   obtain ⟨m1, m2⟩ := qbG (n := (qV u).length) b1 b2 (by omega)
   by_cases hk0 : k = 0
   ·have k7 : (0 < (k : Int)) = False := eq_false (by omega)
    have hpi : jI s k u = [⟨1, s.le * ((qV u).length : Int), 0, 0, 0, u⟩] := by unfold jI; rw [if_pos hk0]; rfl
    have hnxt : L1 ++ qR s l (k + 1) = M ++ [⟨1, s.le * ((qV u).length : Int), 0, 0, 0, u⟩] := by rw [hsk, hpi, hM, List.append_assoc]
    have hln : M.length + 1 = (L1 ++ qR s l (k + 1)).length := by rw [hnxt]; simp
    have hfin := fit ⟨1, s.le * ((qV u).length : Int), 0, 0, 0, u⟩
    simp only at hfin
    simp (disch := omega) only [qv, List.foldl, List.replicate, qF, za, eu, k7, j8', j10', qE, fc, ft, go_sem, qc, dvP, mdP]
    repeat' first
     | ((first | refine qj (qbn _) ?_ ?_); (next => exact flk); simp (disch := omega) only [qF, za, eu, k7, j8', j10', qE, fc, ft, go_sem, qc, dvP, mdP])
     | ((first | refine qn (fun _ => qbn _) ?_ ?_); (next => exact flk); simp (disch := omega) only [qF, za, eu, k7, j8', j10', qE, fc, ft, go_sem, qc, dvP, mdP])
     | ((first | refine qk (fun e => ⟨?_, qbn _⟩) ?_); (next => exact flk); simp (disch := omega) only [qF, za, eu, k7, j8', j10', qE, fc, ft, go_sem, qc, dvP, mdP])
     | ((first | refine qe ?_ ?_ | refine qg ?_ ?_); (next => exact rvk); simp only [go_sem]; (first | exact VLe.refl _ | refine qh ?_ | refine qd ?_ | refine ql ?_ | skip))
     | with_reducible first | refine And.intro ?_ ?_ | intro _
    all_goals try exact clz
    rw [hfin, hln, ← hnxt]
    refine hK2 _ _ (k + 1, v2 + 1, P8, .mem (qA (some P10) + 1) 58 [.int .i64 1, .int .i64 (s.le * ((qV u).length : Int)), .int .i64 0, .int .i64 0, .int .i64 0, .str u]) ⟨by simp only; omega, j8, rfl⟩ (by simp only; omega) (Wk.temps ?_)
    (simp only [qt, qF, qv, List.foldl, List.replicate, go_sem, qr, qp, qm, qq]; try (repeat' first | (with_reducible refine And.intro ?_ ?_) | (refine qh ?_; omega) | (refine qd ?_; rfl) | exact VLe.refl _))
   ·have k7 : (0 < (k : Int)) = True := eq_true (by omega)
    have hpi : jI s k u = [⟨3, s.le, 0, 0, s.hy, [61]⟩, ⟨1, s.le * ((qV u).length : Int), 0, 0, 0, u⟩] := by unfold jI; rw [if_neg hk0]; rfl
    have hnxt : L1 ++ qR s l (k + 1) = (M ++ [⟨3, s.le, 0, 0, s.hy, [61]⟩]) ++ [⟨1, s.le * ((qV u).length : Int), 0, 0, 0, u⟩] := by rw [hsk, hpi, hM]; simp
    have hln : M.length + 1 + 1 = (L1 ++ qR s l (k + 1)).length := by rw [hnxt]; simp
    have hfin0 := fit ⟨3, s.le, 0, 0, s.hy, [61]⟩
    obtain ⟨M2, hM2⟩ : ∃ M2, M2 = M ++ [(⟨3, s.le, 0, 0, s.hy, [61]⟩ : It)] := ⟨_, rfl⟩
    have hl2 : M2.length = M.length + 1 := by rw [hM2]; simp
    rw [← hM2] at hfin0 hnxt
    have fc2 : (qC M2).length = (M.length + 1) * 6 := by rw [zq, hl2]
    have ft2 : List.take ((M.length + 1) * 6) (qC M2) = qC M2 := by rw [← hl2]; exact zI M2
    have hfin : qC M2 ++ [AV.int .i64 1, .int .i64 (s.le * ((qV u).length : Int)), .int .i64 0, .int .i64 0, .int .i64 0, .str u] = qC (M2 ++ [⟨1, s.le * ((qV u).length : Int), 0, 0, 0, u⟩]) := zB M2 ⟨1, s.le * ((qV u).length : Int), 0, 0, 0, u⟩
    simp only at hfin0
    simp (disch := omega) only [qv, List.foldl, List.replicate, qF, za, eu, k7, j8', j10', qE, fc, ft, hfin0, fc2, ft2, go_sem, qc, dvP, mdP]
    repeat' first
     | ((first | refine qj (qbn _) ?_ ?_); (next => exact flk); simp (disch := omega) only [qF, za, eu, k7, j8', j10', qE, fc, ft, hfin0, fc2, ft2, go_sem, qc, dvP, mdP])
     | ((first | refine qn (fun _ => qbn _) ?_ ?_); (next => exact flk); simp (disch := omega) only [qF, za, eu, k7, j8', j10', qE, fc, ft, hfin0, fc2, ft2, go_sem, qc, dvP, mdP])
     | ((first | refine qk (fun e => ⟨?_, qbn _⟩) ?_); (next => exact flk); simp (disch := omega) only [qF, za, eu, k7, j8', j10', qE, fc, ft, hfin0, fc2, ft2, go_sem, qc, dvP, mdP])
     | ((first | refine qe ?_ ?_ | refine qg ?_ ?_); (next => exact rvk); simp only [go_sem]; (first | exact VLe.refl _ | refine qh ?_ | refine qd ?_ | refine ql ?_ | skip))
     | with_reducible first | refine And.intro ?_ ?_ | intro _
    all_goals try exact clz
    rw [hfin, hln, ← hnxt]
    refine hK2 _ _ (k + 1, v2 + 1 + 1, .mem (qA (some P8) + 1) 58 [.int .i64 3, .int .i64 s.le, .int .i64 0, .int .i64 0, .int .i64 s.hy, .str [61]], .mem (qA (some P10) + 1) 58 [.int .i64 1, .int .i64 (s.le * ((qV u).length : Int)), .int .i64 0, .int .i64 0, .int .i64 0, .str u]) ⟨by simp only; omega, rfl, rfl⟩ (by simp only; omega) (Wk.temps ?_)
    (simp only [qt, qF, qv, List.foldl, List.replicate, go_sem, qr, qp, qm, qq]; try (repeat' first | (with_reducible refine And.intro ?_ ?_) | (refine qh ?_; omega) | (refine qd ?_; rfl) | exact VLe.refl _))
  ·have e : k = l.length := by omega
   have hfn : M = zi s ps ws (i + 1) := by rw [hM, e, hsu, hwi, hL1, List.append_assoc]
   rw [hfn]
   simp (disch := omega) only [qv, List.foldl, List.replicate, qF, go_sem, qc, dvP, mdP]
   repeat' first
    | ((first | refine qe ?_ ?_ | refine qg ?_ ?_); (next => exact rvk); simp only [go_sem]; (first | exact VLe.refl _ | refine qh ?_ | refine qd ?_ | refine ql ?_ | skip))
    | with_reducible first | refine And.intro ?_ ?_ | intro _
   all_goals try exact clz
   refine hK _ _ (i + 1, v2, .mem (qA (some O3) + 1) 33 [.str w.text, .int .i64 w.col, .int .i64 w.unit, .int .i64 w.dec, .bool false, .bool false, .str w.name], O4, .mem (qA (some O6) + 1) 58 [.int .i64 2, .int .i64 s.sp, .int .i64 s.st, .int .i64 s.sh, .int .i64 0, .str []], P8, P10) ⟨by simp only; omega, rfl, i4, rfl, j8, j10⟩ (by simp only; omega) (Wk.temps ?_)
   (simp only [qt, qF, qv, List.foldl, List.replicate, go_sem, qr, qp, qm, qq]; try (repeat' first | (with_reducible refine And.intro ?_ ?_) | (refine qh ?_; omega) | (refine qd ?_; rfl) | exact VLe.refl _))
end HY
end
section
open Go Go.Proofs AF HY P48
namespace LN
set_option maxRecDepth 100000
theorem qrY (ls : List P48.Line) : qwq ls = qD (ls.map kU) := by
 unfold qwq qD
 rw [List.length_map]
 congr 1
 funext i
 have e : (ls.map kU).getD i default = kU (ls.getD i default) := by
  rw [List.getD_eq_getElem?_getD, List.getD_eq_getElem?_getD, List.getElem?_map]
  cases ls[i]? <;> rfl
 rw [e]
 rfl
theorem qdb (l : List It) (W : Int) (p : List Int) : ∀ n frm, (qaX l W p n frm).length ≤ n := by
 intro n
 induction n with
 | zero => intro frm; simp [qaX]
 | succ n ih =>
  intro frm
  rw [qaX]
  split
  ·simp
  ·split
   ·rw [List.length_cons]
    exact Nat.succ_le_succ (ih _)
   ·simp
def quH (w : Wd) : Bool := decide (16 < w.text.length) || decide (20 < w.name.length)
def qrO (p : Pat) : Bool := decide (8 < p.letters.length) || decide (10 < p.levels.length)
theorem s49 (w : Wd) (h : List AObj) : qs Tryz.prog 49 [.agg (qY w)] h (.bool (quH w)) h := by
 unfold quH
 refine qo qye (by simp) ?_
 simp only [lcP, lnP, Nat.reduceAdd, Nat.reduceSub, List.replicate, caP, naP, List.append_nil]
 simp (disch := omega) only [qzr, qY, go_sem, qc, dvP, mdP]
 repeat' first
  | ((first | refine qe ?_ ?_ | refine qg ?_ ?_); (next => exact rvk); simp only [go_sem]; (first | exact VLe.refl _ | refine qh ?_ | refine qd ?_ | refine ql ?_ | skip))
  | with_reducible first | refine And.intro ?_ ?_ | intro _
 all_goals try exact clz
 all_goals (rw [Bool.eq_iff_iff]; simp only [Bool.or_eq_true, Bool.and_eq_true, decide_eq_true_eq]; omega)
theorem s50 (p : Pat) (h : List AObj) : qs Tryz.prog 50 [.agg (qbo p)] h (.bool (qrO p)) h := by
 unfold qrO
 refine qo qyf (by simp) ?_
 simp only [lcP, lnP, Nat.reduceAdd, Nat.reduceSub, List.replicate, caP, naP, List.append_nil]
 simp (disch := omega) only [qzs, qbo, qy, go_sem, qc, dvP, mdP]
 repeat' first
  | ((first | refine qe ?_ ?_ | refine qg ?_ ?_); (next => exact rvk); simp only [go_sem]; (first | exact VLe.refl _ | refine qh ?_ | refine qd ?_ | refine ql ?_ | skip))
  | with_reducible first | refine And.intro ?_ ?_ | intro _
 all_goals try exact clz
 all_goals (rw [Bool.eq_iff_iff]; simp only [Bool.or_eq_true, Bool.and_eq_true, decide_eq_true_eq]; omega)
structure qff (s : Sty) (W : Int) (ps : List Pat) (ws : List Wd) (l : List It) (ls : List P48.Line) : Prop where
 n8 : ws.length ≤ 8
 itE : jd s ps ws = 0
 itR : l = qao s ps ws
 small : l.length ≤ 30
 txt : ∀ i, (it l i).text.length ≤ 66
 wOk : jb l W = 0
 brkOk : 0 ≤ (kp l W).getD 0 0
 lines : jn l W ((P48.brk l W).map Int.ofNat) = (ls, 0)
 n12 : ls.length ≤ 12
set_option maxHeartbeats 8000000 in
theorem s17 (s : Sty) (W : Int) (x : List AV) (ps : List Pat) (ws : List Wd) (h : List AObj) (hps : ps.length ≤ 9223372036854775807) (hws : ws.length ≤ 9223372036854775807) (hx : x.getD 0 .undef = .int .i64 W) :
  ∃ (A B : AV) (b : Bool), (A.flag = true ∧ A.strip = A ∧ B.flag = true ∧ B.strip = B) ∧ (∀ h, qs Tryz.prog 17 [.agg (za s x), qw ps, qt ws] h (.tup [A, B, .bool b]) h) ∧ (b = true → ∃ l ls, A = qu l ∧ B = qD (ls.map kU) ∧ qff s W ps ws l ls) := by
 have neg : (∀ h, qs Tryz.prog 17 [.agg (za s x), qw ps, qt ws] h (.tup [.nl, .nl, .bool false]) h) → ∃ (A B : AV) (b : Bool), (A.flag = true ∧ A.strip = A ∧ B.flag = true ∧ B.strip = B) ∧ (∀ h, qs Tryz.prog 17 [.agg (za s x), qw ps, qt ws] h (.tup [A, B, .bool b]) h) ∧ (b = true → ∃ l ls, A = qu l ∧ B = qD (ls.map kU) ∧ qff s W ps ws l ls) :=
  fun hc => ⟨_, _, _, ⟨rfl, rfl, rfl, rfl⟩, hc, fun e => by cases e⟩
 by_cases g1 : 8 < ws.length
 ·have k1 : (8 < (ws.length : Int)) = True := eq_true (by omega)
  refine neg fun h => ?_
  refine qo qdO (by simp) ?_
  simp only [lcP, lnP, Nat.reduceAdd, Nat.reduceSub, List.replicate, caP, naP, List.append_nil]
  simp (disch := omega) only [qlw, za, qw, qt, k1, hx, go_sem, qc, dvP, mdP]
  repeat' first
   | (refine qP ((.bool false)) ?_; simp (disch := omega) only [za, qw, qt, k1, hx, go_sem, qc, dvP, mdP])
   | ((first | refine qe ?_ ?_ | refine qg ?_ ?_); (next => exact rvk); simp only [go_sem]; (first | exact VLe.refl _ | refine qh ?_ | refine qd ?_ | refine ql ?_ | skip))
   | with_reducible first | refine And.intro ?_ ?_ | intro _
  all_goals try exact clz
 have k1 : (8 < (ws.length : Int)) = False := eq_false (by omega)
 by_cases g2 : 12 < ps.length
 ·have k2 : (12 < (ps.length : Int)) = True := eq_true (by omega)
  refine neg fun h => ?_
  refine qo qdO (by simp) ?_
  simp only [lcP, lnP, Nat.reduceAdd, Nat.reduceSub, List.replicate, caP, naP, List.append_nil]
  simp (disch := omega) only [qlw, za, qw, qt, k1, k2, hx, go_sem, qc, dvP, mdP]
  repeat' first
   | (refine qP ((.bool false)) ?_; simp (disch := omega) only [za, qw, qt, k1, k2, hx, go_sem, qc, dvP, mdP])
   | ((first | refine qe ?_ ?_ | refine qg ?_ ?_); (next => exact rvk); simp only [go_sem]; (first | exact VLe.refl _ | refine qh ?_ | refine qd ?_ | refine ql ?_ | skip))
   | with_reducible first | refine And.intro ?_ ?_ | intro _
  all_goals try exact clz
 have k2 : (12 < (ps.length : Int)) = False := eq_false (by omega)
 have c7 := fun h => t59 ws quH 49 h (by omega) s49
 have c22 := fun h => t61 ps qrO 50 h (by omega) (fun i h _ => s50 _ h)
 by_cases g3 : ws.any quH = true
 ·rw [g3] at c7
  unfold qt at c7
  refine neg fun h => ?_
  refine qo qdO (by simp) ?_
  simp only [lcP, lnP, Nat.reduceAdd, Nat.reduceSub, List.replicate, caP, naP, List.append_nil]
  simp (disch := omega) only [qlw, za, qw, qt, k1, k2, hx, go_sem, qc, dvP, mdP]
  repeat' first
   | (refine qP ((.bool false)) ?_; simp (disch := omega) only [za, qw, qt, k1, k2, hx, go_sem, qc, dvP, mdP])
   | ((first | refine qj (c7 _) ?_ ?_); (next => exact flk); simp (disch := omega) only [za, qw, qt, k1, k2, hx, go_sem, qc, dvP, mdP])
   | ((first | refine qn (fun _ => c7 _) ?_ ?_); (next => exact flk); simp (disch := omega) only [za, qw, qt, k1, k2, hx, go_sem, qc, dvP, mdP])
   | ((first | refine qk (fun e => ⟨?_, c7 _⟩) ?_); (next => exact flk); simp (disch := omega) only [za, qw, qt, k1, k2, hx, go_sem, qc, dvP, mdP])
   | ((first | refine qe ?_ ?_ | refine qg ?_ ?_); (next => exact rvk); simp only [go_sem]; (first | exact VLe.refl _ | refine qh ?_ | refine qd ?_ | refine ql ?_ | skip))
   | with_reducible first | refine And.intro ?_ ?_ | intro _
  all_goals try exact clz
 have g3' : ws.any quH = false := by simpa using g3
 rw [g3'] at c7
 by_cases g4 : ps.any qrO = true
 ·rw [g4] at c22
  unfold qt at c7
  unfold qw at c22
  refine neg fun h => ?_
  refine qo qdO (by simp) ?_
  simp only [lcP, lnP, Nat.reduceAdd, Nat.reduceSub, List.replicate, caP, naP, List.append_nil]
  simp (disch := omega) only [qlw, za, qw, qt, k1, k2, hx, go_sem, qc, dvP, mdP]
  repeat' first
   | ((first | refine qj (c7 _) ?_ ?_ | refine qj (c22 _) ?_ ?_); (next => exact flk); simp (disch := omega) only [za, qw, qt, k1, k2, hx, go_sem, qc, dvP, mdP])
   | ((first | refine qn (fun _ => c7 _) ?_ ?_ | refine qn (fun _ => c22 _) ?_ ?_); (next => exact flk); simp (disch := omega) only [za, qw, qt, k1, k2, hx, go_sem, qc, dvP, mdP])
   | ((first | refine qk (fun e => ⟨?_, c7 _⟩) ?_ | refine qk (fun e => ⟨?_, c22 _⟩) ?_); (next => exact flk); simp (disch := omega) only [za, qw, qt, k1, k2, hx, go_sem, qc, dvP, mdP])
   | ((first | refine qe ?_ ?_ | refine qg ?_ ?_); (next => exact rvk); simp only [go_sem]; (first | exact VLe.refl _ | refine qh ?_ | refine qd ?_ | refine ql ?_ | skip))
   | with_reducible first | refine And.intro ?_ ?_ | intro _
  all_goals try exact clz
 have g4' : ps.any qrO = false := by simpa using g4
 rw [g4'] at c22
 have hok : qa6 ps := by
  refine ⟨by omega, fun i hi => ?_⟩
  have hm : ps.getD i default ∈ ps := by rw [List.getD_eq_getElem?_getD, List.getElem?_eq_getElem hi]; exact List.getElem_mem hi
  have : qrO (ps.getD i default) = false := by
   cases hb : qrO (ps.getD i default) with
   | false => rfl
   | true => exact absurd (List.any_eq_true.2 ⟨_, hm, hb⟩) g4
  unfold qrO at this
  simp only [Bool.or_eq_false_iff, decide_eq_false_iff_not] at this
  omega
 have c12 : ∀ h, qs Tryz.prog 12 [.agg (za s x), qw ps, qt ws] h (.tup [qu (qao s ps ws), .int .i64 (jd s ps ws)]) h := fun h => t32 s x ps ws h hok (by omega)
 obtain ⟨l, hl⟩ : ∃ l, l = qao s ps ws := ⟨_, rfl⟩
 obtain ⟨e, he⟩ : ∃ e, e = jd s ps ws := ⟨_, rfl⟩
 rw [← hl, ← he] at c12
 have hst : za s x = [.int .i64 W, x.getD 1 .undef, x.getD 2 .undef, x.getD 3 .undef, x.getD 4 .undef, .int .i64 s.sp, .int .i64 s.st, .int .i64 s.sh, .int .i64 s.le, .int .i64 s.hy, x.getD 5 .undef, x.getD 6 .undef, x.getD 7 .undef] := by unfold za; rw [hx]
 by_cases g5 : e = 0
 ·have k5 : (e = 0) = True := eq_true g5
  have hchk : jk l = 0 := by
   rw [hl]
   unfold qao
   rw [if_pos (by rw [← he]; exact g5)]
   have hE := he
   rw [g5] at hE
   unfold jd at hE
   split at hE
   ·cases hE
   ·split at hE
    ·cases hE
    ·split at hE
     ·cases hE
     ·split at hE
      ·cases hE
      ·rename_i hh; simpa using hh
  have hl4 : l.length ≤ 4096 := by
   unfold jk at hchk
   split at hchk
   ·cases hchk
   ·omega
  have c51 : ∀ h, qs Tryz.prog 51 [qu l, .nl] h (.bool (qct l [])) h := fun h => (t11 l [] h (by omega)).le (zU (VLe.refl _) (zU kH j4.nil)) (VLe.refl _)
  by_cases g6 : qct l [] = true
  ·rw [g6] at c51
   rw [hst] at c12
   unfold qt at c7 c12
   unfold qw at c22 c12
   refine neg fun h => ?_
   rw [hst]
   refine qo qdO (by simp) ?_
   simp only [lcP, lnP, Nat.reduceAdd, Nat.reduceSub, List.replicate, caP, naP, List.append_nil]
   simp (disch := omega) only [qlw, qw, qt, k1, k2, k5, go_sem, qc, dvP, mdP]
   repeat' first
    | ((first | refine qj (c7 _) ?_ ?_ | refine qj (c22 _) ?_ ?_ | refine qj (c12 _) ?_ ?_ | refine qj (c51 _) ?_ ?_); (next => exact flk); simp (disch := omega) only [qw, qt, k1, k2, k5, go_sem, qc, dvP, mdP])
    | ((first | refine qn (fun _ => c7 _) ?_ ?_ | refine qn (fun _ => c22 _) ?_ ?_ | refine qn (fun _ => c12 _) ?_ ?_ | refine qn (fun _ => c51 _) ?_ ?_); (next => exact flk); simp (disch := omega) only [qw, qt, k1, k2, k5, go_sem, qc, dvP, mdP])
    | ((first | refine qk (fun e => ⟨?_, c7 _⟩) ?_ | refine qk (fun e => ⟨?_, c22 _⟩) ?_ | refine qk (fun e => ⟨?_, c12 _⟩) ?_ | refine qk (fun e => ⟨?_, c51 _⟩) ?_); (next => exact flk); simp (disch := omega) only [qw, qt, k1, k2, k5, go_sem, qc, dvP, mdP])
    | ((first | refine qe ?_ ?_ | refine qg ?_ ?_); (next => exact rvk); simp only [go_sem]; (first | exact VLe.refl _ | refine qh ?_ | refine qd ?_ | refine ql ?_ | skip))
    | with_reducible first | refine And.intro ?_ ?_ | intro _
   all_goals try exact clz
  have g6' : qct l [] = false := by simpa using g6
  rw [g6'] at c51
  have hsm : l.length ≤ 30 ∧ ∀ i, (it l i).text.length ≤ 66 := by
   unfold qct at g6'
   simp only [Bool.or_eq_false_iff, decide_eq_false_iff_not] at g6'
   refine ⟨by omega, fun i => ?_⟩
   by_cases hi : i < l.length
   ·have := g6'.1
    apply Classical.byContradiction
    intro hc
    exact this ⟨i, hi, by omega⟩
   ·have : it l i = default := by unfold it; rw [List.getD_eq_getElem?_getD, List.getElem?_eq_none (by omega)]; rfl
    rw [this]
    exact Nat.zero_le _
  have c13 : ∀ h, qs Tryz.prog 13 [qu l, .int .i64 W] h (jj l W) h := fun h => _root_.t13 l W h (by omega)
  obtain ⟨bs, hbs⟩ : ∃ bs, bs = (P48.brk l W).map Int.ofNat := ⟨_, rfl⟩
  have hbr : (∃ c, c ≠ 0 ∧ jj l W = .tup [qy [], .int .i64 0, .int .i64 c]) ∨ (jb l W = 0 ∧ 0 ≤ (kp l W).getD 0 0 ∧ jj l W = .tup [qy bs, .int .i64 ((kp l W).getD 0 0), .int .i64 0]) := by
   unfold jj
   by_cases hw : jb l W = 0
   ·rw [if_pos hw]
    by_cases hp : (kp l W).getD 0 0 < 0
    ·rw [if_pos hp]; exact .inl ⟨23, by decide, rfl⟩
    ·rw [if_neg hp, hbs]; exact .inr ⟨hw, by omega, rfl⟩
   ·rw [if_neg hw]; exact .inl ⟨_, hw, rfl⟩
  rcases hbr with ⟨c, hc0, hb⟩ | ⟨hw, hp, hb⟩
  ·rw [hb] at c13
   have k6 : (c = 0) = False := eq_false hc0
   rw [hst] at c12
   unfold qt at c7 c12
   unfold qw at c22 c12
   refine neg fun h => ?_
   rw [hst]
   refine qo qdO (by simp) ?_
   simp only [lcP, lnP, Nat.reduceAdd, Nat.reduceSub, List.replicate, caP, naP, List.append_nil]
   simp (disch := omega) only [qlw, qw, qt, k1, k2, k5, k6, go_sem, qc, dvP, mdP]
   repeat' first
    | ((first | refine qj (c7 _) ?_ ?_ | refine qj (c22 _) ?_ ?_ | refine qj (c12 _) ?_ ?_ | refine qj (c51 _) ?_ ?_ | refine qj (c13 _) ?_ ?_); (next => exact flk); simp (disch := omega) only [qw, qt, k1, k2, k5, k6, go_sem, qc, dvP, mdP])
    | ((first | refine qn (fun _ => c7 _) ?_ ?_ | refine qn (fun _ => c22 _) ?_ ?_ | refine qn (fun _ => c12 _) ?_ ?_ | refine qn (fun _ => c51 _) ?_ ?_ | refine qn (fun _ => c13 _) ?_ ?_); (next => exact flk); simp (disch := omega) only [qw, qt, k1, k2, k5, k6, go_sem, qc, dvP, mdP])
    | ((first | refine qk (fun e => ⟨?_, c7 _⟩) ?_ | refine qk (fun e => ⟨?_, c22 _⟩) ?_ | refine qk (fun e => ⟨?_, c12 _⟩) ?_ | refine qk (fun e => ⟨?_, c51 _⟩) ?_ | refine qk (fun e => ⟨?_, c13 _⟩) ?_); (next => exact flk); simp (disch := omega) only [qw, qt, k1, k2, k5, k6, go_sem, qc, dvP, mdP])
    | ((first | refine qe ?_ ?_ | refine qg ?_ ?_); (next => exact rvk); simp only [go_sem]; (first | exact VLe.refl _ | refine qh ?_ | refine qd ?_ | refine ql ?_ | skip))
    | with_reducible first | refine And.intro ?_ ?_ | intro _
   all_goals try exact clz
  rw [hb] at c13
  obtain ⟨po, hpo⟩ : ∃ po, po = (kp l W).getD 0 0 := ⟨_, rfl⟩
  rw [← hpo] at c13
  have hbl : bs.length ≤ 1000000 := by
   rw [hbs, List.length_map]
   have := qdb l W (kp l W) (l.length + 1) 0
   unfold P48.brk
   omega
  have c14 : ∀ h, qs Tryz.prog 14 [qu l, .int .i64 W, qy bs] h (.tup [qD ((jn l W bs).1.map kU), .int .i64 (jn l W bs).2]) h := fun h => by
   rw [← qrY]
   exact _root_.t16 l W bs h (by omega) hbl (fun i => by have := hsm.2 i; omega)
  obtain ⟨ls, hls⟩ : ∃ ls, ls = (jn l W bs).1 := ⟨_, rfl⟩
  obtain ⟨g, hg⟩ : ∃ g, g = (jn l W bs).2 := ⟨_, rfl⟩
  rw [← hls, ← hg] at c14
  have hlen : (ls.map kU).length = ls.length := by simp
  refine ⟨qu l, qD (ls.map kU), decide (g = 0) && decide (ls.length ≤ 12), ⟨rfl, rfl, rfl, rfl⟩, fun h => ?_, fun hb => ⟨l, ls, rfl, rfl, ?_⟩⟩
  ·rw [hst] at c12 ⊢
   unfold qt at c7 c12
   unfold qw at c22 c12
   by_cases k7 : g = 0
   ·have k7' : (g = 0) = True := eq_true k7
    rw [decide_eq_true k7, Bool.true_and]
    by_cases k8 : ls.length ≤ 12
    ·have k8' : ((ls.length : Int) ≤ 12) = True := eq_true (by omega)
     rw [decide_eq_true k8]
     refine qo qdO (by simp) ?_
     simp only [lcP, lnP, Nat.reduceAdd, Nat.reduceSub, List.replicate, caP, naP, List.append_nil]
     simp (disch := omega) only [qlw, qw, qt, qy, qD, hlen, k1, k2, k5, k7', k8', go_sem, qc, dvP, mdP]
     repeat' first
      | ((first | refine qj (c7 _) ?_ ?_ | refine qj (c22 _) ?_ ?_ | refine qj (c12 _) ?_ ?_ | refine qj (c51 _) ?_ ?_ | refine qj (c13 _) ?_ ?_ | refine qj (c14 _) ?_ ?_); (next => exact flk); simp (disch := omega) only [qw, qt, qy, qD, hlen, k1, k2, k5, k7', k8', go_sem, qc, dvP, mdP])
      | ((first | refine qn (fun _ => c7 _) ?_ ?_ | refine qn (fun _ => c22 _) ?_ ?_ | refine qn (fun _ => c12 _) ?_ ?_ | refine qn (fun _ => c51 _) ?_ ?_ | refine qn (fun _ => c13 _) ?_ ?_ | refine qn (fun _ => c14 _) ?_ ?_); (next => exact flk); simp (disch := omega) only [qw, qt, qy, qD, hlen, k1, k2, k5, k7', k8', go_sem, qc, dvP, mdP])
      | ((first | refine qk (fun e => ⟨?_, c7 _⟩) ?_ | refine qk (fun e => ⟨?_, c22 _⟩) ?_ | refine qk (fun e => ⟨?_, c12 _⟩) ?_ | refine qk (fun e => ⟨?_, c51 _⟩) ?_ | refine qk (fun e => ⟨?_, c13 _⟩) ?_ | refine qk (fun e => ⟨?_, c14 _⟩) ?_); (next => exact flk); simp (disch := omega) only [qw, qt, qy, qD, hlen, k1, k2, k5, k7', k8', go_sem, qc, dvP, mdP])
      | ((first | refine qe ?_ ?_ | refine qg ?_ ?_); (next => exact rvk); simp only [go_sem]; (first | exact VLe.refl _ | refine qh ?_ | refine qd ?_ | refine ql ?_ | skip))
      | with_reducible first | refine And.intro ?_ ?_ | intro _
     all_goals try exact clz
    ·have k8' : ((ls.length : Int) ≤ 12) = False := eq_false (by omega)
     rw [decide_eq_false k8]
     refine qo qdO (by simp) ?_
     simp only [lcP, lnP, Nat.reduceAdd, Nat.reduceSub, List.replicate, caP, naP, List.append_nil]
     simp (disch := omega) only [qlw, qw, qt, qy, qD, hlen, k1, k2, k5, k7', k8', go_sem, qc, dvP, mdP]
     repeat' first
      | ((first | refine qj (c7 _) ?_ ?_ | refine qj (c22 _) ?_ ?_ | refine qj (c12 _) ?_ ?_ | refine qj (c51 _) ?_ ?_ | refine qj (c13 _) ?_ ?_ | refine qj (c14 _) ?_ ?_); (next => exact flk); simp (disch := omega) only [qw, qt, qy, qD, hlen, k1, k2, k5, k7', k8', go_sem, qc, dvP, mdP])
      | ((first | refine qn (fun _ => c7 _) ?_ ?_ | refine qn (fun _ => c22 _) ?_ ?_ | refine qn (fun _ => c12 _) ?_ ?_ | refine qn (fun _ => c51 _) ?_ ?_ | refine qn (fun _ => c13 _) ?_ ?_ | refine qn (fun _ => c14 _) ?_ ?_); (next => exact flk); simp (disch := omega) only [qw, qt, qy, qD, hlen, k1, k2, k5, k7', k8', go_sem, qc, dvP, mdP])
      | ((first | refine qk (fun e => ⟨?_, c7 _⟩) ?_ | refine qk (fun e => ⟨?_, c22 _⟩) ?_ | refine qk (fun e => ⟨?_, c12 _⟩) ?_ | refine qk (fun e => ⟨?_, c51 _⟩) ?_ | refine qk (fun e => ⟨?_, c13 _⟩) ?_ | refine qk (fun e => ⟨?_, c14 _⟩) ?_); (next => exact flk); simp (disch := omega) only [qw, qt, qy, qD, hlen, k1, k2, k5, k7', k8', go_sem, qc, dvP, mdP])
      | ((first | refine qe ?_ ?_ | refine qg ?_ ?_); (next => exact rvk); simp only [go_sem]; (first | exact VLe.refl _ | refine qh ?_ | refine qd ?_ | refine ql ?_ | skip))
      | with_reducible first | refine And.intro ?_ ?_ | intro _
     all_goals try exact clz
   ·have k7' : (g = 0) = False := eq_false k7
    rw [decide_eq_false k7, Bool.false_and]
    refine qo qdO (by simp) ?_
    simp only [lcP, lnP, Nat.reduceAdd, Nat.reduceSub, List.replicate, caP, naP, List.append_nil]
    simp (disch := omega) only [qlw, qw, qt, qy, qD, hlen, k1, k2, k5, k7', go_sem, qc, dvP, mdP]
    repeat' first
     | ((first | refine qj (c7 _) ?_ ?_ | refine qj (c22 _) ?_ ?_ | refine qj (c12 _) ?_ ?_ | refine qj (c51 _) ?_ ?_ | refine qj (c13 _) ?_ ?_ | refine qj (c14 _) ?_ ?_); (next => exact flk); simp (disch := omega) only [qw, qt, qy, qD, hlen, k1, k2, k5, k7', go_sem, qc, dvP, mdP])
     | ((first | refine qn (fun _ => c7 _) ?_ ?_ | refine qn (fun _ => c22 _) ?_ ?_ | refine qn (fun _ => c12 _) ?_ ?_ | refine qn (fun _ => c51 _) ?_ ?_ | refine qn (fun _ => c13 _) ?_ ?_ | refine qn (fun _ => c14 _) ?_ ?_); (next => exact flk); simp (disch := omega) only [qw, qt, qy, qD, hlen, k1, k2, k5, k7', go_sem, qc, dvP, mdP])
     | ((first | refine qk (fun e => ⟨?_, c7 _⟩) ?_ | refine qk (fun e => ⟨?_, c22 _⟩) ?_ | refine qk (fun e => ⟨?_, c12 _⟩) ?_ | refine qk (fun e => ⟨?_, c51 _⟩) ?_ | refine qk (fun e => ⟨?_, c13 _⟩) ?_ | refine qk (fun e => ⟨?_, c14 _⟩) ?_); (next => exact flk); simp (disch := omega) only [qw, qt, qy, qD, hlen, k1, k2, k5, k7', go_sem, qc, dvP, mdP])
     | ((first | refine qe ?_ ?_ | refine qg ?_ ?_); (next => exact rvk); simp only [go_sem]; (first | exact VLe.refl _ | refine qh ?_ | refine qd ?_ | refine ql ?_ | skip))
     | with_reducible first | refine And.intro ?_ ?_ | intro _
    all_goals try exact clz
  ·simp only [Bool.and_eq_true, decide_eq_true_eq] at hb
   exact ⟨by omega, by rw [← he]; exact g5, hl, hsm.1, hsm.2, hw, by rw [← hpo] at hp; rw [← hpo]; exact hp, by rw [← hbs]; exact Prod.ext hls.symm (by rw [← hg]; exact hb.1), hb.2⟩
 ·have k5 : (e = 0) = False := eq_false g5
  rw [hst] at c12
  unfold qt at c7 c12
  unfold qw at c22 c12
  refine neg fun h => ?_
  rw [hst]
  refine qo qdO (by simp) ?_
  simp only [lcP, lnP, Nat.reduceAdd, Nat.reduceSub, List.replicate, caP, naP, List.append_nil]
  simp (disch := omega) only [qlw, qw, qt, k1, k2, k5, go_sem, qc, dvP, mdP]
  repeat' first
   | (refine qP ((.bool false)) ?_; simp (disch := omega) only [qw, qt, k1, k2, k5, go_sem, qc, dvP, mdP])
   | ((first | refine qj (c7 _) ?_ ?_ | refine qj (c22 _) ?_ ?_ | refine qj (c12 _) ?_ ?_); (next => exact flk); simp (disch := omega) only [qw, qt, k1, k2, k5, go_sem, qc, dvP, mdP])
   | ((first | refine qn (fun _ => c7 _) ?_ ?_ | refine qn (fun _ => c22 _) ?_ ?_ | refine qn (fun _ => c12 _) ?_ ?_); (next => exact flk); simp (disch := omega) only [qw, qt, k1, k2, k5, go_sem, qc, dvP, mdP])
   | ((first | refine qk (fun e => ⟨?_, c7 _⟩) ?_ | refine qk (fun e => ⟨?_, c22 _⟩) ?_ | refine qk (fun e => ⟨?_, c12 _⟩) ?_); (next => exact flk); simp (disch := omega) only [qw, qt, k1, k2, k5, go_sem, qc, dvP, mdP])
   | ((first | refine qe ?_ ?_ | refine qg ?_ ?_); (next => exact rvk); simp only [go_sem]; (first | exact VLe.refl _ | refine qh ?_ | refine qd ?_ | refine ql ?_ | skip))
   | with_reducible first | refine And.intro ?_ ?_ | intro _
  all_goals try exact clz
end LN
end
section
open Go Go.Proofs AF HY P48
namespace LN
set_option maxRecDepth 100000
theorem qd5 {s : Sty} (hh : s.hy ≠ -10000) (l : List (List UInt8)) : ∀ k, qpa (qR s l (k + 1)) := by
 intro k
 induction k with
 | zero =>
  have e : qR s l 1 = [⟨1, s.le * ((qV (l.getD 0 [])).length : Int), 0, 0, 0, l.getD 0 []⟩] := by rw [zh, zr]; rfl
  rw [e]
  exact .one rfl
 | succ k ih =>
  rw [zh]
  have e : jI s (k + 1) (l.getD (k + 1) []) = [⟨3, s.le, 0, 0, s.hy, [61]⟩, ⟨1, s.le * ((qV (l.getD (k + 1) [])).length : Int), 0, 0, 0, l.getD (k + 1) []⟩] := by
   unfold jI
   rw [if_neg (by omega)]
   rfl
  rw [e]
  exact .more ih rfl hh rfl
theorem qr6 (s : Sty) (i : Nat) (w : Wd) : qtO (qcf s i w) ∧ (i = 0 → qcf s i w = []) := by
 unfold qcf
 by_cases h0 : i = 0
 ·rw [if_pos h0]; exact ⟨.inl rfl, fun _ => rfl⟩
 ·rw [if_neg h0]
  refine ⟨?_, fun h => absurd h h0⟩
  split
  ·exact .inr ⟨_, rfl, .inr ⟨rfl, rfl⟩⟩
  ·split
   ·exact .inl rfl
   ·exact .inr ⟨_, rfl, .inl rfl⟩
theorem qbK (ps : List Pat) (w : List UInt8) : 0 < (zm ps w).length := by
 unfold zm
 split
 ·rw [jv]
  unfold zb
  simp
 ·simp
theorem qdK {s : Sty} (hh : s.hy ≠ -10000) (ps : List Pat) (ws : List Wd) : ∀ n, Wds (zi s ps ws n) n := by
 intro n
 induction n with
 | zero => exact .nil
 | succ n ih =>
  rw [zL]
  unfold qcn
  rw [← List.append_assoc]
  obtain ⟨h1, h2⟩ := qr6 s n (ws.getD n default)
  have hp := qbK ps (ws.getD n default).text
  refine .snoc ih h1 h2 ?_
  obtain ⟨k, hk⟩ : ∃ k, (zm ps (ws.getD n default).text).length = k + 1 := ⟨(zm ps (ws.getD n default).text).length - 1, by omega⟩
  rw [hk]
  exact qd5 hh _ k
end LN
end
section
open Go Go.Proofs AF HY P48
namespace LN
set_option maxRecDepth 100000
theorem qcU {l : List It} {k : Nat} (hk : k < l.length) (hb : (it l k).kind = 1) : qdh l k = false := by
 unfold qdh
 rw [hb]
 have : ¬ (k = l.length) := by omega
 simp [this]
theorem qhP {l : List It} : ∀ (bs : List Int) (p : Int), asc l p bs = true → bs.Pairwise (· < ·) ∧ ∀ b ∈ bs, p < b ∧ 0 ≤ b ∧ b ≤ l.length ∧ qdh l b.toNat = true := by
 intro bs
 induction bs with
 | nil => intro p _; exact ⟨.nil, by simp⟩
 | cons k r ih =>
  intro p h
  simp only [asc, Bool.and_eq_true, decide_eq_true_eq] at h
  obtain ⟨⟨h1, h2, h3, h4⟩, h5⟩ := h
  obtain ⟨i1, i2⟩ := ih k h5
  refine ⟨List.pairwise_cons.2 ⟨fun b hb => (i2 b hb).1, i1⟩, fun b hb => ?_⟩
  rcases List.mem_cons.1 hb with rfl | hb
  ·exact ⟨h3, h1, h2, h4⟩
  ·have := i2 b hb
   exact ⟨by omega, this.2.1, this.2.2.1, this.2.2.2⟩
theorem qae {l : List It} {W : Int} : ∀ (bs : List Nat) (frm : Nat) (ls : List P48.Line), zk l W frm bs = some ls → ls.length = bs.length := by
 intro bs
 induction bs with
 | nil => intro frm ls h; cases h; rfl
 | cons b r ih =>
  intro frm ls h
  rw [zk] at h
  split at h
  ·obtain ⟨ls', h', rfl⟩ := Option.map_eq_some_iff.1 h
   rw [List.length_cons, List.length_cons, ih _ _ h']
  ·cases h
theorem qbP {s : Sty} {W : Int} {ps : List Pat} {ws : List Wd} {l : List It} {ls : List P48.Line} (h : qff s W ps ws l ls) :
  zk l W 0 (P48.brk l W) = some ls ∧ (P48.brk l W).Pairwise (· < ·) ∧ (∀ b ∈ P48.brk l W, b ≤ l.length ∧ qdh l b = true) ∧ l.length ∈ P48.brk l W ∧ (∀ i, i < l.length → zF l i = true → i ∈ P48.brk l W) ∧ jk l = 0 := by
 have hl := h.lines
 unfold jn at hl
 rw [if_pos h.wOk] at hl
 have hn : ki ((P48.brk l W).map Int.ofNat) = P48.brk l W := by
  unfold ki
  rw [List.map_map]
  conv => rhs; rw [← List.map_id (P48.brk l W)]
  rfl
 split at hl
 ·rename_i hb
  rw [hn] at hl
  cases hg : zk l W 0 (P48.brk l W) with
  | none => rw [hg] at hl; cases hl
  | some ls' =>
   rw [hg] at hl
   cases hl
   unfold ju at hb
   simp only [Bool.and_eq_true] at hb
   obtain ⟨b1, b2, b3⟩ := hb
   obtain ⟨a1, a2⟩ := qhP _ _ b2
   refine ⟨rfl, ?_, fun b hbm => ?_, ?_, fun i hi hf => ?_, ?_⟩
   ·rw [List.pairwise_map] at a1
    exact a1.imp (fun hx => by simpa using hx)
   ·have := a2 (Int.ofNat b) (List.mem_map.2 ⟨b, hbm, rfl⟩)
    exact ⟨by have := this.2.2.1; simp at this; omega, this.2.2.2⟩
   ·unfold jD at b1
    have b1 := of_decide_eq_true b1
    have hm := List.mem_of_getLast? b1
    obtain ⟨b, hbm, hbe⟩ := List.mem_map.1 hm
    have : b = l.length := by have hx : (b : Int) = (l.length : Int) := hbe; omega
    rw [← this]
    exact hbm
   ·unfold jy at b3
    have := List.all_eq_true.1 b3 i (List.mem_range.2 hi)
    rw [hf] at this
    simp only [Bool.not_true, Bool.false_or] at this
    rw [List.contains_iff_mem] at this
    obtain ⟨b, hbm, hbe⟩ := List.mem_map.1 this
    have : b = i := by have hx : (b : Int) = (i : Int) := hbe; omega
    rw [← this]
    exact hbm
   ·have := h.wOk
    unfold jb at this
    split at this
    ·rename_i hc; exact hc
    ·cases this
 ·cases hl
theorem qim {s : Sty} {W : Int} {ps : List Pat} {ws : List Wd} {l : List It} {ls : List P48.Line} (h : qff s W ps ws l ls) :
  ∃ P : List (Nat × Nat), P.length = ws.length ∧ (∀ p ∈ P, p.1 ≤ p.2 ∧ p.2 < l.length ∧ (it l p.1).kind = 1 ∧ (it l p.2).kind = 1) ∧ P.Pairwise (fun p q => p.2 < q.1) ∧ zg l = P.map (fun p => ((p.1 : Int), (p.2 : Int))) ∧
   (∀ k, k < l.length → zd k (P48.brk l W) < ls.length) ∧
   kP (fun a _ => a) l (ls.map kU) = (0, P.map fun p => ((zd p.1 (P48.brk l W) + 1 : Nat) : Int)) ∧ kP (fun _ b => b) l (ls.map kU) = (0, P.map fun p => ((zd p.2 (P48.brk l W) + 1 : Nat) : Int)) := by
 obtain ⟨g1, g2, g3, g4, g5, g6⟩ := qbP h
 obtain ⟨bn, hbn⟩ : ∃ bn, bn = P48.brk l W := ⟨_, rfl⟩
 rw [← hbn] at g1 g2 g3 g4 g5 ⊢
 have hlen := qae _ _ _ g1
 have hix : ∀ k, k < l.length → zd k bn < ls.length := fun k hk => by rw [hlen]; exact qmM ⟨l.length, g4, hk⟩
 have hscan : ∀ k, k < l.length → (it l k).kind = 1 → qjM k (ls.map kU) 0 0 = some ((zd k bn + 1 : Nat) : Int) := fun k hk hb => by
  have := qgh hb bn 0 0 ls g1 (Nat.zero_le _) g2 (fun b hbm => ⟨Nat.zero_le _, fun e => by
   have := (g3 b hbm).2
   rw [e, qcU hk hb] at this
   cases this⟩) ⟨l.length, g4, hk⟩
  simpa using this
 obtain ⟨R, hR, _, hRv⟩ := qnD (ls.map kU) (fun k => zd k bn) (fun i j hij => qbd hij bn) hscan l.length 0 0 (List.replicate l.length 0) (by omega) (by simp) (fun j _ => by omega) (fun j hj => by omega)
 have hpl : qb8 l (ls.map kU) = some R := hR
 obtain ⟨o1, o2⟩ := qkq l
 have hP : zg l = ((zg l).map fun p => (p.1.toNat, p.2.toNat)).map fun p => ((p.1 : Int), (p.2 : Int)) := by
  rw [List.map_map]
  conv => lhs; rw [← List.map_id (zg l)]
  apply List.map_congr_left
  intro p hp
  obtain ⟨a, b, e, _⟩ := o1 p hp
  rw [e]
  rfl
 have hnum : ∀ pk, kP pk l (ls.map kU) = (0, qe4 pk l R) := fun pk => by
  unfold kP
  rw [if_neg (fun hc => hc g6), if_neg (by rw [List.length_map]; have := h.n12; omega), hpl]
 refine ⟨(zg l).map fun p => (p.1.toNat, p.2.toNat), ?_, fun p hp => ?_, ?_, hP, hix, ?_, ?_⟩
 ·rw [List.length_map]
  have hr := h.itR
  have he := h.itE
  unfold qao at hr
  rw [if_pos he] at hr
  have hh : s.hy ≠ -10000 := by
   unfold jd at he
   split at he
   ·cases he
   ·rename_i hro
    have hro : kk s = true := by simpa using hro
    unfold kk at hro
    simp only [Bool.and_eq_true, decide_eq_true_eq] at hro
    omega
  rw [hr]
  exact qt9 (qdK hh ps ws ws.length)
 ·obtain ⟨q, hq, rfl⟩ := List.mem_map.1 hp
  obtain ⟨a, b, e, e1, e2, e3, e4⟩ := o1 q hq
  rw [e]
  exact ⟨e1, e2, e3, e4⟩
 ·rw [List.pairwise_map]
  refine List.Pairwise.imp_of_mem ?_ o2
  intro p q hp hq hpq
  obtain ⟨a, b, e, _⟩ := o1 p hp
  obtain ⟨a', b', e', _⟩ := o1 q hq
  rw [e, e'] at hpq ⊢
  simp only at hpq ⊢
  omega
 ·rw [hnum]
  unfold qe4
  rw [List.map_map]
  congr 1
  apply List.map_congr_left
  intro p hp
  obtain ⟨a, b, e, e1, e2, e3, e4⟩ := o1 p hp
  rw [e]
  simp only [Function.comp, Int.toNat_natCast]
  exact hRv a (by omega) e3
 ·rw [hnum]
  unfold qe4
  rw [List.map_map]
  congr 1
  apply List.map_congr_left
  intro p hp
  obtain ⟨a, b, e, e1, e2, e3, e4⟩ := o1 p hp
  rw [e]
  simp only [Function.comp, Int.toNat_natCast]
  exact hRv b (by omega) e4
end LN
end
section
open Go Go.Proofs AF HY P48
namespace LN
set_option maxRecDepth 100000
theorem qxE {P : Program} {f : FuncId} {args : List AV} {h : List AObj} {L : List Int} {e : AV} (hc : qs P f args h (.tup [jM L, e]) h) : qs P f args h (.tup [qy L, e]) h :=
 hc.le (j4.refl _) (zo ⟨qqg L, VLe.refl _, trivial⟩)
theorem qby {α : Type} (f : α → Int) (d : α) {P : List α} {i : Nat} (h : i < P.length) : (P.map f).getD i 0 = f (P.getD i d) := by
 rw [List.getD_eq_getElem?_getD, List.getElem?_map, List.getD_eq_getElem?_getD, List.getElem?_eq_getElem h]
 rfl
set_option maxHeartbeats 8000000 in
theorem a4 (s : Sty) (W : Int) (x : List AV) (ps : List Pat) (ws : List Wd) (h : List AObj) (hps : ps.length ≤ 9223372036854775807) (hws : ws.length ≤ 9223372036854775807) (hx : x.getD 0 .undef = .int .i64 W) :
  qs Tryz.prog 4 [.agg (za s x), qw ps, qt ws] h (.bool true) h := by
 obtain ⟨A, B, b, ⟨f1, f2, f3, f4⟩, c17, hb⟩ := s17 s W x ps ws h hps hws hx
 have hst : za s x = [.int .i64 W, x.getD 1 .undef, x.getD 2 .undef, x.getD 3 .undef, x.getD 4 .undef, .int .i64 s.sp, .int .i64 s.st, .int .i64 s.sh, .int .i64 s.le, .int .i64 s.hy, x.getD 5 .undef, x.getD 6 .undef, x.getD 7 .undef] := by unfold za; rw [hx]
 have c18 := fun h => t10 h
 rw [hst] at c17 ⊢
 cases b with
 | false =>
  unfold qt at c17 ⊢
  unfold qw at c17 ⊢
  refine qo qzN (by simp) ?_
  simp only [lcP, lnP, Nat.reduceAdd, Nat.reduceSub, List.replicate, caP, naP, List.append_nil]
  simp (disch := omega) only [c4z, f1, f2, f3, f4, go_sem, qc, dvP, mdP]
  repeat' first
   | ((first | refine qj (c17 _) ?_ ?_ | refine qj (c18 _) ?_ ?_); (next => exact flk); simp (disch := omega) only [f1, f2, f3, f4, go_sem, qc, dvP, mdP])
   | ((first | refine qn (fun _ => c17 _) ?_ ?_ | refine qn (fun _ => c18 _) ?_ ?_); (next => exact flk); simp (disch := omega) only [f1, f2, f3, f4, go_sem, qc, dvP, mdP])
   | ((first | refine qk (fun e => ⟨?_, c17 _⟩) ?_ | refine qk (fun e => ⟨?_, c18 _⟩) ?_); (next => exact flk); simp (disch := omega) only [f1, f2, f3, f4, go_sem, qc, dvP, mdP])
   | ((first | refine qe ?_ ?_ | refine qg ?_ ?_); (next => exact rvk); simp only [go_sem]; (first | exact VLe.refl _ | refine qh ?_ | refine qd ?_ | refine ql ?_ | skip))
   | with_reducible first | refine And.intro ?_ ?_ | intro _
  all_goals try exact clz
 | true =>
 obtain ⟨l, ls, rfl, rfl, hs⟩ := hb rfl
 obtain ⟨P, p1, p2, p3, _, p5, p6, p7⟩ := qim hs
 have hn12 := hs.n12
 have hsm := hs.small
 have c19 := fun h => qxE (t12 l (ls.map kU) h (by omega) (by rw [List.length_map]; omega))
 have c20 := fun h => qxE (t14 l (ls.map kU) h (by omega) (by rw [List.length_map]; omega))
 rw [p6] at c19
 rw [p7] at c20
 simp only at c19 c20
 obtain ⟨g, hg⟩ : ∃ g : Nat → Nat, g = fun k => zd k (P48.brk l W) := ⟨_, rfl⟩
 have hmono : ∀ i j, i ≤ j → g i ≤ g j := fun i j hij => by rw [hg]; exact qbd hij _
 have hgl : ∀ k, k < l.length → g k < ls.length := fun k hk => by rw [hg]; exact p5 k hk
 obtain ⟨av, hav⟩ : ∃ av : List Int, av = P.map fun p => ((g p.1 + 1 : Nat) : Int) := ⟨_, rfl⟩
 obtain ⟨bv, hbv⟩ : ∃ bv : List Int, bv = P.map fun p => ((g p.2 + 1 : Nat) : Int) := ⟨_, rfl⟩
 have ea : (P.map fun p => ((zd p.1 (P48.brk l W) + 1 : Nat) : Int)) = av := by rw [hav, hg]
 have eb : (P.map fun p => ((zd p.2 (P48.brk l W) + 1 : Nat) : Int)) = bv := by rw [hbv, hg]
 rw [ea] at c19
 rw [eb] at c20
 have la : av.length = ws.length := by rw [hav, List.length_map, p1]
 have lb : bv.length = ws.length := by rw [hbv, List.length_map, p1]
 have hlen : (ls.map kU).length = ls.length := by simp
 have key : ∀ i, i < ws.length → 1 ≤ av.getD i 0 ∧ av.getD i 0 ≤ bv.getD i 0 ∧ bv.getD i 0 ≤ ls.length ∧ (∀ j, i = j + 1 → bv.getD j 0 ≤ av.getD i 0) := by
  intro i hi
  have hiP : i < P.length := by omega
  obtain ⟨q, hq⟩ : ∃ q, q = P.getD i default := ⟨_, rfl⟩
  have e1 : av.getD i 0 = ((g q.1 + 1 : Nat) : Int) := by rw [hav, qby _ default hiP, ← hq]
  have e2 : bv.getD i 0 = ((g q.2 + 1 : Nat) : Int) := by rw [hbv, qby _ default hiP, ← hq]
  have hqe : q = P[i] := by rw [hq, List.getD_eq_getElem?_getD, List.getElem?_eq_getElem hiP]; rfl
  have hqm : q ∈ P := by rw [hqe]; exact List.getElem_mem hiP
  obtain ⟨q1, q2, _, _⟩ := p2 q hqm
  have m1 := hmono q.1 q.2 q1
  have m2 := hgl q.2 q2
  rw [e1, e2]
  refine ⟨by omega, by omega, by omega, fun j hj => ?_⟩
  have hjP : j < P.length := by omega
  have e3 : bv.getD j 0 = ((g (P[j]).2 + 1 : Nat) : Int) := by
   rw [hbv, qby _ default hjP, List.getD_eq_getElem?_getD, List.getElem?_eq_getElem hjP]; rfl
  rw [e3]
  have h3 := List.pairwise_iff_getElem.1 p3 j i hjP hiP (by omega)
  rw [← hqe] at h3
  have := hmono (P[j]).2 q.1 (by omega)
  omega
 unfold qt at c17 ⊢
 unfold qw at c17 ⊢
 unfold qD at c17 c19 c20
 unfold qy at c19 c20
 rw [hlen] at c17 c19 c20
 rw [la] at c19
 rw [lb] at c20
 have q8 : (ws.length : Int) ≤ 8 := by have := hs.n8; omega
 refine qo qzN (by simp) ?_
 simp only [lcP, lnP, Nat.reduceAdd, Nat.reduceSub, List.replicate, caP, naP, List.append_nil]
 simp (disch := omega) only [c4z, go_sem, qc, dvP, mdP]
 repeat' first
  | ((first | refine qj (c17 _) ?_ ?_ | refine qj (c19 _) ?_ ?_ | refine qj (c20 _) ?_ ?_); (next => exact flk); simp (disch := omega) only [go_sem, qc, dvP, mdP])
  | ((first | refine qn (fun _ => c17 _) ?_ ?_ | refine qn (fun _ => c19 _) ?_ ?_ | refine qn (fun _ => c20 _) ?_ ?_); (next => exact flk); simp (disch := omega) only [go_sem, qc, dvP, mdP])
  | ((first | refine qk (fun e => ⟨?_, c17 _⟩) ?_ | refine qk (fun e => ⟨?_, c19 _⟩) ?_ | refine qk (fun e => ⟨?_, c20 _⟩) ?_); (next => exact flk); simp (disch := omega) only [go_sem, qc, dvP, mdP])
  | ((first | refine qe ?_ ?_ | refine qg ?_ ?_); (next => exact rvk); simp only [go_sem]; (first | exact VLe.refl _ | refine qh ?_ | refine qd ?_ | refine ql ?_ | skip))
  | with_reducible first | refine And.intro ?_ ?_ | intro _
 all_goals try exact clz
 refine qJ (T := fun i : Nat => qv 106 [(8, .sl ls.length fun i => qN ((ls.map kU).getD i default)), (10, .sl ws.length fun i => [.int .i64 (av.getD i 0)]), (12, .sl ws.length fun i => [.int .i64 (bv.getD i 0)]), (59, .int .i64 ws.length), (60, .int .i64 i)])
  (H := fun _ => h ++ [.mem 1 25 [.int .i64 W, x.getD 1 .undef, x.getD 2 .undef, x.getD 3 .undef, x.getD 4 .undef, .int .i64 s.sp, .int .i64 s.st, .int .i64 s.sh, .int .i64 s.le, .int .i64 s.hy, x.getD 5 .undef, x.getD 6 .undef, x.getD 7 .undef]]) (inv := fun i => i ≤ ws.length) (m := fun i => ws.length - i) 0 (Nat.zero_le _) (Wk.temps ?_) ?_
 ·(simp only [qv, List.foldl, List.replicate, go_sem, qr, qp, qm, qq]; try (repeat' first | (with_reducible refine And.intro ?_ ?_) | (refine qh ?_; omega) | (refine qd ?_; rfl) | exact VLe.refl _))
 rintro i i1 K hK
 by_cases hi : i < ws.length
 ·obtain ⟨r1, r2, r3, r4⟩ := key i hi
  obtain ⟨X, hX⟩ : ∃ X, X = av.getD i 0 := ⟨_, rfl⟩
  obtain ⟨Y, hY⟩ : ∃ Y, Y = bv.getD i 0 := ⟨_, rfl⟩
  have eX := hX.symm
  have eY := hY.symm
  rw [eX, eY] at r2
  rw [eX] at r1 r4
  rw [eY] at r3
  have y0 : ((i : Int) < ws.length) = True := eq_true (by omega)
  have y1 : (X < 1) = False := eq_false (by omega)
  have y2 : (Y < X) = False := eq_false (by omega)
  have y3 : ((ls.length : Int) < Y) = False := eq_false (by omega)
  cases i with
  | zero =>
   have z0 : ((0 : Nat) : Int) = 0 := rfl
   have z1 : ((0 : Int) < 0) = False := eq_false (by omega)
   rw [z0] at y0 ⊢
   simp (disch := omega) only [qv, List.foldl, List.replicate, eX, eY, y0, y1, y2, y3, z1, go_sem, qc, dvP, mdP]
   repeat' first
    | ((first | refine qe ?_ ?_ | refine qg ?_ ?_); (next => exact rvk); simp only [go_sem]; (first | exact VLe.refl _ | refine qh ?_ | refine qd ?_ | refine ql ?_ | skip))
    | with_reducible first | refine And.intro ?_ ?_ | intro _
   all_goals try exact clz
   refine hK _ _ (0 + 1) (by omega) (by omega) (Wk.temps ?_)
   (simp only [qv, List.foldl, List.replicate, go_sem, qr, qp, qm, qq]; try (repeat' first | (with_reducible refine And.intro ?_ ?_) | (refine qh ?_; omega) | (refine qd ?_; rfl) | exact VLe.refl _))
  | succ j =>
   have r5 := r4 j rfl
   obtain ⟨Z, hZ⟩ : ∃ Z, Z = bv.getD j 0 := ⟨_, rfl⟩
   have eZ := hZ.symm
   rw [eZ] at r5
   have ej : ((j + 1 : Nat) : Int) = (j : Int) + 1 := by omega
   rw [ej] at y0 ⊢
   have z1 : (0 < (j : Int) + 1) = True := eq_true (by omega)
   have z2 : (X < Z) = False := eq_false (by omega)
   have z3 : ((j : Int) < ws.length) = True := eq_true (by omega)
   have rt : ((j : Int) + 1).toNat = j + 1 := by omega
   simp (disch := omega) only [qv, List.foldl, List.replicate, eX, eY, eZ, y0, y1, y2, y3, z1, z2, z3, rt, Int.add_sub_cancel, Int.toNat_natCast, go_sem, qc, dvP, mdP]
   repeat' first
    | ((first | refine qe ?_ ?_ | refine qg ?_ ?_); (next => exact rvk); simp only [go_sem]; (first | exact VLe.refl _ | refine qh ?_ | refine qd ?_ | refine ql ?_ | skip))
    | with_reducible first | refine And.intro ?_ ?_ | intro _
   all_goals try exact clz
   refine hK _ _ (j + 1 + 1) (by omega) (by omega) (Wk.temps ?_)
   (simp only [qv, List.foldl, List.replicate, go_sem, qr, qp, qm, qq]; try (repeat' first | (with_reducible refine And.intro ?_ ?_) | (refine qh ?_; omega) | (refine qd ?_; rfl) | exact VLe.refl _))
 ·have e : i = ws.length := by omega
  subst e
  have y0 : ((ws.length : Int) < ws.length) = False := eq_false (by omega)
  simp (disch := omega) only [qv, List.foldl, List.replicate, y0, go_sem, qc, dvP, mdP]
  repeat' first
   | ((first | refine qj (c18 _) ?_ ?_); (next => exact flk); simp (disch := omega) only [y0, go_sem, qc, dvP, mdP])
   | ((first | refine qn (fun _ => c18 _) ?_ ?_); (next => exact flk); simp (disch := omega) only [y0, go_sem, qc, dvP, mdP])
   | ((first | refine qk (fun e => ⟨?_, c18 _⟩) ?_); (next => exact flk); simp (disch := omega) only [y0, go_sem, qc, dvP, mdP])
   | ((first | refine qe ?_ ?_ | refine qg ?_ ?_); (next => exact rvk); simp only [go_sem]; (first | exact VLe.refl _ | refine qh ?_ | refine qd ?_ | refine ql ?_ | skip))
   | with_reducible first | refine And.intro ?_ ?_ | intro _
  all_goals try exact clz
end LN
end
section
open Go Go.Proofs AF HY P48
namespace LN
set_option maxRecDepth 100000
def stS (l : List It) (i : Nat) : List Nat := (List.range i).filter (qU l)
theorem qc4 (l : List It) (i : Nat) : stS l (i + 1) = stS l i ++ if qU l i = true then [i] else [] := by
 unfold stS
 rw [List.range_succ, List.filter_append]
 congr 1
 simp only [List.filter_cons, List.filter_nil]
theorem qo2 (l : List It) : ∀ i, (qB l i).1.map Prod.fst ++ (if 0 ≤ (qB l i).2.1 then [(qB l i).2.1] else []) = (stS l i).map Int.ofNat := by
 intro i
 induction i with
 | zero => simp [qB, stS]
 | succ i ih =>
  rw [qc4, List.map_append, ← ih, qB]
  by_cases hk : (it l i).kind = 1
  ·rw [if_neg (fun hc => hc hk)]
   by_cases hc : qa1 l i = true
   ·rw [if_pos hc]
    have e : qU l i = false := by unfold qU; rw [hc, decide_eq_true hk]; rfl
    rw [if_neg (c := qU l i = true) (by rw [e]; simp)]
    simp
   ·rw [if_neg hc]
    have e : qU l i = true := by unfold qU; rw [decide_eq_true hk]; simpa using hc
    rw [if_pos (c := qU l i = true) e]
    simp only
    rw [if_pos (show (0 : Int) ≤ (i : Int) by omega)]
    split
    ·rw [List.map_append]; rfl
    ·rw [List.append_nil]; rfl
  ·rw [if_pos hk]
   have e : qU l i = false := by unfold qU; rw [decide_eq_false hk]; rfl
   rw [if_neg (c := qU l i = true) (by rw [e]; simp)]
   simp
theorem qkr (l : List It) : (zg l).map Prod.fst = (stS l l.length).map Int.ofNat := by
 rw [← qo2]
 unfold zg
 split
 ·rw [List.map_append]; rfl
 ·rw [List.append_nil]
theorem qrd {l m : List It} : ∀ i, i ≤ l.length → stS (l ++ m) i = stS l i := by
 intro i
 induction i with
 | zero => intro _; rfl
 | succ i ih =>
  intro h
  rw [qc4, qc4, ih (by omega)]
  have : qU (l ++ m) i = qU l i := by unfold qU; rw [zD (by omega), qfv (by omega)]
  rw [this]
theorem qeY {l : List It} {x : It} : stS (l ++ [x]) (l ++ [x]).length = stS l l.length ++ if qU (l ++ [x]) l.length = true then [l.length] else [] := by
 rw [List.length_append, List.length_singleton, qc4, qrd _ (Nat.le_refl _)]
theorem qsn {l : List It} (hl : ∀ x, x.kind = 1 → qU (l ++ [x]) l.length = true) {b : List It} (hb : qpa b) : stS (l ++ b) (l ++ b).length = stS l l.length ++ [l.length] ∧ qdr (l ++ b) := by
 induction hb with
 | one h =>
  rw [qeY, if_pos (hl _ h)]
  refine ⟨rfl, by simp, ?_⟩
  rw [List.length_append, List.length_singleton, Nat.add_sub_cancel, zR]
  exact h
 | @more b p x hb hp hq hx ih =>
  obtain ⟨i1, i2, i3⟩ := ih
  have e : l ++ (b ++ [p, x]) = (l ++ b ++ [p]) ++ [x] := by simp
  rw [e, qeY, qeY]
  have e1 : qU (l ++ b ++ [p]) (l ++ b).length = false := by unfold qU; rw [zR, hp]; rfl
  have e2 : qU (l ++ b ++ [p] ++ [x]) (l ++ b ++ [p]).length = false := by
   have hc : qa1 (l ++ b ++ [p] ++ [x]) (l ++ b ++ [p]).length = true := by
    unfold qa1
    have n1 : (l ++ b ++ [p]).length - 1 = (l ++ b).length := by simp
    have n2 : (l ++ b ++ [p]).length - 2 = (l ++ b).length - 1 := by simp; omega
    rw [n1, n2, zD (l := l ++ b ++ [p]) (by simp), zR, zD (l := l ++ b ++ [p]) (by simp; omega), zD (l := l ++ b) (by omega), decide_eq_true hp, decide_eq_true hq, decide_eq_true i3]
    simp at i2 ⊢
    try omega
   unfold qU
   rw [hc]
   simp
  rw [e1, e2, i1]
  refine ⟨by simp, by simp; omega, ?_⟩
  rw [List.length_append, List.length_singleton, Nat.add_sub_cancel, zR]
  exact hx
theorem qxm {l s b : List It} {n : Nat} (h : Wds l n) (hs : qtO s) (h0 : n = 0 → s = []) (hb : qpa b) : stS (l ++ s ++ b) (l ++ s ++ b).length = stS l l.length ++ [(l ++ s).length] := by
 obtain ⟨i1, i2, i3⟩ := qoT h
 have hsn : stS (l ++ s) (l ++ s).length = stS l l.length := by
  rcases hs with rfl | ⟨a, rfl, ha⟩
  ·rw [List.append_nil]
  ·rw [qeY]
   have : qU (l ++ [a]) l.length = false := by
    unfold qU
    rw [zR]
    rcases ha with ha | ⟨ha, _⟩ <;> rw [ha] <;> rfl
   rw [this]; simp
 have hst : ∀ x : It, x.kind = 1 → qU (l ++ s ++ [x]) (l ++ s).length = true := by
  intro x hx
  unfold qU
  rw [zR, decide_eq_true hx]
  have hc : qa1 (l ++ s ++ [x]) (l ++ s).length = false := by
   unfold qa1
   by_cases g : 2 ≤ (l ++ s).length
   ·rw [zD (l := l ++ s) (m := [x]) (i := (l ++ s).length - 1) (by omega)]
    have hk : decide ((it (l ++ s) ((l ++ s).length - 1)).kind = 3) = false ∨ decide ((it (l ++ s) ((l ++ s).length - 1)).penalty ≠ -10000) = false := by
     rcases hs with rfl | ⟨a, rfl, ha⟩
     ·left
      rw [List.append_nil] at g ⊢
      have hn : 0 < n := by
       rcases Nat.eq_zero_or_pos n with e | e
       ·rw [i2 e] at g; simp at g
       ·exact e
      rw [(i3 hn).2]
      rfl
     ·rw [List.length_append, List.length_singleton, Nat.add_sub_cancel, zR]
      rcases ha with ha | ⟨_, ha⟩
      ·left; rw [ha]; rfl
      ·right; rw [ha]; rfl
    rcases hk with hk | hk <;> rw [hk] <;> simp
   ·rw [decide_eq_false g]; rfl
  rw [hc]; rfl
 obtain ⟨b1, _⟩ := qsn hst hb
 rw [b1, hsn]
def quw (s : Sty) (ps : List Pat) (ws : List Wd) (j : Nat) : Nat := (zi s ps ws j ++ qcf s j (ws.getD j default)).length
theorem qrf {s : Sty} (hh : s.hy ≠ -10000) (ps : List Pat) (ws : List Wd) : ∀ n, stS (zi s ps ws n) (zi s ps ws n).length = (List.range n).map (quw s ps ws) := by
 intro n
 induction n with
 | zero => rfl
 | succ n ih =>
  rw [List.range_succ, List.map_append, ← ih, zL]
  unfold qcn
  rw [← List.append_assoc]
  obtain ⟨h1, h2⟩ := qr6 s n (ws.getD n default)
  have hp := qbK ps (ws.getD n default).text
  obtain ⟨k, hk⟩ : ∃ k, (zm ps (ws.getD n default).text).length = k + 1 := ⟨(zm ps (ws.getD n default).text).length - 1, by omega⟩
  rw [hk]
  exact qxm (qdK hh ps ws n) h1 h2 (qd5 hh _ k)
theorem qhc (s : Sty) (l : List (List UInt8)) : ∀ k, ∃ r, qR s l (k + 1) = ⟨1, s.le * ((qV (l.getD 0 [])).length : Int), 0, 0, 0, l.getD 0 []⟩ :: r := by
 intro k
 induction k with
 | zero => exact ⟨[], by rw [zh, zr]; rfl⟩
 | succ k ih =>
  obtain ⟨r, hr⟩ := ih
  exact ⟨r ++ jI s (k + 1) (l.getD (k + 1) []), by rw [zh, hr]; rfl⟩
theorem qul (s : Sty) (ps : List Pat) (ws : List Wd) {j : Nat} : ∀ n, j < n → (it (zi s ps ws n) (quw s ps ws j)).text = (zm ps (ws.getD j default).text).getD 0 [] ∧ quw s ps ws j < (zi s ps ws n).length := by
 intro n
 induction n with
 | zero => intro h; omega
 | succ n ih =>
  intro h
  rw [zL]
  by_cases e : j = n
  ·subst e
   have hp := qbK ps (ws.getD j default).text
   obtain ⟨k, hk⟩ : ∃ k, (zm ps (ws.getD j default).text).length = k + 1 := ⟨(zm ps (ws.getD j default).text).length - 1, by omega⟩
   obtain ⟨r, hr⟩ := qhc s (zm ps (ws.getD j default).text) k
   unfold qcn quw
   rw [← List.append_assoc, hk, hr]
   refine ⟨?_, by simp⟩
   have := qbB (l := zi s ps ws j ++ qcf s j (ws.getD j default)) (m := ⟨1, s.le * ((qV ((zm ps (ws.getD j default).text).getD 0 [])).length : Int), 0, 0, 0, (zm ps (ws.getD j default).text).getD 0 []⟩ :: r) (i := 0)
   rw [Nat.add_zero] at this
   rw [this]
   rfl
  ·obtain ⟨h1, h2⟩ := ih (by omega)
   refine ⟨by rw [zD h2]; exact h1, by rw [List.length_append]; omega⟩
theorem qnn (ps : List Pat) (c : UInt8) (r : List UInt8) : ∃ t, (zm ps (c :: r)).getD 0 [] = c :: t := by
 unfold zm
 split
 ·have hc := kF ps (c :: r)
  obtain ⟨L, hL⟩ : ∃ L, L = zb ps (c :: r) := ⟨_, rfl⟩
  have hn : 0 < L.length := by rw [hL]; unfold zb; simp
  have h1 : 1 ≤ L.getD 0 0 := by
   rw [hL]
   unfold zb jN
   split
   ·unfold qcz
    cases hp : qcL (qV (c :: r)).length (jr ps (c :: r)) ((qV (c :: r)).length - 1) with
    | nil => simp; omega
    | cons i q =>
     simp only [List.map_cons, List.cons_append, List.getD_cons_zero]
     have h0 : 0 < (qV (c :: r)).length := qhT (by simp)
     have hc := qgS h0
     have h2 := qdw (own := qV (c :: r)) h0
     have h3 := qek (qV (c :: r)) (show 0 + 1 ≤ i + 1 by omega)
     omega
   ·simp; omega
  rw [← hL]
  obtain ⟨m, hm⟩ : ∃ m, L.length = m + 1 := ⟨L.length - 1, by omega⟩
  have e : (zt (c :: r) L L.length).getD 0 [] = kQ (c :: r) L 0 := by
   unfold zt
   rw [List.getD_eq_getElem?_getD, List.getElem?_map, List.getElem?_range hn]
   rfl
  rw [e]
  unfold kQ
  rw [qah]
  obtain ⟨k, hk⟩ : ∃ k, (L.getD 0 0).toNat - (0 : Int).toNat = k + 1 := ⟨(L.getD 0 0).toNat - 1, by
   have : (0 : Int).toNat = 0 := rfl
   omega⟩
  rw [hk]
  exact ⟨r.take k, rfl⟩
 ·exact ⟨r, rfl⟩
end LN
end
section
open Go Go.Proofs AF HY P48
namespace LN
set_option maxRecDepth 100000
def unf (l : List It) (k : Nat) : Bool := decide ((it l k).kind = 3) && decide ((it l k).penalty ≠ -10000)
theorem qio {l m : List It} {i : Nat} (h : i < l.length) : unf (l ++ m) i = unf l i := by unfold unf; rw [zD h]
def qpb (l : List It) : Prop := ∀ k, k < l.length → unf l k = true → 1 ≤ k ∧ k + 1 < l.length ∧ (it l (k - 1)).kind = 1 ∧ (it l (k + 1)).kind = 1
theorem qh0 {l : List It} {x : It} (h : qpb l) (hx : x.kind ≠ 3 ∨ x.penalty = -10000) : qpb (l ++ [x]) := by
 intro k hk hu
 rw [List.length_append, List.length_singleton] at hk
 by_cases e : k = l.length
 ·subst e
  unfold unf at hu
  rw [zR] at hu
  simp only [Bool.and_eq_true, decide_eq_true_eq] at hu
  rcases hx with hx | hx
  ·exact absurd hu.1 hx
  ·exact absurd hx hu.2
 ·rw [qio (by omega)] at hu
  obtain ⟨h1, h2, h3, h4⟩ := h k (by omega) hu
  rw [zD (by omega), zD h2, List.length_append]
  exact ⟨h1, by omega, h3, h4⟩
theorem qqe {l : List It} {p x : It} (h : qpb l) (hl : qdr l) (hx : x.kind = 1) : qpb (l ++ [p, x]) := by
 intro k hk hu
 obtain ⟨l1, l2⟩ := hl
 rw [List.length_append] at hk
 simp only [List.length_cons, List.length_nil] at hk
 by_cases e : k = l.length
 ·subst e
  refine ⟨l1, by simp, ?_, ?_⟩
  ·rw [zD (by omega)]; exact l2
  ·rw [qbB]; exact hx
 ·by_cases e2 : k = l.length + 1
  ·subst e2
   unfold unf at hu
   rw [qbB] at hu
   have : (it [p, x] 1) = x := rfl
   rw [this, hx] at hu
   simp at hu
  ·rw [qio (by omega)] at hu
   obtain ⟨h1, h2, h3, h4⟩ := h k (by omega) hu
   rw [zD (by omega), zD h2, List.length_append]
   exact ⟨h1, by omega, h3, h4⟩
theorem qmC {l : List It} (h : qpb l) {b : List It} (hb : qpa b) : qpb (l ++ b) ∧ qdr (l ++ b) := by
 induction hb with
 | one hx =>
  refine ⟨qh0 h (.inl (by omega)), by simp, ?_⟩
  rw [List.length_append, List.length_singleton, Nat.add_sub_cancel, zR]
  exact hx
 | @more b p x hb hp hq hx ih =>
  rw [← List.append_assoc]
  refine ⟨qqe ih.1 ih.2 hx, by simp; omega, ?_⟩
  have e : (l ++ b ++ [p, x]).length - 1 = (l ++ b).length + 1 := by simp; omega
  rw [e, qbB]
  exact hx
theorem qrE {l : List It} {n : Nat} (h : Wds l n) : qpb l := by
 induction h with
 | nil => intro k hk; simp at hk
 | @snoc l s b n h hs h0 hb ih =>
  refine (qmC ?_ hb).1
  rcases hs with rfl | ⟨a, rfl, ha⟩
  ·rw [List.append_nil]; exact ih
  ·exact qh0 ih (by rcases ha with ha | ⟨_, ha⟩; (· exact .inl (by omega)); exact .inr ha)
theorem qg6 {k : Nat} : ∀ {bs : List Nat}, (∀ b ∈ bs, k < b) → zd k bs = 0 := by
 intro bs h
 cases bs with
 | nil => rfl
 | cons b r => rw [zd, if_pos (h b (by simp))]
theorem qdt (k : Nat) : ∀ (bs : List Nat), bs.Pairwise (· < ·) → zd (k + 1) bs = zd k bs + if (k + 1) ∈ bs then 1 else 0 := by
 intro bs
 induction bs with
 | nil => intro _; rfl
 | cons b r ih =>
  intro hp
  obtain ⟨h1, h2⟩ := List.pairwise_cons.1 hp
  rw [zd, zd]
  by_cases g : k + 1 < b
  ·rw [if_pos g, if_pos (by omega), if_neg]
   intro hm
   rcases List.mem_cons.1 hm with e | hm
   ·omega
   ·have := h1 _ hm; omega
  ·rw [if_neg g]
   by_cases e : k + 1 = b
   ·rw [if_pos (by omega), if_pos (by rw [e]; simp), qg6 (fun b' hb' => by have := h1 b' hb'; omega)]
   ·rw [if_neg (by omega), ih h2]
    have : ((k + 1) ∈ b :: r) ↔ (k + 1) ∈ r := by rw [List.mem_cons]; exact ⟨fun h => h.resolve_left e, .inr⟩
    by_cases hm : (k + 1) ∈ r
    ·rw [if_pos hm, if_pos (this.2 hm)]
    ·rw [if_neg hm, if_neg (fun hc => hm (this.1 hc))] <;> omega
def qiS (q : Nat → Bool) (bs : List Nat) (i : Nat) : Nat := (bs.filter fun b => decide (b < i) && q b).length
theorem qlW (q : Nat → Bool) (i : Nat) : ∀ (bs : List Nat), bs.Pairwise (· < ·) → qiS q bs (i + 1) = qiS q bs i + if i ∈ bs ∧ q i = true then 1 else 0 := by
 intro bs
 induction bs with
 | nil => intro _; simp [qiS]
 | cons b r ih =>
  intro hp
  obtain ⟨h1, h2⟩ := List.pairwise_cons.1 hp
  have hi := ih h2
  unfold qiS at hi ⊢
  rw [List.filter_cons, List.filter_cons]
  by_cases e : b = i
  ·subst e
   have hn : b ∉ r := fun hm => by have := h1 _ hm; omega
   rw [if_neg (c := b ∈ r ∧ q b = true) (fun hc => hn hc.1)] at hi
   rw [decide_eq_true (show b < b + 1 by omega), decide_eq_false (show ¬ b < b by omega), Bool.true_and, Bool.false_and]
   by_cases hq : q b = true
   ·rw [if_pos hq, if_neg (by simp), if_pos ⟨by simp, hq⟩, List.length_cons]
    omega
   ·rw [if_neg hq, if_neg (by simp), if_neg (fun hc => hq hc.2)]
    omega
  ·have hm : (i ∈ b :: r ∧ q i = true) ↔ (i ∈ r ∧ q i = true) := by
    rw [List.mem_cons]
    exact ⟨fun ⟨h, k⟩ => ⟨h.resolve_left (fun h => e h.symm), k⟩, fun ⟨h, k⟩ => ⟨.inr h, k⟩⟩
   have hd : decide (b < i + 1) = decide (b < i) := by
    by_cases g : b < i
    ·rw [decide_eq_true g, decide_eq_true (by omega)]
    ·rw [decide_eq_false g, decide_eq_false (by omega)]
   rw [hd]
   have hs : (if i ∈ b :: r ∧ q i = true then 1 else 0) = (if i ∈ r ∧ q i = true then 1 else 0) := by
    by_cases g : i ∈ r ∧ q i = true
    ·rw [if_pos g, if_pos (hm.2 g)]
    ·rw [if_neg g, if_neg (fun hc => g (hm.1 hc))]
   rw [hs]
   split
   ·rw [List.length_cons, List.length_cons]; omega
   ·exact hi
def qr9 (f : Nat → Nat) (L : List (Int × Int)) : Int := (L.map fun p => (f p.2.toNat : Int) - f p.1.toNat).sum
theorem qgu (f : Nat → Nat) (L : List (Int × Int)) (p : Int × Int) : qr9 f (L ++ [p]) = qr9 f L + ((f p.2.toNat : Int) - f p.1.toNat) := by
 unfold qr9; simp
theorem qyG {l : List It} : ∀ i, (∃ k, k < i ∧ (it l k).kind = 1) → 0 ≤ (qB l i).2.1 := by
 intro i
 induction i with
 | zero => rintro ⟨k, hk, _⟩; omega
 | succ i ih =>
  rintro ⟨k, hk, hb⟩
  rw [qB]
  by_cases g : (it l i).kind = 1
  ·rw [if_neg (fun hc => hc g)]
   by_cases hc : qa1 l i = true
   ·rw [if_pos hc]
    have hc2 := hc
    unfold qa1 at hc2
    simp only [Bool.and_eq_true, decide_eq_true_eq] at hc2
    exact ih ⟨i - 2, by omega, hc2.2.2.2⟩
   ·rw [if_neg hc]
    simp only
    omega
  ·rw [if_pos g]
   exact ih ⟨k, by have : k ≠ i := fun e => g (e ▸ hb); omega, hb⟩
theorem qtV {l : List It} (hy : qpb l) {bs : List Nat} (hp : bs.Pairwise (· < ·)) (hb : ∀ b ∈ bs, qdh l b = true) :
  ∀ i, i ≤ l.length → (qr9 (fun k => zd k bs) (qB l i).1 + (if 0 ≤ (qB l i).2.1 then ((zd (qB l i).2.2.toNat bs : Int) - zd (qB l i).2.1.toNat bs) else 0)
   + (if 1 ≤ i ∧ unf l (i - 1) = true ∧ (i - 1) ∈ bs then 1 else 0) = (qiS (unf l) bs i : Int)) ∧
   (1 ≤ i → (it l (i - 1)).kind = 1 → 0 ≤ (qB l i).2.1 ∧ (qB l i).2.2 = ((i - 1 : Nat) : Int)) := by
 intro i
 induction i with
 | zero =>
  intro _
  refine ⟨?_, fun h => by omega⟩
  have e : qiS (unf l) bs 0 = 0 := by
   unfold qiS
   rw [List.length_eq_zero_iff, List.filter_eq_nil_iff]
   intro b _
   simp
  rw [e]
  simp [qB, qr9]
 | succ i ih =>
  intro hi
  obtain ⟨h1, h2⟩ := ih (by omega)
  have hcu := qlW (unf l) i bs hp
  rw [Nat.add_sub_cancel]
  rw [hcu]
  by_cases hk : (it l i).kind = 1
  ·have hu : unf l i = false := by unfold unf; rw [hk]; rfl
   have hnb : i ∉ bs := fun hm => by
    have := hb i hm
    rw [qcU (by omega) hk] at this
    cases this
   rw [if_neg (c := 1 ≤ i + 1 ∧ unf l i = true ∧ i ∈ bs) (fun hc => hnb hc.2.2), if_neg (c := i ∈ bs ∧ unf l i = true) (fun hc => hnb hc.1)]
   rw [qB, if_neg (fun hc => hc hk)]
   by_cases hc : qa1 l i = true
   ·rw [if_pos hc]
    have hc2 := hc
    unfold qa1 at hc2
    simp only [Bool.and_eq_true, decide_eq_true_eq] at hc2
    obtain ⟨c1, c2, c3, c4⟩ := hc2
    have hun : unf l (i - 1) = true := by unfold unf; rw [decide_eq_true c2, decide_eq_true c3]; rfl
    obtain ⟨j, rfl⟩ : ∃ j, i = j + 2 := ⟨i - 2, by omega⟩
    have hj : j + 2 - 1 = j + 1 := rfl
    have hj2 : j + 2 - 2 = j := rfl
    rw [hj] at h1 h2 hun
    rw [hj2] at c4
    -- the state two qu before
    have hw : qB l (j + 2) = qB l (j + 1) := by
     rw [qB, if_pos]
     intro e
     unfold unf at hun
     rw [e] at hun
     simp at hun
    have hlast : 0 ≤ (qB l (j + 1)).2.1 ∧ (qB l (j + 1)).2.2 = ((j : Nat) : Int) := by
     have hw1 : qB l (j + 1) = if (it l j).kind ≠ 1 then qB l j else if qa1 l j = true then ((qB l j).1, (qB l j).2.1, (j : Int)) else
      (if 0 ≤ (qB l j).2.1 then (qB l j).1 ++ [(qB l j).2] else (qB l j).1, (j : Int), (j : Int)) := rfl
     rw [hw1, if_neg (fun hc => hc c4)]
     by_cases hcc : qa1 l j = true
     ·rw [if_pos hcc]
      refine ⟨?_, rfl⟩
      have hcc2 := hcc
      unfold qa1 at hcc2
      simp only [Bool.and_eq_true, decide_eq_true_eq] at hcc2
      obtain ⟨d1, d2, d3, d4⟩ := hcc2
      exact qyG j ⟨j - 2, by omega, d4⟩
     ·rw [if_neg hcc]
      exact ⟨by simp only; omega, rfl⟩
    rw [hw] at h1 ⊢
    obtain ⟨g1, g2⟩ := hlast
    rw [if_pos g1, g2] at h1
    refine ⟨?_, fun _ _ => ⟨g1, rfl⟩⟩
    simp only
    rw [if_pos g1]
    have e1 := qdt j bs hp
    have e2 := qdt (j + 1) bs hp
    rw [if_neg (c := j + 1 + 1 ∈ bs) hnb] at e2
    have t1 : ((j : Nat) : Int).toNat = j := by omega
    have t2 : ((j + 2 : Nat) : Int).toNat = j + 2 := by omega
    rw [t1] at h1
    rw [t2]
    by_cases hm : (j + 1) ∈ bs
    ·rw [if_pos ⟨by omega, hun, hm⟩] at h1
     rw [if_pos hm] at e1
     have e3 : zd (j + 2) bs = zd j bs + 1 := by show zd (j + 1 + 1) bs = _; omega
     rw [e3]
     omega
    ·rw [if_neg (fun hc => hm hc.2.2)] at h1
     rw [if_neg hm] at e1
     have e3 : zd (j + 2) bs = zd j bs := by show zd (j + 1 + 1) bs = _; omega
     rw [e3]
     omega
   ·rw [if_neg hc]
    have hpend : ¬ (1 ≤ i ∧ unf l (i - 1) = true ∧ (i - 1) ∈ bs) := by
     rintro ⟨p1, p2, p3⟩
     obtain ⟨q1, q2, q3, q4⟩ := hy (i - 1) (by omega) p2
     apply hc
     unfold qa1
     unfold unf at p2
     simp only [Bool.and_eq_true, decide_eq_true_eq] at p2
     have e : i - 1 - 1 = i - 2 := by omega
     rw [e] at q3
     rw [decide_eq_true (show 2 ≤ i by omega), decide_eq_true q3, decide_eq_true p2.1, decide_eq_true p2.2] <;> rfl
    rw [if_neg hpend] at h1
    refine ⟨?_, fun _ _ => ⟨by simp only; omega, rfl⟩⟩
    simp only
    rw [if_pos (show (0 : Int) ≤ (i : Int) by omega)]
    by_cases h0 : 0 ≤ (qB l i).2.1
    ·rw [if_pos h0] at h1 ⊢
     rw [qgu]
     omega
    ·rw [if_neg h0] at h1 ⊢
     omega
  ·have hpend : ¬ (1 ≤ i ∧ unf l (i - 1) = true ∧ (i - 1) ∈ bs) := by
    rintro ⟨p1, p2, p3⟩
    obtain ⟨q1, q2, q3, q4⟩ := hy (i - 1) (by omega) p2
    have e : i - 1 + 1 = i := by omega
    rw [e] at q4
    exact hk q4
   rw [if_neg hpend] at h1
   rw [qB, if_pos hk]
   refine ⟨?_, fun _ hc => absurd hc hk⟩
   by_cases hq : i ∈ bs ∧ unf l i = true
   ·rw [if_pos hq, if_pos (c := 1 ≤ i + 1 ∧ unf l i = true ∧ i ∈ bs) ⟨by omega, hq.2, hq.1⟩]
    omega
   ·rw [if_neg hq, if_neg (c := 1 ≤ i + 1 ∧ unf l i = true ∧ i ∈ bs) (fun hc => hq ⟨hc.2.2, hc.2.1⟩)]
    omega
theorem qop {l : List It} (hy : qpb l) {bs : List Nat} (hp : bs.Pairwise (· < ·)) (hb : ∀ b ∈ bs, qdh l b = true) :
  qr9 (fun k => zd k bs) (zg l) = (qiS (unf l) bs l.length : Int) := by
 obtain ⟨h1, _⟩ := qtV hy hp hb l.length (Nat.le_refl _)
 have hpend : ¬ (1 ≤ l.length ∧ unf l (l.length - 1) = true ∧ (l.length - 1) ∈ bs) := by
  rintro ⟨p1, p2, p3⟩
  obtain ⟨q1, q2, q3, q4⟩ := hy (l.length - 1) (by omega) p2
  omega
 rw [if_neg hpend] at h1
 unfold zg
 split
 ·rename_i h0
  rw [if_pos h0] at h1
  rw [qgu]
  omega
 ·rename_i h0
  rw [if_neg h0] at h1
  omega
end LN
end

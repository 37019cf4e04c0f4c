import Derived.Test.YtjijgafefdolkaaGreatDoorK9
import Derived.Test.YtjijgafefdolkaaGreatDoorK7
import Derived.Test.YtjijgafefdolkaaGreatDoorK8
set_option linter.all false
set_option linter.unusedSimpArgs false
set_option linter.unusedVariables false
set_option linter.unusedSectionVars false
section
open Go Go.Proofs AF HY P48
namespace HY
set_option maxRecDepth 100000
theorem qcI (a b : List It) : qB (a ++ b) = qB a ++ qB b := by simp [qB]
theorem qhS {l : List It} {i : Nat} (hi : i < l.length) : List.take 6 (List.drop (i * 6) (qB l)) = qH (it l i) := by
 have h1 : l = l.take i ++ it l i :: l.drop (i + 1) := by rw [← qcM hi, List.take_append_drop]
 conv => lhs; rw [h1]
 rw [qcI, List.drop_append_of_le_length (by rw [zc, List.length_take]; omega), List.drop_of_length_le (by rw [zc, List.length_take]; omega)]
 show List.take 6 (qH (it l i) ++ qB (l.drop (i + 1))) = _
 rw [List.take_append_of_le_length (by rw [qcV]; omega)]
 rfl
theorem qps {l : List It} {n m : Nat} {fz : Nat → Bool} {h : List AObj} (e : l.length = m) : VLe (.sl m fun i => ((List.drop (i * 6) (qB l)).take 6).map (rei fz h (n + 1))) (qt l) := by
 subst e
 refine qcC rfl (fun i hi => ?_)
 rw [qhS hi]
 rfl
theorem qdW {v n : Nat} {L : List It} {fz : Nat → Bool} {h : List AObj} : VLe (qnB (some (kl v 58 (qB L))) v 6 0 L.length (rei fz h (n + 1))) (qt L) := by
 unfold kl
 split
 ·rename_i e
  have : L = [] := by cases L with
   | nil => rfl
   | cons a l => simp [qB, qH] at e
  subst this
  rw [slOf_emp, if_pos rfl]
  exact ku
 ·rw [slOf_mem, if_pos ⟨rfl, by rw [zc]; omega⟩]
  simp only [Nat.zero_add]
  exact qps rfl
theorem qyt (l : List It) (k v : Nat) (h : List AObj) (hk : qI k h = some (kl v 58 (qB l))) (hl : l.length ≤ 9223372036854775807) : qs Tryz.prog 40 [.osl k v 6 0 l.length] h (.int .i64 (ja l)) h := by
 refine qs.borrow ?_ rfl
 refine qs.le (t35 l [] hl) ?_ (VLe.refl _)
 simp only [List.map_cons, List.map_nil, rei_osl, if_true, hk]
 exact zG qdW jN.nil
theorem qgf (L : List Wd) : (qu L).flag = true := rfl
theorem qfL (L : List Wd) : (qu L).strip = qu L := rfl
attribute [go_sem] qgf qfL
theorem qo8 (w : List UInt8) (L : List Int) (j : Nat) : (qb9 w L j).length ≤ w.length := by
 unfold qb9; rw [List.length_take, List.length_drop]; omega
theorem qrI (ps : List Pat) (w : List UInt8) (k : Nat) : ((jX ps w).getD k []).length ≤ w.length := by
 unfold jX
 split
 ·rw [List.getD_eq_getElem?_getD]
  cases hq : (zA w (kP ps w) (kP ps w).length)[k]? with
  | none => simp
  | some u =>
   have := List.mem_of_getElem? hq
   unfold zA at this
   rw [List.mem_map] at this
   obtain ⟨j, _, rfl⟩ := this
   exact qo8 _ _ _
 ·cases k <;> simp
theorem qbm {a : Int} {n : Nat} (h0 : 0 ≤ a) (h1 : a ≤ 1073741824) (hn : n ≤ 64) : 0 ≤ a * (n : Int) ∧ a * (n : Int) ≤ 68719476736 := by
 have h2 := Int.mul_le_mul h1 (show (n : Int) ≤ 64 by omega) (by omega) (by omega)
 have h3 := Int.mul_nonneg h0 (show (0 : Int) ≤ n by omega)
 omega
theorem qln {n : Int} (h : qbh n = true) : 0 ≤ n ∧ n ≤ 1073741824 := by unfold qbh at h; simpa using h
theorem qrl {ws : List Wd} (h : ws.any qf0 = false) {i : Nat} (hi : i < ws.length) : (ws.getD i default).text.length ≤ 64 := by
 rw [List.any_eq_false] at h
 have := h _ (List.getElem_mem hi)
 unfold qf0 at this
 simp at this
 rw [List.getD_eq_getElem?_getD, List.getElem?_eq_getElem hi]
 simp
 omega
theorem zt (L : List It) : List.take (L.length * 6) (qB L) = qB L := List.take_of_length_le (by rw [zc]; omega)
theorem zn (L : List It) (y : It) : qB L ++ qH y = qB (L ++ [y]) := by rw [qcI]; simp [qB]
def qwM (l : List It) (e : Int) : AV := .tup [qt l, .int .i64 e]
theorem qbx {e : Int} : VLe (.tup [.nl, .int .i64 e]) (qwM [] e) := zb (l := [.nl, .int .i64 e]) ⟨ku, VLe.refl _, trivial⟩
theorem qr2 {a : AV} {l : List It} {e : Int} (ha : VLe a (qt l)) : VLe (.tup [a, .int .i64 e]) (qwM l e) := zb (l := [a, .int .i64 e]) ⟨ha, VLe.refl _, trivial⟩
set_option maxHeartbeats 16000000 in
theorem t32 (s : Sty) (x : List AV) (ps : List Pat) (ws : List Wd) (h : List AObj) (hok : qbp ps) (hws : ws.length ≤ 10000) : qs Tryz.prog 12 [.agg (zl s x), qA ps, qu ws] h (qwM (qcU s ps ws) (jC s ps ws)) h := by
 have qbz := fun h => t64 ps h hok
 have c7z := fun h => t59 ws qf0 37 h (by omega) t65
 unfold qcU
 by_cases g0 : qaV s = true
 case neg =>
  have g0' : qaV s = false := by simpa using g0
  have e0 : jC s ps ws = 2 := by unfold jC; rw [if_pos g0']
  rw [e0, if_neg (by decide)]
  refine qn qk7 (by simp) ?_
  simp only [lcP, lnP, Nat.reduceAdd, Nat.reduceSub, List.replicate, caP, naP, List.append_nil]
  simp (disch := omega) only [qst, zl, go_sem, qc, dvP, mdP]
  repeat' first
   | ((first | refine qj (t63 _ _) ?_ ?_); (next => exact flk); simp (disch := omega) only [zl, go_sem, qc, dvP, mdP])
   | ((first | refine qo (fun _ => t63 _ _) ?_ ?_); (next => exact flk); simp (disch := omega) only [zl, go_sem, qc, dvP, mdP])
   | ((first | refine qk (fun e => ⟨?_, t63 _ _⟩) ?_); (next => exact flk); simp (disch := omega) only [zl, go_sem, qc, dvP, mdP])
   | ((first | refine qe ?_ ?_ | refine qg ?_ ?_); (next => exact rvk); simp only [go_sem]; (first | exact VLe.refl _ | refine qh ?_ | refine qd ?_ | refine ql ?_ | skip))
   | with_reducible first | refine And.intro ?_ ?_ | intro _
  all_goals try exact clz
  ·exact qbx
  ·rename_i hx
   exfalso
   apply g0
   unfold qaV
   obtain ⟨⟨⟨⟨⟨a1, a2⟩, a3⟩, a4⟩, a5⟩, a6⟩ := hx
   rw [a1, a2 a1, a3, a4]
   simp
   omega
 have g0' := g0
 unfold qaV at g0'
 simp only [Bool.and_eq_true, decide_eq_true_eq] at g0'
 obtain ⟨a1, a2, a3, a4, a5, a6⟩ := g0'
 obtain ⟨b1, b2⟩ := qln a1
 have k5 : (s.hy < 0) = False := eq_false (by omega)
 have k6 : (10000 < s.hy) = False := eq_false (by omega)
 by_cases g1 : zW ps = 0
 case neg =>
  have e0 : jC s ps ws = 1 := by unfold jC; rw [if_neg (by rw [g0]; simp), if_pos (.inl g1)]
  rw [e0, if_neg (by decide)]
  refine qn qk7 (by simp) ?_
  simp only [lcP, lnP, Nat.reduceAdd, Nat.reduceSub, List.replicate, caP, naP, List.append_nil]
  simp (disch := omega) only [qst, zl, a1, a2, a3, a4, k5, k6, go_sem, qc, dvP, mdP]
  repeat' first
   | (refine zq ((.bool false)) ?_; simp (disch := omega) only [zl, a1, a2, a3, a4, k5, k6, g1, go_sem, qc, dvP, mdP])
   | ((first | refine qj (t63 _ _) ?_ ?_ | refine qj (qbz _) ?_ ?_); (next => exact flk); simp (disch := omega) only [zl, a1, a2, a3, a4, k5, k6, g1, go_sem, qc, dvP, mdP])
   | ((first | refine qo (fun _ => t63 _ _) ?_ ?_ | refine qo (fun _ => qbz _) ?_ ?_); (next => exact flk); simp (disch := omega) only [zl, a1, a2, a3, a4, k5, k6, g1, go_sem, qc, dvP, mdP])
   | ((first | refine qk (fun e => ⟨?_, t63 _ _⟩) ?_ | refine qk (fun e => ⟨?_, qbz _⟩) ?_); (next => exact flk); simp (disch := omega) only [zl, a1, a2, a3, a4, k5, k6, g1, go_sem, qc, dvP, mdP])
   | ((first | refine qe ?_ ?_ | refine qg ?_ ?_); (next => exact rvk); simp only [go_sem]; (first | exact VLe.refl _ | refine qh ?_ | refine qd ?_ | refine ql ?_ | skip))
   | with_reducible first | refine And.intro ?_ ?_ | intro _
  all_goals try exact clz
  exact qbx
 rw [g1] at qbz
 cases g2 : ws.any qf0 with
 | true =>
  have e0 : jC s ps ws = 1 := by unfold jC; rw [if_neg (by rw [g0]; simp), if_pos (.inr g2)]
  rw [g2] at c7z
  rw [e0, if_neg (by decide)]
  refine qn qk7 (by simp) ?_
  simp only [lcP, lnP, Nat.reduceAdd, Nat.reduceSub, List.replicate, caP, naP, List.append_nil]
  simp (disch := omega) only [qst, zl, a1, a2, a3, a4, k5, k6, go_sem, qc, dvP, mdP]
  repeat' first
   | ((first | refine qj (t63 _ _) ?_ ?_ | refine qj (qbz _) ?_ ?_ | refine qj (c7z _) ?_ ?_); (next => exact flk); simp (disch := omega) only [zl, a1, a2, a3, a4, k5, k6, go_sem, qc, dvP, mdP])
   | ((first | refine qo (fun _ => t63 _ _) ?_ ?_ | refine qo (fun _ => qbz _) ?_ ?_ | refine qo (fun _ => c7z _) ?_ ?_); (next => exact flk); simp (disch := omega) only [zl, a1, a2, a3, a4, k5, k6, go_sem, qc, dvP, mdP])
   | ((first | refine qk (fun e => ⟨?_, t63 _ _⟩) ?_ | refine qk (fun e => ⟨?_, qbz _⟩) ?_ | refine qk (fun e => ⟨?_, c7z _⟩) ?_); (next => exact flk); simp (disch := omega) only [zl, a1, a2, a3, a4, k5, k6, go_sem, qc, dvP, mdP])
   | ((first | refine qe ?_ ?_ | refine qg ?_ ?_); (next => exact rvk); simp only [go_sem]; (first | exact VLe.refl _ | refine qh ?_ | refine qd ?_ | refine ql ?_ | skip))
   | with_reducible first | refine And.intro ?_ ?_ | intro _
  all_goals try exact clz
  exact qbx
 | false =>
 rw [g2] at c7z
 by_cases g3 : 4096 < ws.length
 case pos =>
  have e0 : jC s ps ws = 4 := by unfold jC; rw [if_neg (by rw [g0]; simp), if_neg (by rw [g1, g2]; simp), if_pos g3]
  rw [e0, if_neg (by decide)]
  have k3 : (4096 < (ws.length : Int)) = True := eq_true (by omega)
  refine qn qk7 (by simp) ?_
  simp only [lcP, lnP, Nat.reduceAdd, Nat.reduceSub, List.replicate, caP, naP, List.append_nil]
  simp (disch := omega) only [qst, zl, a1, a2, a3, a4, k5, k6, go_sem, qc, dvP, mdP]
  repeat' first
   | ((first | refine qj (t63 _ _) ?_ ?_ | refine qj (qbz _) ?_ ?_ | refine qj (c7z _) ?_ ?_); (next => exact flk); simp (disch := omega) only [zl, qu, a1, a2, a3, a4, k5, k6, k3, go_sem, qc, dvP, mdP])
   | ((first | refine qo (fun _ => t63 _ _) ?_ ?_ | refine qo (fun _ => qbz _) ?_ ?_ | refine qo (fun _ => c7z _) ?_ ?_); (next => exact flk); simp (disch := omega) only [zl, qu, a1, a2, a3, a4, k5, k6, k3, go_sem, qc, dvP, mdP])
   | ((first | refine qk (fun e => ⟨?_, t63 _ _⟩) ?_ | refine qk (fun e => ⟨?_, qbz _⟩) ?_ | refine qk (fun e => ⟨?_, c7z _⟩) ?_); (next => exact flk); simp (disch := omega) only [zl, qu, a1, a2, a3, a4, k5, k6, k3, go_sem, qc, dvP, mdP])
   | ((first | refine qe ?_ ?_ | refine qg ?_ ?_); (next => exact rvk); simp only [go_sem]; (first | exact VLe.refl _ | refine qh ?_ | refine qd ?_ | refine ql ?_ | skip))
   | with_reducible first | refine And.intro ?_ ?_ | intro _
  all_goals try exact clz
  exact qbx
 have k3 : (4096 < (ws.length : Int)) = False := eq_false (by omega)
 have e0 : jC s ps ws = if ja (jf s ps ws ws.length) ≠ 0 then 4 else 0 := by unfold jC; rw [if_neg (by rw [g0]; simp), if_neg (by rw [g1, g2]; simp), if_neg g3]
 rw [e0]
 have hgw := fun i hi => qrl (ws := ws) g2 (i := i) hi
 have hwl := fun n hn => qje s ps ws hgw n hn
 refine qn qk7 (by simp) ?_
 simp only [lcP, lnP, Nat.reduceAdd, Nat.reduceSub, List.replicate, caP, naP, List.append_nil]
 simp (disch := omega) only [qst, zl, a1, a2, a3, a4, k5, k6, go_sem, qc, dvP, mdP]
 repeat' first
  | ((first | refine qj (t63 _ _) ?_ ?_ | refine qj (qbz _) ?_ ?_ | refine qj (c7z _) ?_ ?_); (next => exact flk); simp (disch := omega) only [zl, qu, a1, a2, a3, a4, k5, k6, k3, go_sem, qc, dvP, mdP])
  | ((first | refine qo (fun _ => t63 _ _) ?_ ?_ | refine qo (fun _ => qbz _) ?_ ?_ | refine qo (fun _ => c7z _) ?_ ?_); (next => exact flk); simp (disch := omega) only [zl, qu, a1, a2, a3, a4, k5, k6, k3, go_sem, qc, dvP, mdP])
  | ((first | refine qk (fun e => ⟨?_, t63 _ _⟩) ?_ | refine qk (fun e => ⟨?_, qbz _⟩) ?_ | refine qk (fun e => ⟨?_, c7z _⟩) ?_); (next => exact flk); simp (disch := omega) only [zl, qu, a1, a2, a3, a4, k5, k6, k3, go_sem, qc, dvP, mdP])
  | ((first | refine qe ?_ ?_ | refine qg ?_ ?_); (next => exact rvk); simp only [go_sem]; (first | exact VLe.refl _ | refine qh ?_ | refine qd ?_ | refine ql ?_ | skip))
  | with_reducible first | refine And.intro ?_ ?_ | intro _
 all_goals try exact clz
 refine qJ (T := fun i : Nat × Nat × AObj × AObj × AObj × AObj × AObj => qv 132 [(1, qA ps), (3, .op h.length 1 0), (8, .osl (h.length + 2) i.2.1 6 0 (jf s ps ws i.1).length), (57, qu ws), (58, .int .i64 ws.length), (59, .int .i64 i.1)])
  (H := fun i => h ++ [.mem 1 25 (zl s x), .emp 1, kl i.2.1 58 (qB (jf s ps ws i.1)), i.2.2.1, i.2.2.2.1, .emp 0, i.2.2.2.2.1, .emp 0, i.2.2.2.2.2.1, .emp 0, i.2.2.2.2.2.2, .emp 0])
  (inv := fun i => i.1 ≤ ws.length ∧ q9 [i.2.2.1] 0 = true ∧ q9 [i.2.2.2.1] 0 = true ∧ q9 [i.2.2.2.2.1] 0 = true ∧ q9 [i.2.2.2.2.2.1] 0 = true ∧ q9 [i.2.2.2.2.2.2] 0 = true) (m := fun i => ws.length - i.1) (0, 1, .emp 0, .emp 0, .emp 0, .emp 0, .emp 0) ⟨by simp, rfl, rfl, rfl, rfl, rfl⟩ (Wk.temps ?_) ?_
 ·(simp only [qu, qv, List.foldl, List.replicate, go_sem, qr, qp, qm, qq]; try (repeat' first | (with_reducible refine And.intro ?_ ?_) | (refine qh ?_; omega) | (refine qd ?_; rfl) | exact VLe.refl _))
 rintro ⟨i, v, O3, O4, O6, O8, O10⟩ ⟨i1, i3, i4, i6, i8, i10⟩ K hK
 simp only at i1 i3 i4 i6 i8 i10 hK
 have i3' : ∀ m, q9 (O3 :: m) 0 = true := fun _ => i3
 have i4' : ∀ m, q9 (O4 :: m) 0 = true := fun _ => i4
 have i6' : ∀ m, q9 (O6 :: m) 0 = true := fun _ => i6
 have i8' : ∀ m, q9 (O8 :: m) 0 = true := fun _ => i8
 have i10' : ∀ m, q9 (O10 :: m) 0 = true := fun _ => i10
 by_cases hi : i < ws.length
 case neg =>
  have e : i = ws.length := by omega
  subst e
  have hll := hwl ws.length (Nat.le_refl _)
  have qnS := fun (H : List AObj) (hh : qI (h.length + 2) H = some (kl v 58 (qB (jf s ps ws ws.length)))) => qyt (jf s ps ws ws.length) (h.length + 2) v H hh (by omega)
  by_cases g4 : ja (jf s ps ws ws.length) = 0
  ·rw [if_neg (show ¬ ja (jf s ps ws ws.length) ≠ 0 by simpa using g4), if_pos rfl]
   simp (disch := omega) only [qv, List.foldl, List.replicate, qu, go_sem, qc, dvP, mdP]
   repeat' first
    | ((first | refine qj (qnS _ (by simp only [go_sem])) ?_ ?_); (next => exact flk); simp (disch := omega) only [g4, go_sem, qc, dvP, mdP])
    | ((first | refine qk (fun e => ⟨?_, qnS _ (by simp only [go_sem])⟩) ?_); (next => exact flk); simp (disch := omega) only [g4, go_sem, qc, dvP, mdP])
    | ((first | refine qe ?_ ?_ | refine qg ?_ ?_); (next => exact rvk); simp only [go_sem]; (first | exact VLe.refl _ | refine qh ?_ | refine qd ?_ | refine ql ?_ | skip))
    | with_reducible first | refine And.intro ?_ ?_ | intro _
   all_goals try exact clz
   exact qr2 qdW
  ·rw [if_pos g4, if_neg (by decide)]
   simp (disch := omega) only [qv, List.foldl, List.replicate, qu, go_sem, qc, dvP, mdP]
   repeat' first
    | ((first | refine qj (qnS _ (by simp only [go_sem])) ?_ ?_); (next => exact flk); simp (disch := omega) only [g4, go_sem, qc, dvP, mdP])
    | ((first | refine qk (fun e => ⟨?_, qnS _ (by simp only [go_sem])⟩) ?_); (next => exact flk); simp (disch := omega) only [g4, go_sem, qc, dvP, mdP])
    | ((first | refine qe ?_ ?_ | refine qg ?_ ?_); (next => exact rvk); simp only [go_sem]; (first | exact VLe.refl _ | refine qh ?_ | refine qd ?_ | refine ql ?_ | skip))
    | with_reducible first | refine And.intro ?_ ?_ | intro _
   all_goals try exact clz
   exact qbx
 have hw64 := hgw i hi
 have hnx := hwl (i + 1) (by omega)
 have hcur := hwl i (by omega)
 have hsu := qa3 s ps ws i
 obtain ⟨w, hwe⟩ : ∃ w, w = ws.getD i default := ⟨_, rfl⟩
 have ewd := hwe.symm
 rw [ewd] at hw64 hsu
 obtain ⟨L, hL⟩ : ∃ L, L = jf s ps ws i := ⟨_, rfl⟩
 have eL := hL.symm
 rw [eL] at hcur hsu ⊢
 have qeF := fun h => t66 ps w.text h hok (by omega) g1
 have hpl := qdP ps w.text
 have hprt := qrI ps w.text
 obtain ⟨l, hle⟩ : ∃ l, l = jX ps w.text := ⟨_, rfl⟩
 have hwi : qjb s ps i w = qep s i w ++ qR s l l.length := by rw [hle]; rfl
 rw [← hle] at qeF hpl hprt
 have ec := zc L
 have et := zt L
 have hit : ∀ y : It, qB L ++ [AV.int .i64 y.kind, .int .i64 y.width, .int .i64 y.stretch, .int .i64 y.shrink, .int .i64 y.penalty, .str y.text] = qB (L ++ [y]) := fun y => zn L y
 by_cases g5 : i = 0
 ·have k1 : ((i : Int) = 0) = True := eq_true (by omega)
  have hsp : qep s i w = [] := by unfold qep; rw [if_pos g5]
  obtain ⟨L1, hL1⟩ : ∃ L1, L1 = L ++ qep s i w := ⟨_, rfl⟩
  have hl1 : L1.length ≤ 200 * i + 1 := by rw [hL1, List.length_append]; have := qbw s i w; omega
  simp (disch := omega) only [qv, List.foldl, List.replicate, qu, zV, ewd, zl, qE, k1, i3', i4', i6', qD, ec, et, go_sem, qc, dvP, mdP]
  repeat' first
   | ((first | refine qj (qeF _) ?_ ?_); (next => exact flk); simp (disch := omega) only [zV, zl, qE, k1, i3', i4', i6', qD, ec, et, go_sem, qc, dvP, mdP])
   | ((first | refine qo (fun _ => qeF _) ?_ ?_); (next => exact flk); simp (disch := omega) only [zV, zl, qE, k1, i3', i4', i6', qD, ec, et, go_sem, qc, dvP, mdP])
   | ((first | refine qk (fun e => ⟨?_, qeF _⟩) ?_); (next => exact flk); simp (disch := omega) only [zV, zl, qE, k1, i3', i4', i6', qD, ec, et, go_sem, qc, dvP, mdP])
   | ((first | refine qe ?_ ?_ | refine qg ?_ ?_); (next => exact rvk); simp only [go_sem]; (first | exact VLe.refl _ | refine qh ?_ | refine qd ?_ | refine ql ?_ | skip))
   | with_reducible first | refine And.intro ?_ ?_ | intro _
  all_goals try exact clz
  rw [show L = L1 by rw [hL1, hsp, List.append_nil]]
  rw [show qB L1 = qB (L1 ++ qR s l 0) by rw [zE, List.append_nil], show L1.length = (L1 ++ qR s l 0).length by rw [zE, List.append_nil]]
  refine qJ (T := fun k : Nat × Nat × AObj × AObj => qv 132 [(1, qA ps), (3, .op h.length 1 0), (8, .osl (h.length + 2) k.2.1 6 0 (L1 ++ qR s l k.1).length), (57, qu ws), (58, .int .i64 ws.length), (59, .int .i64 i), (98, qE l), (99, .int .i64 l.length), (100, .int .i64 k.1)])
   (H := fun k => h ++ [.mem 1 25 (zl s x), .emp 1, kl k.2.1 58 (qB (L1 ++ qR s l k.1)), .mem (qz (some O3) + 1) 33 (zV w), O4, .emp 0, O6, .emp 0, k.2.2.1, .emp 0, k.2.2.2, .emp 0])
   (inv := fun k => k.1 ≤ l.length ∧ q9 [k.2.2.1] 0 = true ∧ q9 [k.2.2.2] 0 = true) (m := fun k => l.length - k.1) (0, v, O8, O10) ⟨by simp, i8, i10⟩ (Wk.temps ?_) ?_
  ·(simp only [qu, qE, qv, List.foldl, List.replicate, go_sem, qr, qp, qm, qq]; try (repeat' first | (with_reducible refine And.intro ?_ ?_) | (refine qh ?_; omega) | (refine qd ?_; rfl) | exact VLe.refl _))
  rintro ⟨k, v2, P8, P10⟩ ⟨j1, j8, j10⟩ K2 hK2
  simp only at j1 j8 j10 hK2
  have j8' : ∀ m, q9 (P8 :: m) 0 = true := fun _ => j8
  have j10' : ∀ m, q9 (P10 :: m) 0 = true := fun _ => j10
  have hpk := kD s l k
  obtain ⟨M, hM⟩ : ∃ M, M = L1 ++ qR s l k := ⟨_, rfl⟩
  have hml : M.length ≤ 200 * i + 1 + 2 * k := by rw [hM, List.length_append]; omega
  rw [← hM]
  have fc := zc M
  have ft := zt M
  have fit : ∀ y : It, qB M ++ [AV.int .i64 y.kind, .int .i64 y.width, .int .i64 y.stretch, .int .i64 y.shrink, .int .i64 y.penalty, .str y.text] = qB (M ++ [y]) := fun y => zn M y
  by_cases hk : k < l.length
  ·have hsk := jc s l k
   have hpk2 := hprt k
   obtain ⟨u, hu⟩ : ∃ u, u = l.getD k [] := ⟨_, rfl⟩
   have eu := hu.symm
   rw [eu] at hsk hpk2
   have hcu := jj u
   have qa4 := fun h => t67 u h (by omega)
   obtain ⟨m1, m2⟩ := qbm (n := (qW u).length) b1 b2 (by omega)
   by_cases hk0 : k = 0
   ·have k7 : (0 < (k : Int)) = False := eq_false (by omega)
    have hpi : j4 s k u = [⟨1, s.le * ((qW u).length : Int), 0, 0, 0, u⟩] := by unfold j4; rw [if_pos hk0]; rfl
    have hnxt : L1 ++ qR s l (k + 1) = M ++ [⟨1, s.le * ((qW u).length : Int), 0, 0, 0, u⟩] := by rw [hsk, hpi, hM, List.append_assoc]
    have hln : M.length + 1 = (L1 ++ qR s l (k + 1)).length := by rw [hnxt]; simp
    have hfin := fit ⟨1, s.le * ((qW u).length : Int), 0, 0, 0, u⟩
    simp only at hfin
    simp (disch := omega) only [qv, List.foldl, List.replicate, qE, zl, eu, k7, j8', j10', qD, fc, ft, go_sem, qc, dvP, mdP]
    repeat' first
     | ((first | refine qj (qa4 _) ?_ ?_); (next => exact flk); simp (disch := omega) only [qE, zl, eu, k7, j8', j10', qD, fc, ft, go_sem, qc, dvP, mdP])
     | ((first | refine qo (fun _ => qa4 _) ?_ ?_); (next => exact flk); simp (disch := omega) only [qE, zl, eu, k7, j8', j10', qD, fc, ft, go_sem, qc, dvP, mdP])
     | ((first | refine qk (fun e => ⟨?_, qa4 _⟩) ?_); (next => exact flk); simp (disch := omega) only [qE, zl, eu, k7, j8', j10', qD, fc, ft, go_sem, qc, dvP, mdP])
     | ((first | refine qe ?_ ?_ | refine qg ?_ ?_); (next => exact rvk); simp only [go_sem]; (first | exact VLe.refl _ | refine qh ?_ | refine qd ?_ | refine ql ?_ | skip))
     | with_reducible first | refine And.intro ?_ ?_ | intro _
    all_goals try exact clz
    rw [hfin, hln, ← hnxt]
    refine hK2 _ _ (k + 1, v2 + 1, P8, .mem (qz (some P10) + 1) 58 [.int .i64 1, .int .i64 (s.le * ((qW u).length : Int)), .int .i64 0, .int .i64 0, .int .i64 0, .str u]) ⟨by simp only; omega, j8, rfl⟩ (by simp only; omega) (Wk.temps ?_)
    (simp only [qu, qE, qv, List.foldl, List.replicate, go_sem, qr, qp, qm, qq]; try (repeat' first | (with_reducible refine And.intro ?_ ?_) | (refine qh ?_; omega) | (refine qd ?_; rfl) | exact VLe.refl _))
   ·have k7 : (0 < (k : Int)) = True := eq_true (by omega)
    have hpi : j4 s k u = [⟨3, s.le, 0, 0, s.hy, [61]⟩, ⟨1, s.le * ((qW u).length : Int), 0, 0, 0, u⟩] := by unfold j4; rw [if_neg hk0]; rfl
    have hnxt : L1 ++ qR s l (k + 1) = (M ++ [⟨3, s.le, 0, 0, s.hy, [61]⟩]) ++ [⟨1, s.le * ((qW u).length : Int), 0, 0, 0, u⟩] := by rw [hsk, hpi, hM]; simp
    have hln : M.length + 1 + 1 = (L1 ++ qR s l (k + 1)).length := by rw [hnxt]; simp
    have hfin0 := fit ⟨3, s.le, 0, 0, s.hy, [61]⟩
    obtain ⟨M2, hM2⟩ : ∃ M2, M2 = M ++ [(⟨3, s.le, 0, 0, s.hy, [61]⟩ : It)] := ⟨_, rfl⟩
    have hl2 : M2.length = M.length + 1 := by rw [hM2]; simp
    rw [← hM2] at hfin0 hnxt
    have fc2 : (qB M2).length = (M.length + 1) * 6 := by rw [zc, hl2]
    have ft2 : List.take ((M.length + 1) * 6) (qB M2) = qB M2 := by rw [← hl2]; exact zt M2
    have hfin : qB M2 ++ [AV.int .i64 1, .int .i64 (s.le * ((qW u).length : Int)), .int .i64 0, .int .i64 0, .int .i64 0, .str u] = qB (M2 ++ [⟨1, s.le * ((qW u).length : Int), 0, 0, 0, u⟩]) := zn M2 ⟨1, s.le * ((qW u).length : Int), 0, 0, 0, u⟩
    simp only at hfin0
    simp (disch := omega) only [qv, List.foldl, List.replicate, qE, zl, eu, k7, j8', j10', qD, fc, ft, hfin0, fc2, ft2, go_sem, qc, dvP, mdP]
    repeat' first
     | ((first | refine qj (qa4 _) ?_ ?_); (next => exact flk); simp (disch := omega) only [qE, zl, eu, k7, j8', j10', qD, fc, ft, hfin0, fc2, ft2, go_sem, qc, dvP, mdP])
     | ((first | refine qo (fun _ => qa4 _) ?_ ?_); (next => exact flk); simp (disch := omega) only [qE, zl, eu, k7, j8', j10', qD, fc, ft, hfin0, fc2, ft2, go_sem, qc, dvP, mdP])
     | ((first | refine qk (fun e => ⟨?_, qa4 _⟩) ?_); (next => exact flk); simp (disch := omega) only [qE, zl, eu, k7, j8', j10', qD, fc, ft, hfin0, fc2, ft2, go_sem, qc, dvP, mdP])
     | ((first | refine qe ?_ ?_ | refine qg ?_ ?_); (next => exact rvk); simp only [go_sem]; (first | exact VLe.refl _ | refine qh ?_ | refine qd ?_ | refine ql ?_ | skip))
     | with_reducible first | refine And.intro ?_ ?_ | intro _
    all_goals try exact clz
    rw [hfin, hln, ← hnxt]
    refine hK2 _ _ (k + 1, v2 + 1 + 1, .mem (qz (some P8) + 1) 58 [.int .i64 3, .int .i64 s.le, .int .i64 0, .int .i64 0, .int .i64 s.hy, .str [61]], .mem (qz (some P10) + 1) 58 [.int .i64 1, .int .i64 (s.le * ((qW u).length : Int)), .int .i64 0, .int .i64 0, .int .i64 0, .str u]) ⟨by simp only; omega, rfl, rfl⟩ (by simp only; omega) (Wk.temps ?_)
    (simp only [qu, qE, qv, List.foldl, List.replicate, go_sem, qr, qp, qm, qq]; try (repeat' first | (with_reducible refine And.intro ?_ ?_) | (refine qh ?_; omega) | (refine qd ?_; rfl) | exact VLe.refl _))
  ·have e : k = l.length := by omega
   have hfn : M = jf s ps ws (i + 1) := by rw [hM, e, hsu, hwi, hL1, List.append_assoc]
   rw [hfn]
   simp (disch := omega) only [qv, List.foldl, List.replicate, qE, go_sem, qc, dvP, mdP]
   repeat' first
    | ((first | refine qe ?_ ?_ | refine qg ?_ ?_); (next => exact rvk); simp only [go_sem]; (first | exact VLe.refl _ | refine qh ?_ | refine qd ?_ | refine ql ?_ | skip))
    | with_reducible first | refine And.intro ?_ ?_ | intro _
   all_goals try exact clz
   refine hK _ _ (i + 1, v2, .mem (qz (some O3) + 1) 33 (zV w), O4, O6, P8, P10) ⟨by simp only; omega, rfl, i4, i6, j8, j10⟩ (by simp only; omega) (Wk.temps ?_)
   (simp only [qu, qE, qv, List.foldl, List.replicate, go_sem, qr, qp, qm, qq]; try (repeat' first | (with_reducible refine And.intro ?_ ?_) | (refine qh ?_; omega) | (refine qd ?_; rfl) | exact VLe.refl _))
 have k1 : ((i : Int) = 0) = False := eq_false (by omega)
 cases g6 : w.verse with
 | true =>
  have hsp : qep s i w = [⟨3, 0, 0, 0, -10000, []⟩] := by unfold qep; rw [if_neg g5, if_pos g6]
  have hfin := hit ⟨3, 0, 0, 0, -10000, []⟩
  simp only at hfin
  obtain ⟨L1, hL1⟩ : ∃ L1, L1 = L ++ qep s i w := ⟨_, rfl⟩
  have hl1 : L1.length ≤ 200 * i + 1 := by rw [hL1, List.length_append]; have := qbw s i w; omega
  simp (disch := omega) only [qv, List.foldl, List.replicate, qu, zV, ewd, zl, qE, k1, g6, hfin, i3', i4', i6', qD, ec, et, go_sem, qc, dvP, mdP]
  repeat' first
   | ((first | refine qj (qeF _) ?_ ?_); (next => exact flk); simp (disch := omega) only [zV, zl, qE, k1, g6, hfin, i3', i4', i6', qD, ec, et, go_sem, qc, dvP, mdP])
   | ((first | refine qo (fun _ => qeF _) ?_ ?_); (next => exact flk); simp (disch := omega) only [zV, zl, qE, k1, g6, hfin, i3', i4', i6', qD, ec, et, go_sem, qc, dvP, mdP])
   | ((first | refine qk (fun e => ⟨?_, qeF _⟩) ?_); (next => exact flk); simp (disch := omega) only [zV, zl, qE, k1, g6, hfin, i3', i4', i6', qD, ec, et, go_sem, qc, dvP, mdP])
   | ((first | refine qe ?_ ?_ | refine qg ?_ ?_); (next => exact rvk); simp only [go_sem]; (first | exact VLe.refl _ | refine qh ?_ | refine qd ?_ | refine ql ?_ | skip))
   | with_reducible first | refine And.intro ?_ ?_ | intro _
  all_goals try exact clz
  rw [show L ++ [(⟨3, 0, 0, 0, -10000, []⟩ : It)] = L1 by rw [hL1, hsp], show L.length + 1 = L1.length by rw [hL1, hsp]; simp]
  rw [show qB L1 = qB (L1 ++ qR s l 0) by rw [zE, List.append_nil], show L1.length = (L1 ++ qR s l 0).length by rw [zE, List.append_nil]]
  refine qJ (T := fun k : Nat × Nat × AObj × AObj => qv 132 [(1, qA ps), (3, .op h.length 1 0), (8, .osl (h.length + 2) k.2.1 6 0 (L1 ++ qR s l k.1).length), (57, qu ws), (58, .int .i64 ws.length), (59, .int .i64 i), (98, qE l), (99, .int .i64 l.length), (100, .int .i64 k.1)])
   (H := fun k => h ++ [.mem 1 25 (zl s x), .emp 1, kl k.2.1 58 (qB (L1 ++ qR s l k.1)), .mem (qz (some O3) + 1) 33 [.str w.text, .int .i64 w.col, .int .i64 w.unit, .int .i64 w.dec, .bool w.joined, .bool true, .str w.name], .mem (qz (some O4) + 1) 58 [.int .i64 3, .int .i64 0, .int .i64 0, .int .i64 0, .int .i64 (-10000), .str []], .emp 0, O6, .emp 0, k.2.2.1, .emp 0, k.2.2.2, .emp 0])
   (inv := fun k => k.1 ≤ l.length ∧ q9 [k.2.2.1] 0 = true ∧ q9 [k.2.2.2] 0 = true) (m := fun k => l.length - k.1) (0, v + 1, O8, O10) ⟨by simp, i8, i10⟩ (Wk.temps ?_) ?_
  ·(simp only [qu, qE, qv, List.foldl, List.replicate, go_sem, qr, qp, qm, qq]; try (repeat' first | (with_reducible refine And.intro ?_ ?_) | (refine qh ?_; omega) | (refine qd ?_; rfl) | exact VLe.refl _))
  rintro ⟨k, v2, P8, P10⟩ ⟨j1, j8, j10⟩ K2 hK2
  simp only at j1 j8 j10 hK2
  have j8' : ∀ m, q9 (P8 :: m) 0 = true := fun _ => j8
  have j10' : ∀ m, q9 (P10 :: m) 0 = true := fun _ => j10
  have hpk := kD s l k
  obtain ⟨M, hM⟩ : ∃ M, M = L1 ++ qR s l k := ⟨_, rfl⟩
  have hml : M.length ≤ 200 * i + 1 + 2 * k := by rw [hM, List.length_append]; omega
  rw [← hM]
  have fc := zc M
  have ft := zt M
  have fit : ∀ y : It, qB M ++ [AV.int .i64 y.kind, .int .i64 y.width, .int .i64 y.stretch, .int .i64 y.shrink, .int .i64 y.penalty, .str y.text] = qB (M ++ [y]) := fun y => zn M y
  by_cases hk : k < l.length
  ·have hsk := jc s l k
   have hpk2 := hprt k
   obtain ⟨u, hu⟩ : ∃ u, u = l.getD k [] := ⟨_, rfl⟩
   have eu := hu.symm
   rw [eu] at hsk hpk2
   have hcu := jj u
   have qa4 := fun h => t67 u h (by omega)
   obtain ⟨m1, m2⟩ := qbm (n := (qW u).length) b1 b2 (by omega)
   by_cases hk0 : k = 0
   ·have k7 : (0 < (k : Int)) = False := eq_false (by omega)
    have hpi : j4 s k u = [⟨1, s.le * ((qW u).length : Int), 0, 0, 0, u⟩] := by unfold j4; rw [if_pos hk0]; rfl
    have hnxt : L1 ++ qR s l (k + 1) = M ++ [⟨1, s.le * ((qW u).length : Int), 0, 0, 0, u⟩] := by rw [hsk, hpi, hM, List.append_assoc]
    have hln : M.length + 1 = (L1 ++ qR s l (k + 1)).length := by rw [hnxt]; simp
    have hfin := fit ⟨1, s.le * ((qW u).length : Int), 0, 0, 0, u⟩
    simp only at hfin
    simp (disch := omega) only [qv, List.foldl, List.replicate, qE, zl, eu, k7, j8', j10', qD, fc, ft, go_sem, qc, dvP, mdP]
    repeat' first
     | ((first | refine qj (qa4 _) ?_ ?_); (next => exact flk); simp (disch := omega) only [qE, zl, eu, k7, j8', j10', qD, fc, ft, go_sem, qc, dvP, mdP])
     | ((first | refine qo (fun _ => qa4 _) ?_ ?_); (next => exact flk); simp (disch := omega) only [qE, zl, eu, k7, j8', j10', qD, fc, ft, go_sem, qc, dvP, mdP])
     | ((first | refine qk (fun e => ⟨?_, qa4 _⟩) ?_); (next => exact flk); simp (disch := omega) only [qE, zl, eu, k7, j8', j10', qD, fc, ft, go_sem, qc, dvP, mdP])
     | ((first | refine qe ?_ ?_ | refine qg ?_ ?_); (next => exact rvk); simp only [go_sem]; (first | exact VLe.refl _ | refine qh ?_ | refine qd ?_ | refine ql ?_ | skip))
     | with_reducible first | refine And.intro ?_ ?_ | intro _
    all_goals try exact clz
    rw [hfin, hln, ← hnxt]
    refine hK2 _ _ (k + 1, v2 + 1, P8, .mem (qz (some P10) + 1) 58 [.int .i64 1, .int .i64 (s.le * ((qW u).length : Int)), .int .i64 0, .int .i64 0, .int .i64 0, .str u]) ⟨by simp only; omega, j8, rfl⟩ (by simp only; omega) (Wk.temps ?_)
    (simp only [qu, qE, qv, List.foldl, List.replicate, go_sem, qr, qp, qm, qq]; try (repeat' first | (with_reducible refine And.intro ?_ ?_) | (refine qh ?_; omega) | (refine qd ?_; rfl) | exact VLe.refl _))
   ·have k7 : (0 < (k : Int)) = True := eq_true (by omega)
    have hpi : j4 s k u = [⟨3, s.le, 0, 0, s.hy, [61]⟩, ⟨1, s.le * ((qW u).length : Int), 0, 0, 0, u⟩] := by unfold j4; rw [if_neg hk0]; rfl
    have hnxt : L1 ++ qR s l (k + 1) = (M ++ [⟨3, s.le, 0, 0, s.hy, [61]⟩]) ++ [⟨1, s.le * ((qW u).length : Int), 0, 0, 0, u⟩] := by rw [hsk, hpi, hM]; simp
    have hln : M.length + 1 + 1 = (L1 ++ qR s l (k + 1)).length := by rw [hnxt]; simp
    have hfin0 := fit ⟨3, s.le, 0, 0, s.hy, [61]⟩
    obtain ⟨M2, hM2⟩ : ∃ M2, M2 = M ++ [(⟨3, s.le, 0, 0, s.hy, [61]⟩ : It)] := ⟨_, rfl⟩
    have hl2 : M2.length = M.length + 1 := by rw [hM2]; simp
    rw [← hM2] at hfin0 hnxt
    have fc2 : (qB M2).length = (M.length + 1) * 6 := by rw [zc, hl2]
    have ft2 : List.take ((M.length + 1) * 6) (qB M2) = qB M2 := by rw [← hl2]; exact zt M2
    have hfin : qB M2 ++ [AV.int .i64 1, .int .i64 (s.le * ((qW u).length : Int)), .int .i64 0, .int .i64 0, .int .i64 0, .str u] = qB (M2 ++ [⟨1, s.le * ((qW u).length : Int), 0, 0, 0, u⟩]) := zn M2 ⟨1, s.le * ((qW u).length : Int), 0, 0, 0, u⟩
    simp only at hfin0
    simp (disch := omega) only [qv, List.foldl, List.replicate, qE, zl, eu, k7, j8', j10', qD, fc, ft, hfin0, fc2, ft2, go_sem, qc, dvP, mdP]
    repeat' first
     | ((first | refine qj (qa4 _) ?_ ?_); (next => exact flk); simp (disch := omega) only [qE, zl, eu, k7, j8', j10', qD, fc, ft, hfin0, fc2, ft2, go_sem, qc, dvP, mdP])
     | ((first | refine qo (fun _ => qa4 _) ?_ ?_); (next => exact flk); simp (disch := omega) only [qE, zl, eu, k7, j8', j10', qD, fc, ft, hfin0, fc2, ft2, go_sem, qc, dvP, mdP])
     | ((first | refine qk (fun e => ⟨?_, qa4 _⟩) ?_); (next => exact flk); simp (disch := omega) only [qE, zl, eu, k7, j8', j10', qD, fc, ft, hfin0, fc2, ft2, go_sem, qc, dvP, mdP])
     | ((first | refine qe ?_ ?_ | refine qg ?_ ?_); (next => exact rvk); simp only [go_sem]; (first | exact VLe.refl _ | refine qh ?_ | refine qd ?_ | refine ql ?_ | skip))
     | with_reducible first | refine And.intro ?_ ?_ | intro _
    all_goals try exact clz
    rw [hfin, hln, ← hnxt]
    refine hK2 _ _ (k + 1, v2 + 1 + 1, .mem (qz (some P8) + 1) 58 [.int .i64 3, .int .i64 s.le, .int .i64 0, .int .i64 0, .int .i64 s.hy, .str [61]], .mem (qz (some P10) + 1) 58 [.int .i64 1, .int .i64 (s.le * ((qW u).length : Int)), .int .i64 0, .int .i64 0, .int .i64 0, .str u]) ⟨by simp only; omega, rfl, rfl⟩ (by simp only; omega) (Wk.temps ?_)
    (simp only [qu, qE, qv, List.foldl, List.replicate, go_sem, qr, qp, qm, qq]; try (repeat' first | (with_reducible refine And.intro ?_ ?_) | (refine qh ?_; omega) | (refine qd ?_; rfl) | exact VLe.refl _))
  ·have e : k = l.length := by omega
   have hfn : M = jf s ps ws (i + 1) := by rw [hM, e, hsu, hwi, hL1, List.append_assoc]
   rw [hfn]
   simp (disch := omega) only [qv, List.foldl, List.replicate, qE, go_sem, qc, dvP, mdP]
   repeat' first
    | ((first | refine qe ?_ ?_ | refine qg ?_ ?_); (next => exact rvk); simp only [go_sem]; (first | exact VLe.refl _ | refine qh ?_ | refine qd ?_ | refine ql ?_ | skip))
    | with_reducible first | refine And.intro ?_ ?_ | intro _
   all_goals try exact clz
   refine hK _ _ (i + 1, v2, .mem (qz (some O3) + 1) 33 [.str w.text, .int .i64 w.col, .int .i64 w.unit, .int .i64 w.dec, .bool w.joined, .bool true, .str w.name], .mem (qz (some O4) + 1) 58 [.int .i64 3, .int .i64 0, .int .i64 0, .int .i64 0, .int .i64 (-10000), .str []], O6, P8, P10) ⟨by simp only; omega, rfl, rfl, i6, j8, j10⟩ (by simp only; omega) (Wk.temps ?_)
   (simp only [qu, qE, qv, List.foldl, List.replicate, go_sem, qr, qp, qm, qq]; try (repeat' first | (with_reducible refine And.intro ?_ ?_) | (refine qh ?_; omega) | (refine qd ?_; rfl) | exact VLe.refl _))
 | false =>
 cases g7 : w.joined with
 | true =>
  have hsp : qep s i w = [] := by unfold qep; rw [if_neg g5, if_neg (by rw [g6]; simp), if_pos g7]
  obtain ⟨L1, hL1⟩ : ∃ L1, L1 = L ++ qep s i w := ⟨_, rfl⟩
  have hl1 : L1.length ≤ 200 * i + 1 := by rw [hL1, List.length_append]; have := qbw s i w; omega
  simp (disch := omega) only [qv, List.foldl, List.replicate, qu, zV, ewd, zl, qE, k1, g6, g7, i3', i4', i6', qD, ec, et, go_sem, qc, dvP, mdP]
  repeat' first
   | ((first | refine qj (qeF _) ?_ ?_); (next => exact flk); simp (disch := omega) only [zV, zl, qE, k1, g6, g7, i3', i4', i6', qD, ec, et, go_sem, qc, dvP, mdP])
   | ((first | refine qo (fun _ => qeF _) ?_ ?_); (next => exact flk); simp (disch := omega) only [zV, zl, qE, k1, g6, g7, i3', i4', i6', qD, ec, et, go_sem, qc, dvP, mdP])
   | ((first | refine qk (fun e => ⟨?_, qeF _⟩) ?_); (next => exact flk); simp (disch := omega) only [zV, zl, qE, k1, g6, g7, i3', i4', i6', qD, ec, et, go_sem, qc, dvP, mdP])
   | ((first | refine qe ?_ ?_ | refine qg ?_ ?_); (next => exact rvk); simp only [go_sem]; (first | exact VLe.refl _ | refine qh ?_ | refine qd ?_ | refine ql ?_ | skip))
   | with_reducible first | refine And.intro ?_ ?_ | intro _
  all_goals try exact clz
  rw [show L = L1 by rw [hL1, hsp, List.append_nil]]
  rw [show qB L1 = qB (L1 ++ qR s l 0) by rw [zE, List.append_nil], show L1.length = (L1 ++ qR s l 0).length by rw [zE, List.append_nil]]
  refine qJ (T := fun k : Nat × Nat × AObj × AObj => qv 132 [(1, qA ps), (3, .op h.length 1 0), (8, .osl (h.length + 2) k.2.1 6 0 (L1 ++ qR s l k.1).length), (57, qu ws), (58, .int .i64 ws.length), (59, .int .i64 i), (98, qE l), (99, .int .i64 l.length), (100, .int .i64 k.1)])
   (H := fun k => h ++ [.mem 1 25 (zl s x), .emp 1, kl k.2.1 58 (qB (L1 ++ qR s l k.1)), .mem (qz (some O3) + 1) 33 [.str w.text, .int .i64 w.col, .int .i64 w.unit, .int .i64 w.dec, .bool true, .bool false, .str w.name], O4, .emp 0, O6, .emp 0, k.2.2.1, .emp 0, k.2.2.2, .emp 0])
   (inv := fun k => k.1 ≤ l.length ∧ q9 [k.2.2.1] 0 = true ∧ q9 [k.2.2.2] 0 = true) (m := fun k => l.length - k.1) (0, v, O8, O10) ⟨by simp, i8, i10⟩ (Wk.temps ?_) ?_
  ·(simp only [qu, qE, qv, List.foldl, List.replicate, go_sem, qr, qp, qm, qq]; try (repeat' first | (with_reducible refine And.intro ?_ ?_) | (refine qh ?_; omega) | (refine qd ?_; rfl) | exact VLe.refl _))
  rintro ⟨k, v2, P8, P10⟩ ⟨j1, j8, j10⟩ K2 hK2
  simp only at j1 j8 j10 hK2
  have j8' : ∀ m, q9 (P8 :: m) 0 = true := fun _ => j8
  have j10' : ∀ m, q9 (P10 :: m) 0 = true := fun _ => j10
  have hpk := kD s l k
  obtain ⟨M, hM⟩ : ∃ M, M = L1 ++ qR s l k := ⟨_, rfl⟩
  have hml : M.length ≤ 200 * i + 1 + 2 * k := by rw [hM, List.length_append]; omega
  rw [← hM]
  have fc := zc M
  have ft := zt M
  have fit : ∀ y : It, qB M ++ [AV.int .i64 y.kind, .int .i64 y.width, .int .i64 y.stretch, .int .i64 y.shrink, .int .i64 y.penalty, .str y.text] = qB (M ++ [y]) := fun y => zn M y
  by_cases hk : k < l.length
  ·have hsk := jc s l k
   have hpk2 := hprt k
   obtain ⟨u, hu⟩ : ∃ u, u = l.getD k [] := ⟨_, rfl⟩
   have eu := hu.symm
   rw [eu] at hsk hpk2
   have hcu := jj u
   have qa4 := fun h => t67 u h (by omega)
   obtain ⟨m1, m2⟩ := qbm (n := (qW u).length) b1 b2 (by omega)
   by_cases hk0 : k = 0
   ·have k7 : (0 < (k : Int)) = False := eq_false (by omega)
    have hpi : j4 s k u = [⟨1, s.le * ((qW u).length : Int), 0, 0, 0, u⟩] := by unfold j4; rw [if_pos hk0]; rfl
    have hnxt : L1 ++ qR s l (k + 1) = M ++ [⟨1, s.le * ((qW u).length : Int), 0, 0, 0, u⟩] := by rw [hsk, hpi, hM, List.append_assoc]
    have hln : M.length + 1 = (L1 ++ qR s l (k + 1)).length := by rw [hnxt]; simp
    have hfin := fit ⟨1, s.le * ((qW u).length : Int), 0, 0, 0, u⟩
    simp only at hfin
    simp (disch := omega) only [qv, List.foldl, List.replicate, qE, zl, eu, k7, j8', j10', qD, fc, ft, go_sem, qc, dvP, mdP]
    repeat' first
     | ((first | refine qj (qa4 _) ?_ ?_); (next => exact flk); simp (disch := omega) only [qE, zl, eu, k7, j8', j10', qD, fc, ft, go_sem, qc, dvP, mdP])
     | ((first | refine qo (fun _ => qa4 _) ?_ ?_); (next => exact flk); simp (disch := omega) only [qE, zl, eu, k7, j8', j10', qD, fc, ft, go_sem, qc, dvP, mdP])
     | ((first | refine qk (fun e => ⟨?_, qa4 _⟩) ?_); (next => exact flk); simp (disch := omega) only [qE, zl, eu, k7, j8', j10', qD, fc, ft, go_sem, qc, dvP, mdP])
     | ((first | refine qe ?_ ?_ | refine qg ?_ ?_); (next => exact rvk); simp only [go_sem]; (first | exact VLe.refl _ | refine qh ?_ | refine qd ?_ | refine ql ?_ | skip))
     | with_reducible first | refine And.intro ?_ ?_ | intro _
    all_goals try exact clz
    rw [hfin, hln, ← hnxt]
    refine hK2 _ _ (k + 1, v2 + 1, P8, .mem (qz (some P10) + 1) 58 [.int .i64 1, .int .i64 (s.le * ((qW u).length : Int)), .int .i64 0, .int .i64 0, .int .i64 0, .str u]) ⟨by simp only; omega, j8, rfl⟩ (by simp only; omega) (Wk.temps ?_)
    (simp only [qu, qE, qv, List.foldl, List.replicate, go_sem, qr, qp, qm, qq]; try (repeat' first | (with_reducible refine And.intro ?_ ?_) | (refine qh ?_; omega) | (refine qd ?_; rfl) | exact VLe.refl _))
   ·have k7 : (0 < (k : Int)) = True := eq_true (by omega)
    have hpi : j4 s k u = [⟨3, s.le, 0, 0, s.hy, [61]⟩, ⟨1, s.le * ((qW u).length : Int), 0, 0, 0, u⟩] := by unfold j4; rw [if_neg hk0]; rfl
    have hnxt : L1 ++ qR s l (k + 1) = (M ++ [⟨3, s.le, 0, 0, s.hy, [61]⟩]) ++ [⟨1, s.le * ((qW u).length : Int), 0, 0, 0, u⟩] := by rw [hsk, hpi, hM]; simp
    have hln : M.length + 1 + 1 = (L1 ++ qR s l (k + 1)).length := by rw [hnxt]; simp
    have hfin0 := fit ⟨3, s.le, 0, 0, s.hy, [61]⟩
    obtain ⟨M2, hM2⟩ : ∃ M2, M2 = M ++ [(⟨3, s.le, 0, 0, s.hy, [61]⟩ : It)] := ⟨_, rfl⟩
    have hl2 : M2.length = M.length + 1 := by rw [hM2]; simp
    rw [← hM2] at hfin0 hnxt
    have fc2 : (qB M2).length = (M.length + 1) * 6 := by rw [zc, hl2]
    have ft2 : List.take ((M.length + 1) * 6) (qB M2) = qB M2 := by rw [← hl2]; exact zt M2
    have hfin : qB M2 ++ [AV.int .i64 1, .int .i64 (s.le * ((qW u).length : Int)), .int .i64 0, .int .i64 0, .int .i64 0, .str u] = qB (M2 ++ [⟨1, s.le * ((qW u).length : Int), 0, 0, 0, u⟩]) := zn M2 ⟨1, s.le * ((qW u).length : Int), 0, 0, 0, u⟩
    simp only at hfin0
    simp (disch := omega) only [qv, List.foldl, List.replicate, qE, zl, eu, k7, j8', j10', qD, fc, ft, hfin0, fc2, ft2, go_sem, qc, dvP, mdP]
    repeat' first
     | ((first | refine qj (qa4 _) ?_ ?_); (next => exact flk); simp (disch := omega) only [qE, zl, eu, k7, j8', j10', qD, fc, ft, hfin0, fc2, ft2, go_sem, qc, dvP, mdP])
     | ((first | refine qo (fun _ => qa4 _) ?_ ?_); (next => exact flk); simp (disch := omega) only [qE, zl, eu, k7, j8', j10', qD, fc, ft, hfin0, fc2, ft2, go_sem, qc, dvP, mdP])
     | ((first | refine qk (fun e => ⟨?_, qa4 _⟩) ?_); (next => exact flk); simp (disch := omega) only [qE, zl, eu, k7, j8', j10', qD, fc, ft, hfin0, fc2, ft2, go_sem, qc, dvP, mdP])
     | ((first | refine qe ?_ ?_ | refine qg ?_ ?_); (next => exact rvk); simp only [go_sem]; (first | exact VLe.refl _ | refine qh ?_ | refine qd ?_ | refine ql ?_ | skip))
     | with_reducible first | refine And.intro ?_ ?_ | intro _
    all_goals try exact clz
    rw [hfin, hln, ← hnxt]
    refine hK2 _ _ (k + 1, v2 + 1 + 1, .mem (qz (some P8) + 1) 58 [.int .i64 3, .int .i64 s.le, .int .i64 0, .int .i64 0, .int .i64 s.hy, .str [61]], .mem (qz (some P10) + 1) 58 [.int .i64 1, .int .i64 (s.le * ((qW u).length : Int)), .int .i64 0, .int .i64 0, .int .i64 0, .str u]) ⟨by simp only; omega, rfl, rfl⟩ (by simp only; omega) (Wk.temps ?_)
    (simp only [qu, qE, qv, List.foldl, List.replicate, go_sem, qr, qp, qm, qq]; try (repeat' first | (with_reducible refine And.intro ?_ ?_) | (refine qh ?_; omega) | (refine qd ?_; rfl) | exact VLe.refl _))
  ·have e : k = l.length := by omega
   have hfn : M = jf s ps ws (i + 1) := by rw [hM, e, hsu, hwi, hL1, List.append_assoc]
   rw [hfn]
   simp (disch := omega) only [qv, List.foldl, List.replicate, qE, go_sem, qc, dvP, mdP]
   repeat' first
    | ((first | refine qe ?_ ?_ | refine qg ?_ ?_); (next => exact rvk); simp only [go_sem]; (first | exact VLe.refl _ | refine qh ?_ | refine qd ?_ | refine ql ?_ | skip))
    | with_reducible first | refine And.intro ?_ ?_ | intro _
   all_goals try exact clz
   refine hK _ _ (i + 1, v2, .mem (qz (some O3) + 1) 33 [.str w.text, .int .i64 w.col, .int .i64 w.unit, .int .i64 w.dec, .bool true, .bool false, .str w.name], O4, O6, P8, P10) ⟨by simp only; omega, rfl, i4, i6, j8, j10⟩ (by simp only; omega) (Wk.temps ?_)
   (simp only [qu, qE, qv, List.foldl, List.replicate, go_sem, qr, qp, qm, qq]; try (repeat' first | (with_reducible refine And.intro ?_ ?_) | (refine qh ?_; omega) | (refine qd ?_; rfl) | exact VLe.refl _))
 | false =>
  have hsp : qep s i w = [⟨2, s.sp, s.st, s.sh, 0, []⟩] := by unfold qep; rw [if_neg g5, if_neg (by rw [g6]; simp), if_neg (by rw [g7]; simp)]
  have hfin := hit ⟨2, s.sp, s.st, s.sh, 0, []⟩
  simp only at hfin
  obtain ⟨L1, hL1⟩ : ∃ L1, L1 = L ++ qep s i w := ⟨_, rfl⟩
  have hl1 : L1.length ≤ 200 * i + 1 := by rw [hL1, List.length_append]; have := qbw s i w; omega
  simp (disch := omega) only [qv, List.foldl, List.replicate, qu, zV, ewd, zl, qE, k1, g6, g7, hfin, i3', i4', i6', qD, ec, et, go_sem, qc, dvP, mdP]
  repeat' first
   | ((first | refine qj (qeF _) ?_ ?_); (next => exact flk); simp (disch := omega) only [zV, zl, qE, k1, g6, g7, hfin, i3', i4', i6', qD, ec, et, go_sem, qc, dvP, mdP])
   | ((first | refine qo (fun _ => qeF _) ?_ ?_); (next => exact flk); simp (disch := omega) only [zV, zl, qE, k1, g6, g7, hfin, i3', i4', i6', qD, ec, et, go_sem, qc, dvP, mdP])
   | ((first | refine qk (fun e => ⟨?_, qeF _⟩) ?_); (next => exact flk); simp (disch := omega) only [zV, zl, qE, k1, g6, g7, hfin, i3', i4', i6', qD, ec, et, go_sem, qc, dvP, mdP])
   | ((first | refine qe ?_ ?_ | refine qg ?_ ?_); (next => exact rvk); simp only [go_sem]; (first | exact VLe.refl _ | refine qh ?_ | refine qd ?_ | refine ql ?_ | skip))
   | with_reducible first | refine And.intro ?_ ?_ | intro _
  all_goals try exact clz
  rw [show L ++ [(⟨2, s.sp, s.st, s.sh, 0, []⟩ : It)] = L1 by rw [hL1, hsp], show L.length + 1 = L1.length by rw [hL1, hsp]; simp]
  rw [show qB L1 = qB (L1 ++ qR s l 0) by rw [zE, List.append_nil], show L1.length = (L1 ++ qR s l 0).length by rw [zE, List.append_nil]]
  refine qJ (T := fun k : Nat × Nat × AObj × AObj => qv 132 [(1, qA ps), (3, .op h.length 1 0), (8, .osl (h.length + 2) k.2.1 6 0 (L1 ++ qR s l k.1).length), (57, qu ws), (58, .int .i64 ws.length), (59, .int .i64 i), (98, qE l), (99, .int .i64 l.length), (100, .int .i64 k.1)])
   (H := fun k => h ++ [.mem 1 25 (zl s x), .emp 1, kl k.2.1 58 (qB (L1 ++ qR s l k.1)), .mem (qz (some O3) + 1) 33 [.str w.text, .int .i64 w.col, .int .i64 w.unit, .int .i64 w.dec, .bool false, .bool false, .str w.name], O4, .emp 0, .mem (qz (some O6) + 1) 58 [.int .i64 2, .int .i64 s.sp, .int .i64 s.st, .int .i64 s.sh, .int .i64 0, .str []], .emp 0, k.2.2.1, .emp 0, k.2.2.2, .emp 0])
   (inv := fun k => k.1 ≤ l.length ∧ q9 [k.2.2.1] 0 = true ∧ q9 [k.2.2.2] 0 = true) (m := fun k => l.length - k.1) (0, v + 1, O8, O10) ⟨by simp, i8, i10⟩ (Wk.temps ?_) ?_
  ·(simp only [qu, qE, qv, List.foldl, List.replicate, go_sem, qr, qp, qm, qq]; try (repeat' first | (with_reducible refine And.intro ?_ ?_) | (refine qh ?_; omega) | (refine qd ?_; rfl) | exact VLe.refl _))
  rintro ⟨k, v2, P8, P10⟩ ⟨j1, j8, j10⟩ K2 hK2
  simp only at j1 j8 j10 hK2
  have j8' : ∀ m, q9 (P8 :: m) 0 = true := fun _ => j8
  have j10' : ∀ m, q9 (P10 :: m) 0 = true := fun _ => j10
  have hpk := kD s l k
  obtain ⟨M, hM⟩ : ∃ M, M = L1 ++ qR s l k := ⟨_, rfl⟩
  have hml : M.length ≤ 200 * i + 1 + 2 * k := by rw [hM, List.length_append]; omega
  rw [← hM]
  have fc := zc M
  have ft := zt M
  have fit : ∀ y : It, qB M ++ [AV.int .i64 y.kind, .int .i64 y.width, .int .i64 y.stretch, .int .i64 y.shrink, .int .i64 y.penalty, .str y.text] = qB (M ++ [y]) := fun y => zn M y
  by_cases hk : k < l.length
  ·have hsk := jc s l k
   have hpk2 := hprt k
   obtain ⟨u, hu⟩ : ∃ u, u = l.getD k [] := ⟨_, rfl⟩
   have eu := hu.symm
   rw [eu] at hsk hpk2
   have hcu := jj u
   have qa4 := fun h => t67 u h (by omega)
   obtain ⟨m1, m2⟩ := qbm (n := (qW u).length) b1 b2 (by omega)
   by_cases hk0 : k = 0
   ·have k7 : (0 < (k : Int)) = False := eq_false (by omega)
    have hpi : j4 s k u = [⟨1, s.le * ((qW u).length : Int), 0, 0, 0, u⟩] := by unfold j4; rw [if_pos hk0]; rfl
    have hnxt : L1 ++ qR s l (k + 1) = M ++ [⟨1, s.le * ((qW u).length : Int), 0, 0, 0, u⟩] := by rw [hsk, hpi, hM, List.append_assoc]
    have hln : M.length + 1 = (L1 ++ qR s l (k + 1)).length := by rw [hnxt]; simp
    have hfin := fit ⟨1, s.le * ((qW u).length : Int), 0, 0, 0, u⟩
    simp only at hfin
    simp (disch := omega) only [qv, List.foldl, List.replicate, qE, zl, eu, k7, j8', j10', qD, fc, ft, go_sem, qc, dvP, mdP]
    repeat' first
     | ((first | refine qj (qa4 _) ?_ ?_); (next => exact flk); simp (disch := omega) only [qE, zl, eu, k7, j8', j10', qD, fc, ft, go_sem, qc, dvP, mdP])
     | ((first | refine qo (fun _ => qa4 _) ?_ ?_); (next => exact flk); simp (disch := omega) only [qE, zl, eu, k7, j8', j10', qD, fc, ft, go_sem, qc, dvP, mdP])
     | ((first | refine qk (fun e => ⟨?_, qa4 _⟩) ?_); (next => exact flk); simp (disch := omega) only [qE, zl, eu, k7, j8', j10', qD, fc, ft, go_sem, qc, dvP, mdP])
     | ((first | refine qe ?_ ?_ | refine qg ?_ ?_); (next => exact rvk); simp only [go_sem]; (first | exact VLe.refl _ | refine qh ?_ | refine qd ?_ | refine ql ?_ | skip))
     | with_reducible first | refine And.intro ?_ ?_ | intro _
    all_goals try exact clz
    rw [hfin, hln, ← hnxt]
    refine hK2 _ _ (k + 1, v2 + 1, P8, .mem (qz (some P10) + 1) 58 [.int .i64 1, .int .i64 (s.le * ((qW u).length : Int)), .int .i64 0, .int .i64 0, .int .i64 0, .str u]) ⟨by simp only; omega, j8, rfl⟩ (by simp only; omega) (Wk.temps ?_)
    (simp only [qu, qE, qv, List.foldl, List.replicate, go_sem, qr, qp, qm, qq]; try (repeat' first | (with_reducible refine And.intro ?_ ?_) | (refine qh ?_; omega) | (refine qd ?_; rfl) | exact VLe.refl _))
   ·have k7 : (0 < (k : Int)) = True := eq_true (by omega)
    have hpi : j4 s k u = [⟨3, s.le, 0, 0, s.hy, [61]⟩, ⟨1, s.le * ((qW u).length : Int), 0, 0, 0, u⟩] := by unfold j4; rw [if_neg hk0]; rfl
    have hnxt : L1 ++ qR s l (k + 1) = (M ++ [⟨3, s.le, 0, 0, s.hy, [61]⟩]) ++ [⟨1, s.le * ((qW u).length : Int), 0, 0, 0, u⟩] := by rw [hsk, hpi, hM]; simp
    have hln : M.length + 1 + 1 = (L1 ++ qR s l (k + 1)).length := by rw [hnxt]; simp
    have hfin0 := fit ⟨3, s.le, 0, 0, s.hy, [61]⟩
    obtain ⟨M2, hM2⟩ : ∃ M2, M2 = M ++ [(⟨3, s.le, 0, 0, s.hy, [61]⟩ : It)] := ⟨_, rfl⟩
    have hl2 : M2.length = M.length + 1 := by rw [hM2]; simp
    rw [← hM2] at hfin0 hnxt
    have fc2 : (qB M2).length = (M.length + 1) * 6 := by rw [zc, hl2]
    have ft2 : List.take ((M.length + 1) * 6) (qB M2) = qB M2 := by rw [← hl2]; exact zt M2
    have hfin : qB M2 ++ [AV.int .i64 1, .int .i64 (s.le * ((qW u).length : Int)), .int .i64 0, .int .i64 0, .int .i64 0, .str u] = qB (M2 ++ [⟨1, s.le * ((qW u).length : Int), 0, 0, 0, u⟩]) := zn M2 ⟨1, s.le * ((qW u).length : Int), 0, 0, 0, u⟩
    simp only at hfin0
    simp (disch := omega) only [qv, List.foldl, List.replicate, qE, zl, eu, k7, j8', j10', qD, fc, ft, hfin0, fc2, ft2, go_sem, qc, dvP, mdP]
    repeat' first
     | ((first | refine qj (qa4 _) ?_ ?_); (next => exact flk); simp (disch := omega) only [qE, zl, eu, k7, j8', j10', qD, fc, ft, hfin0, fc2, ft2, go_sem, qc, dvP, mdP])
     | ((first | refine qo (fun _ => qa4 _) ?_ ?_); (next => exact flk); simp (disch := omega) only [qE, zl, eu, k7, j8', j10', qD, fc, ft, hfin0, fc2, ft2, go_sem, qc, dvP, mdP])
     | ((first | refine qk (fun e => ⟨?_, qa4 _⟩) ?_); (next => exact flk); simp (disch := omega) only [qE, zl, eu, k7, j8', j10', qD, fc, ft, hfin0, fc2, ft2, go_sem, qc, dvP, mdP])
     | ((first | refine qe ?_ ?_ | refine qg ?_ ?_); (next => exact rvk); simp only [go_sem]; (first | exact VLe.refl _ | refine qh ?_ | refine qd ?_ | refine ql ?_ | skip))
     | with_reducible first | refine And.intro ?_ ?_ | intro _
    all_goals try exact clz
    rw [hfin, hln, ← hnxt]
    refine hK2 _ _ (k + 1, v2 + 1 + 1, .mem (qz (some P8) + 1) 58 [.int .i64 3, .int .i64 s.le, .int .i64 0, .int .i64 0, .int .i64 s.hy, .str [61]], .mem (qz (some P10) + 1) 58 [.int .i64 1, .int .i64 (s.le * ((qW u).length : Int)), .int .i64 0, .int .i64 0, .int .i64 0, .str u]) ⟨by simp only; omega, rfl, rfl⟩ (by simp only; omega) (Wk.temps ?_)
    (simp only [qu, qE, qv, List.foldl, List.replicate, go_sem, qr, qp, qm, qq]; try (repeat' first | (with_reducible refine And.intro ?_ ?_) | (refine qh ?_; omega) | (refine qd ?_; rfl) | exact VLe.refl _))
  ·have e : k = l.length := by omega
   have hfn : M = jf s ps ws (i + 1) := by rw [hM, e, hsu, hwi, hL1, List.append_assoc]
   rw [hfn]
   simp (disch := omega) only [qv, List.foldl, List.replicate, qE, go_sem, qc, dvP, mdP]
   repeat' first
    | ((first | refine qe ?_ ?_ | refine qg ?_ ?_); (next => exact rvk); simp only [go_sem]; (first | exact VLe.refl _ | refine qh ?_ | refine qd ?_ | refine ql ?_ | skip))
    | with_reducible first | refine And.intro ?_ ?_ | intro _
   all_goals try exact clz
   refine hK _ _ (i + 1, v2, .mem (qz (some O3) + 1) 33 [.str w.text, .int .i64 w.col, .int .i64 w.unit, .int .i64 w.dec, .bool false, .bool false, .str w.name], O4, .mem (qz (some O6) + 1) 58 [.int .i64 2, .int .i64 s.sp, .int .i64 s.st, .int .i64 s.sh, .int .i64 0, .str []], P8, P10) ⟨by simp only; omega, rfl, i4, rfl, j8, j10⟩ (by simp only; omega) (Wk.temps ?_)
   (simp only [qu, qE, qv, List.foldl, List.replicate, go_sem, qr, qp, qm, qq]; try (repeat' first | (with_reducible refine And.intro ?_ ?_) | (refine qh ?_; omega) | (refine qd ?_; rfl) | exact VLe.refl _))
end HY
end
section
open Go Go.Proofs AF HY P48
namespace LN
set_option maxRecDepth 100000
theorem qul (ls : List P48.Line) : quk ls = qC (ls.map qcX) := by
 unfold quk qC
 rw [List.length_map]
 congr 1
 funext i
 have e : (ls.map qcX).getD i default = qcX (ls.getD i default) := by
  rw [List.getD_eq_getElem?_getD, List.getD_eq_getElem?_getD, List.getElem?_map]
  cases ls[i]? <;> rfl
 rw [e]
 rfl
theorem qka (l : List It) (W : Int) (p : List Int) : ∀ n frm, (qaC l W p n frm).length ≤ n := by
 intro n
 induction n with
 | zero => intro frm; simp [qaC]
 | succ n ih =>
  intro frm
  rw [qaC]
  split
  ·simp
  ·split
   ·rw [List.length_cons]
    exact Nat.succ_le_succ (ih _)
   ·simp
def qsF (w : Wd) : Bool := decide (16 < w.text.length) || decide (20 < w.name.length)
def qp6 (p : Pat) : Bool := decide (8 < p.letters.length) || decide (10 < p.levels.length)
theorem s49 (w : Wd) (h : List AObj) : qs Tryz.prog 49 [.agg (zV w)] h (.bool (qsF w)) h := by
 unfold qsF
 refine qn qv8 (by simp) ?_
 simp only [lcP, lnP, Nat.reduceAdd, Nat.reduceSub, List.replicate, caP, naP, List.append_nil]
 simp (disch := omega) only [qxi, zV, go_sem, qc, dvP, mdP]
 repeat' first
  | ((first | refine qe ?_ ?_ | refine qg ?_ ?_); (next => exact rvk); simp only [go_sem]; (first | exact VLe.refl _ | refine qh ?_ | refine qd ?_ | refine ql ?_ | skip))
  | with_reducible first | refine And.intro ?_ ?_ | intro _
 all_goals try exact clz
 all_goals (rw [Bool.eq_iff_iff]; simp only [Bool.or_eq_true, Bool.and_eq_true, decide_eq_true_eq]; omega)
theorem s50 (p : Pat) (h : List AObj) : qs Tryz.prog 50 [.agg (qbr p)] h (.bool (qp6 p)) h := by
 unfold qp6
 refine qn qv9 (by simp) ?_
 simp only [lcP, lnP, Nat.reduceAdd, Nat.reduceSub, List.replicate, caP, naP, List.append_nil]
 simp (disch := omega) only [qxj, qbr, qw, go_sem, qc, dvP, mdP]
 repeat' first
  | ((first | refine qe ?_ ?_ | refine qg ?_ ?_); (next => exact rvk); simp only [go_sem]; (first | exact VLe.refl _ | refine qh ?_ | refine qd ?_ | refine ql ?_ | skip))
  | with_reducible first | refine And.intro ?_ ?_ | intro _
 all_goals try exact clz
 all_goals (rw [Bool.eq_iff_iff]; simp only [Bool.or_eq_true, Bool.and_eq_true, decide_eq_true_eq]; omega)
structure qnE (s : Sty) (W : Int) (ps : List Pat) (ws : List Wd) (l : List It) (ls : List P48.Line) : Prop where
 n8 : ws.length ≤ 8
 itE : jC s ps ws = 0
 itR : l = qcU s ps ws
 small : l.length ≤ 30
 txt : ∀ i, (it l i).text.length ≤ 66
 wOk : jq l W = 0
 brkOk : 0 ≤ (kI l W).getD 0 0
 lines : jL l W ((P48.brk l W).map Int.ofNat) = (ls, 0)
 n12 : ls.length ≤ 12
set_option maxHeartbeats 8000000 in
theorem s17 (s : Sty) (W : Int) (x : List AV) (ps : List Pat) (ws : List Wd) (h : List AObj) (hps : ps.length ≤ 9223372036854775807) (hws : ws.length ≤ 9223372036854775807) (hx : x.getD 0 .undef = .int .i64 W) :
  ∃ (A B : AV) (b : Bool), (A.flag = true ∧ A.strip = A ∧ B.flag = true ∧ B.strip = B) ∧ (∀ h, qs Tryz.prog 17 [.agg (zl s x), qA ps, qu ws] h (.tup [A, B, .bool b]) h) ∧ (b = true → ∃ l ls, A = qt l ∧ B = qC (ls.map qcX) ∧ qnE s W ps ws l ls) := by
 have neg : (∀ h, qs Tryz.prog 17 [.agg (zl s x), qA ps, qu ws] h (.tup [.nl, .nl, .bool false]) h) → ∃ (A B : AV) (b : Bool), (A.flag = true ∧ A.strip = A ∧ B.flag = true ∧ B.strip = B) ∧ (∀ h, qs Tryz.prog 17 [.agg (zl s x), qA ps, qu ws] h (.tup [A, B, .bool b]) h) ∧ (b = true → ∃ l ls, A = qt l ∧ B = qC (ls.map qcX) ∧ qnE s W ps ws l ls) :=
  fun hc => ⟨_, _, _, ⟨rfl, rfl, rfl, rfl⟩, hc, fun e => by cases e⟩
 by_cases g1 : 8 < ws.length
 ·have k1 : (8 < (ws.length : Int)) = True := eq_true (by omega)
  refine neg fun h => ?_
  refine qn qdj (by simp) ?_
  simp only [lcP, lnP, Nat.reduceAdd, Nat.reduceSub, List.replicate, caP, naP, List.append_nil]
  simp (disch := omega) only [qkf, zl, qA, qu, k1, hx, go_sem, qc, dvP, mdP]
  repeat' first
   | (refine zq ((.bool false)) ?_; simp (disch := omega) only [zl, qA, qu, k1, hx, go_sem, qc, dvP, mdP])
   | ((first | refine qe ?_ ?_ | refine qg ?_ ?_); (next => exact rvk); simp only [go_sem]; (first | exact VLe.refl _ | refine qh ?_ | refine qd ?_ | refine ql ?_ | skip))
   | with_reducible first | refine And.intro ?_ ?_ | intro _
  all_goals try exact clz
 have k1 : (8 < (ws.length : Int)) = False := eq_false (by omega)
 by_cases g2 : 12 < ps.length
 ·have k2 : (12 < (ps.length : Int)) = True := eq_true (by omega)
  refine neg fun h => ?_
  refine qn qdj (by simp) ?_
  simp only [lcP, lnP, Nat.reduceAdd, Nat.reduceSub, List.replicate, caP, naP, List.append_nil]
  simp (disch := omega) only [qkf, zl, qA, qu, k1, k2, hx, go_sem, qc, dvP, mdP]
  repeat' first
   | (refine zq ((.bool false)) ?_; simp (disch := omega) only [zl, qA, qu, k1, k2, hx, go_sem, qc, dvP, mdP])
   | ((first | refine qe ?_ ?_ | refine qg ?_ ?_); (next => exact rvk); simp only [go_sem]; (first | exact VLe.refl _ | refine qh ?_ | refine qd ?_ | refine ql ?_ | skip))
   | with_reducible first | refine And.intro ?_ ?_ | intro _
  all_goals try exact clz
 have k2 : (12 < (ps.length : Int)) = False := eq_false (by omega)
 have c7 := fun h => t59 ws qsF 49 h (by omega) s49
 have c22 := fun h => t61 ps qp6 50 h (by omega) (fun i h _ => s50 _ h)
 by_cases g3 : ws.any qsF = true
 ·rw [g3] at c7
  unfold qu at c7
  refine neg fun h => ?_
  refine qn qdj (by simp) ?_
  simp only [lcP, lnP, Nat.reduceAdd, Nat.reduceSub, List.replicate, caP, naP, List.append_nil]
  simp (disch := omega) only [qkf, zl, qA, qu, k1, k2, hx, go_sem, qc, dvP, mdP]
  repeat' first
   | (refine zq ((.bool false)) ?_; simp (disch := omega) only [zl, qA, qu, k1, k2, hx, go_sem, qc, dvP, mdP])
   | ((first | refine qj (c7 _) ?_ ?_); (next => exact flk); simp (disch := omega) only [zl, qA, qu, k1, k2, hx, go_sem, qc, dvP, mdP])
   | ((first | refine qo (fun _ => c7 _) ?_ ?_); (next => exact flk); simp (disch := omega) only [zl, qA, qu, k1, k2, hx, go_sem, qc, dvP, mdP])
   | ((first | refine qk (fun e => ⟨?_, c7 _⟩) ?_); (next => exact flk); simp (disch := omega) only [zl, qA, qu, k1, k2, hx, go_sem, qc, dvP, mdP])
   | ((first | refine qe ?_ ?_ | refine qg ?_ ?_); (next => exact rvk); simp only [go_sem]; (first | exact VLe.refl _ | refine qh ?_ | refine qd ?_ | refine ql ?_ | skip))
   | with_reducible first | refine And.intro ?_ ?_ | intro _
  all_goals try exact clz
 have g3' : ws.any qsF = false := by simpa using g3
 rw [g3'] at c7
 by_cases g4 : ps.any qp6 = true
 ·rw [g4] at c22
  unfold qu at c7
  unfold qA at c22
  refine neg fun h => ?_
  refine qn qdj (by simp) ?_
  simp only [lcP, lnP, Nat.reduceAdd, Nat.reduceSub, List.replicate, caP, naP, List.append_nil]
  simp (disch := omega) only [qkf, zl, qA, qu, k1, k2, hx, go_sem, qc, dvP, mdP]
  repeat' first
   | ((first | refine qj (c7 _) ?_ ?_ | refine qj (c22 _) ?_ ?_); (next => exact flk); simp (disch := omega) only [zl, qA, qu, k1, k2, hx, go_sem, qc, dvP, mdP])
   | ((first | refine qo (fun _ => c7 _) ?_ ?_ | refine qo (fun _ => c22 _) ?_ ?_); (next => exact flk); simp (disch := omega) only [zl, qA, qu, k1, k2, hx, go_sem, qc, dvP, mdP])
   | ((first | refine qk (fun e => ⟨?_, c7 _⟩) ?_ | refine qk (fun e => ⟨?_, c22 _⟩) ?_); (next => exact flk); simp (disch := omega) only [zl, qA, qu, k1, k2, hx, go_sem, qc, dvP, mdP])
   | ((first | refine qe ?_ ?_ | refine qg ?_ ?_); (next => exact rvk); simp only [go_sem]; (first | exact VLe.refl _ | refine qh ?_ | refine qd ?_ | refine ql ?_ | skip))
   | with_reducible first | refine And.intro ?_ ?_ | intro _
  all_goals try exact clz
 have g4' : ps.any qp6 = false := by simpa using g4
 rw [g4'] at c22
 have hok : qbp ps := by
  refine ⟨by omega, fun i hi => ?_⟩
  have hm : ps.getD i default ∈ ps := by rw [List.getD_eq_getElem?_getD, List.getElem?_eq_getElem hi]; exact List.getElem_mem hi
  have : qp6 (ps.getD i default) = false := by
   cases hb : qp6 (ps.getD i default) with
   | false => rfl
   | true => exact absurd (List.any_eq_true.2 ⟨_, hm, hb⟩) g4
  unfold qp6 at this
  simp only [Bool.or_eq_false_iff, decide_eq_false_iff_not] at this
  omega
 have c12 : ∀ h, qs Tryz.prog 12 [.agg (zl s x), qA ps, qu ws] h (.tup [qt (qcU s ps ws), .int .i64 (jC s ps ws)]) h := fun h => t32 s x ps ws h hok (by omega)
 obtain ⟨l, hl⟩ : ∃ l, l = qcU s ps ws := ⟨_, rfl⟩
 obtain ⟨e, he⟩ : ∃ e, e = jC s ps ws := ⟨_, rfl⟩
 rw [← hl, ← he] at c12
 have hst : zl s x = [.int .i64 W, x.getD 1 .undef, x.getD 2 .undef, x.getD 3 .undef, x.getD 4 .undef, .int .i64 s.sp, .int .i64 s.st, .int .i64 s.sh, .int .i64 s.le, .int .i64 s.hy, x.getD 5 .undef, x.getD 6 .undef, x.getD 7 .undef] := by unfold zl; rw [hx]
 by_cases g5 : e = 0
 ·have k5 : (e = 0) = True := eq_true g5
  have hchk : ja l = 0 := by
   rw [hl]
   unfold qcU
   rw [if_pos (by rw [← he]; exact g5)]
   have hE := he
   rw [g5] at hE
   unfold jC at hE
   split at hE
   ·cases hE
   ·split at hE
    ·cases hE
    ·split at hE
     ·cases hE
     ·split at hE
      ·cases hE
      ·rename_i hh; simpa using hh
  have hl4 : l.length ≤ 4096 := by
   unfold ja at hchk
   split at hchk
   ·cases hchk
   ·omega
  have c51 : ∀ h, qs Tryz.prog 51 [qt l, .nl] h (.bool (qb3 l [])) h := fun h => (t11 l [] h (by omega)).le (zG (VLe.refl _) (zG ku jN.nil)) (VLe.refl _)
  by_cases g6 : qb3 l [] = true
  ·rw [g6] at c51
   rw [hst] at c12
   unfold qu at c7 c12
   unfold qA at c22 c12
   refine neg fun h => ?_
   rw [hst]
   refine qn qdj (by simp) ?_
   simp only [lcP, lnP, Nat.reduceAdd, Nat.reduceSub, List.replicate, caP, naP, List.append_nil]
   simp (disch := omega) only [qkf, qA, qu, k1, k2, k5, go_sem, qc, dvP, mdP]
   repeat' first
    | ((first | refine qj (c7 _) ?_ ?_ | refine qj (c22 _) ?_ ?_ | refine qj (c12 _) ?_ ?_ | refine qj (c51 _) ?_ ?_); (next => exact flk); simp (disch := omega) only [qA, qu, k1, k2, k5, go_sem, qc, dvP, mdP])
    | ((first | refine qo (fun _ => c7 _) ?_ ?_ | refine qo (fun _ => c22 _) ?_ ?_ | refine qo (fun _ => c12 _) ?_ ?_ | refine qo (fun _ => c51 _) ?_ ?_); (next => exact flk); simp (disch := omega) only [qA, qu, k1, k2, k5, go_sem, qc, dvP, mdP])
    | ((first | refine qk (fun e => ⟨?_, c7 _⟩) ?_ | refine qk (fun e => ⟨?_, c22 _⟩) ?_ | refine qk (fun e => ⟨?_, c12 _⟩) ?_ | refine qk (fun e => ⟨?_, c51 _⟩) ?_); (next => exact flk); simp (disch := omega) only [qA, qu, k1, k2, k5, go_sem, qc, dvP, mdP])
    | ((first | refine qe ?_ ?_ | refine qg ?_ ?_); (next => exact rvk); simp only [go_sem]; (first | exact VLe.refl _ | refine qh ?_ | refine qd ?_ | refine ql ?_ | skip))
    | with_reducible first | refine And.intro ?_ ?_ | intro _
   all_goals try exact clz
  have g6' : qb3 l [] = false := by simpa using g6
  rw [g6'] at c51
  have hsm : l.length ≤ 30 ∧ ∀ i, (it l i).text.length ≤ 66 := by
   unfold qb3 at g6'
   simp only [Bool.or_eq_false_iff, decide_eq_false_iff_not] at g6'
   refine ⟨by omega, fun i => ?_⟩
   by_cases hi : i < l.length
   ·have := g6'.1
    apply Classical.byContradiction
    intro hc
    exact this ⟨i, hi, by omega⟩
   ·have : it l i = default := by unfold it; rw [List.getD_eq_getElem?_getD, List.getElem?_eq_none (by omega)]; rfl
    rw [this]
    exact Nat.zero_le _
  have c13 : ∀ h, qs Tryz.prog 13 [qt l, .int .i64 W] h (jh l W) h := fun h => _root_.t13 l W h (by omega)
  obtain ⟨bs, hbs⟩ : ∃ bs, bs = (P48.brk l W).map Int.ofNat := ⟨_, rfl⟩
  have hbr : (∃ c, c ≠ 0 ∧ jh l W = .tup [qw [], .int .i64 0, .int .i64 c]) ∨ (jq l W = 0 ∧ 0 ≤ (kI l W).getD 0 0 ∧ jh l W = .tup [qw bs, .int .i64 ((kI l W).getD 0 0), .int .i64 0]) := by
   unfold jh
   by_cases hw : jq l W = 0
   ·rw [if_pos hw]
    by_cases hp : (kI l W).getD 0 0 < 0
    ·rw [if_pos hp]; exact .inl ⟨23, by decide, rfl⟩
    ·rw [if_neg hp, hbs]; exact .inr ⟨hw, by omega, rfl⟩
   ·rw [if_neg hw]; exact .inl ⟨_, hw, rfl⟩
  rcases hbr with ⟨c, hc0, hb⟩ | ⟨hw, hp, hb⟩
  ·rw [hb] at c13
   have k6 : (c = 0) = False := eq_false hc0
   rw [hst] at c12
   unfold qu at c7 c12
   unfold qA at c22 c12
   refine neg fun h => ?_
   rw [hst]
   refine qn qdj (by simp) ?_
   simp only [lcP, lnP, Nat.reduceAdd, Nat.reduceSub, List.replicate, caP, naP, List.append_nil]
   simp (disch := omega) only [qkf, qA, qu, k1, k2, k5, k6, go_sem, qc, dvP, mdP]
   repeat' first
    | ((first | refine qj (c7 _) ?_ ?_ | refine qj (c22 _) ?_ ?_ | refine qj (c12 _) ?_ ?_ | refine qj (c51 _) ?_ ?_ | refine qj (c13 _) ?_ ?_); (next => exact flk); simp (disch := omega) only [qA, qu, k1, k2, k5, k6, go_sem, qc, dvP, mdP])
    | ((first | refine qo (fun _ => c7 _) ?_ ?_ | refine qo (fun _ => c22 _) ?_ ?_ | refine qo (fun _ => c12 _) ?_ ?_ | refine qo (fun _ => c51 _) ?_ ?_ | refine qo (fun _ => c13 _) ?_ ?_); (next => exact flk); simp (disch := omega) only [qA, qu, k1, k2, k5, k6, go_sem, qc, dvP, mdP])
    | ((first | refine qk (fun e => ⟨?_, c7 _⟩) ?_ | refine qk (fun e => ⟨?_, c22 _⟩) ?_ | refine qk (fun e => ⟨?_, c12 _⟩) ?_ | refine qk (fun e => ⟨?_, c51 _⟩) ?_ | refine qk (fun e => ⟨?_, c13 _⟩) ?_); (next => exact flk); simp (disch := omega) only [qA, qu, k1, k2, k5, k6, go_sem, qc, dvP, mdP])
    | ((first | refine qe ?_ ?_ | refine qg ?_ ?_); (next => exact rvk); simp only [go_sem]; (first | exact VLe.refl _ | refine qh ?_ | refine qd ?_ | refine ql ?_ | skip))
    | with_reducible first | refine And.intro ?_ ?_ | intro _
   all_goals try exact clz
  rw [hb] at c13
  obtain ⟨po, hpo⟩ : ∃ po, po = (kI l W).getD 0 0 := ⟨_, rfl⟩
  rw [← hpo] at c13
  have hbl : bs.length ≤ 1000000 := by
   rw [hbs, List.length_map]
   have := qka l W (kI l W) (l.length + 1) 0
   unfold P48.brk
   omega
  have c14 : ∀ h, qs Tryz.prog 14 [qt l, .int .i64 W, qw bs] h (.tup [qC ((jL l W bs).1.map qcX), .int .i64 (jL l W bs).2]) h := fun h => by
   rw [← qul]
   exact _root_.t16 l W bs h (by omega) hbl (fun i => by have := hsm.2 i; omega)
  obtain ⟨ls, hls⟩ : ∃ ls, ls = (jL l W bs).1 := ⟨_, rfl⟩
  obtain ⟨g, hg⟩ : ∃ g, g = (jL l W bs).2 := ⟨_, rfl⟩
  rw [← hls, ← hg] at c14
  have hlen : (ls.map qcX).length = ls.length := by simp
  refine ⟨qt l, qC (ls.map qcX), decide (g = 0) && decide (ls.length ≤ 12), ⟨rfl, rfl, rfl, rfl⟩, fun h => ?_, fun hb => ⟨l, ls, rfl, rfl, ?_⟩⟩
  ·rw [hst] at c12 ⊢
   unfold qu at c7 c12
   unfold qA at c22 c12
   by_cases k7 : g = 0
   ·have k7' : (g = 0) = True := eq_true k7
    rw [decide_eq_true k7, Bool.true_and]
    by_cases k8 : ls.length ≤ 12
    ·have k8' : ((ls.length : Int) ≤ 12) = True := eq_true (by omega)
     rw [decide_eq_true k8]
     refine qn qdj (by simp) ?_
     simp only [lcP, lnP, Nat.reduceAdd, Nat.reduceSub, List.replicate, caP, naP, List.append_nil]
     simp (disch := omega) only [qkf, qA, qu, qw, qC, hlen, k1, k2, k5, k7', k8', go_sem, qc, dvP, mdP]
     repeat' first
      | ((first | refine qj (c7 _) ?_ ?_ | refine qj (c22 _) ?_ ?_ | refine qj (c12 _) ?_ ?_ | refine qj (c51 _) ?_ ?_ | refine qj (c13 _) ?_ ?_ | refine qj (c14 _) ?_ ?_); (next => exact flk); simp (disch := omega) only [qA, qu, qw, qC, hlen, k1, k2, k5, k7', k8', go_sem, qc, dvP, mdP])
      | ((first | refine qo (fun _ => c7 _) ?_ ?_ | refine qo (fun _ => c22 _) ?_ ?_ | refine qo (fun _ => c12 _) ?_ ?_ | refine qo (fun _ => c51 _) ?_ ?_ | refine qo (fun _ => c13 _) ?_ ?_ | refine qo (fun _ => c14 _) ?_ ?_); (next => exact flk); simp (disch := omega) only [qA, qu, qw, qC, hlen, k1, k2, k5, k7', k8', go_sem, qc, dvP, mdP])
      | ((first | refine qk (fun e => ⟨?_, c7 _⟩) ?_ | refine qk (fun e => ⟨?_, c22 _⟩) ?_ | refine qk (fun e => ⟨?_, c12 _⟩) ?_ | refine qk (fun e => ⟨?_, c51 _⟩) ?_ | refine qk (fun e => ⟨?_, c13 _⟩) ?_ | refine qk (fun e => ⟨?_, c14 _⟩) ?_); (next => exact flk); simp (disch := omega) only [qA, qu, qw, qC, hlen, k1, k2, k5, k7', k8', go_sem, qc, dvP, mdP])
      | ((first | refine qe ?_ ?_ | refine qg ?_ ?_); (next => exact rvk); simp only [go_sem]; (first | exact VLe.refl _ | refine qh ?_ | refine qd ?_ | refine ql ?_ | skip))
      | with_reducible first | refine And.intro ?_ ?_ | intro _
     all_goals try exact clz
    ·have k8' : ((ls.length : Int) ≤ 12) = False := eq_false (by omega)
     rw [decide_eq_false k8]
     refine qn qdj (by simp) ?_
     simp only [lcP, lnP, Nat.reduceAdd, Nat.reduceSub, List.replicate, caP, naP, List.append_nil]
     simp (disch := omega) only [qkf, qA, qu, qw, qC, hlen, k1, k2, k5, k7', k8', go_sem, qc, dvP, mdP]
     repeat' first
      | ((first | refine qj (c7 _) ?_ ?_ | refine qj (c22 _) ?_ ?_ | refine qj (c12 _) ?_ ?_ | refine qj (c51 _) ?_ ?_ | refine qj (c13 _) ?_ ?_ | refine qj (c14 _) ?_ ?_); (next => exact flk); simp (disch := omega) only [qA, qu, qw, qC, hlen, k1, k2, k5, k7', k8', go_sem, qc, dvP, mdP])
      | ((first | refine qo (fun _ => c7 _) ?_ ?_ | refine qo (fun _ => c22 _) ?_ ?_ | refine qo (fun _ => c12 _) ?_ ?_ | refine qo (fun _ => c51 _) ?_ ?_ | refine qo (fun _ => c13 _) ?_ ?_ | refine qo (fun _ => c14 _) ?_ ?_); (next => exact flk); simp (disch := omega) only [qA, qu, qw, qC, hlen, k1, k2, k5, k7', k8', go_sem, qc, dvP, mdP])
      | ((first | refine qk (fun e => ⟨?_, c7 _⟩) ?_ | refine qk (fun e => ⟨?_, c22 _⟩) ?_ | refine qk (fun e => ⟨?_, c12 _⟩) ?_ | refine qk (fun e => ⟨?_, c51 _⟩) ?_ | refine qk (fun e => ⟨?_, c13 _⟩) ?_ | refine qk (fun e => ⟨?_, c14 _⟩) ?_); (next => exact flk); simp (disch := omega) only [qA, qu, qw, qC, hlen, k1, k2, k5, k7', k8', go_sem, qc, dvP, mdP])
      | ((first | refine qe ?_ ?_ | refine qg ?_ ?_); (next => exact rvk); simp only [go_sem]; (first | exact VLe.refl _ | refine qh ?_ | refine qd ?_ | refine ql ?_ | skip))
      | with_reducible first | refine And.intro ?_ ?_ | intro _
     all_goals try exact clz
   ·have k7' : (g = 0) = False := eq_false k7
    rw [decide_eq_false k7, Bool.false_and]
    refine qn qdj (by simp) ?_
    simp only [lcP, lnP, Nat.reduceAdd, Nat.reduceSub, List.replicate, caP, naP, List.append_nil]
    simp (disch := omega) only [qkf, qA, qu, qw, qC, hlen, k1, k2, k5, k7', go_sem, qc, dvP, mdP]
    repeat' first
     | ((first | refine qj (c7 _) ?_ ?_ | refine qj (c22 _) ?_ ?_ | refine qj (c12 _) ?_ ?_ | refine qj (c51 _) ?_ ?_ | refine qj (c13 _) ?_ ?_ | refine qj (c14 _) ?_ ?_); (next => exact flk); simp (disch := omega) only [qA, qu, qw, qC, hlen, k1, k2, k5, k7', go_sem, qc, dvP, mdP])
     | ((first | refine qo (fun _ => c7 _) ?_ ?_ | refine qo (fun _ => c22 _) ?_ ?_ | refine qo (fun _ => c12 _) ?_ ?_ | refine qo (fun _ => c51 _) ?_ ?_ | refine qo (fun _ => c13 _) ?_ ?_ | refine qo (fun _ => c14 _) ?_ ?_); (next => exact flk); simp (disch := omega) only [qA, qu, qw, qC, hlen, k1, k2, k5, k7', go_sem, qc, dvP, mdP])
     | ((first | refine qk (fun e => ⟨?_, c7 _⟩) ?_ | refine qk (fun e => ⟨?_, c22 _⟩) ?_ | refine qk (fun e => ⟨?_, c12 _⟩) ?_ | refine qk (fun e => ⟨?_, c51 _⟩) ?_ | refine qk (fun e => ⟨?_, c13 _⟩) ?_ | refine qk (fun e => ⟨?_, c14 _⟩) ?_); (next => exact flk); simp (disch := omega) only [qA, qu, qw, qC, hlen, k1, k2, k5, k7', go_sem, qc, dvP, mdP])
     | ((first | refine qe ?_ ?_ | refine qg ?_ ?_); (next => exact rvk); simp only [go_sem]; (first | exact VLe.refl _ | refine qh ?_ | refine qd ?_ | refine ql ?_ | skip))
     | with_reducible first | refine And.intro ?_ ?_ | intro _
    all_goals try exact clz
  ·simp only [Bool.and_eq_true, decide_eq_true_eq] at hb
   exact ⟨by omega, by rw [← he]; exact g5, hl, hsm.1, hsm.2, hw, by rw [← hpo] at hp; rw [← hpo]; exact hp, by rw [← hbs]; exact Prod.ext hls.symm (by rw [← hg]; exact hb.1), hb.2⟩
 ·have k5 : (e = 0) = False := eq_false g5
  rw [hst] at c12
  unfold qu at c7 c12
  unfold qA at c22 c12
  refine neg fun h => ?_
  rw [hst]
  refine qn qdj (by simp) ?_
  simp only [lcP, lnP, Nat.reduceAdd, Nat.reduceSub, List.replicate, caP, naP, List.append_nil]
  simp (disch := omega) only [qkf, qA, qu, k1, k2, k5, go_sem, qc, dvP, mdP]
  repeat' first
   | (refine zq ((.bool false)) ?_; simp (disch := omega) only [qA, qu, k1, k2, k5, go_sem, qc, dvP, mdP])
   | ((first | refine qj (c7 _) ?_ ?_ | refine qj (c22 _) ?_ ?_ | refine qj (c12 _) ?_ ?_); (next => exact flk); simp (disch := omega) only [qA, qu, k1, k2, k5, go_sem, qc, dvP, mdP])
   | ((first | refine qo (fun _ => c7 _) ?_ ?_ | refine qo (fun _ => c22 _) ?_ ?_ | refine qo (fun _ => c12 _) ?_ ?_); (next => exact flk); simp (disch := omega) only [qA, qu, k1, k2, k5, go_sem, qc, dvP, mdP])
   | ((first | refine qk (fun e => ⟨?_, c7 _⟩) ?_ | refine qk (fun e => ⟨?_, c22 _⟩) ?_ | refine qk (fun e => ⟨?_, c12 _⟩) ?_); (next => exact flk); simp (disch := omega) only [qA, qu, k1, k2, k5, go_sem, qc, dvP, mdP])
   | ((first | refine qe ?_ ?_ | refine qg ?_ ?_); (next => exact rvk); simp only [go_sem]; (first | exact VLe.refl _ | refine qh ?_ | refine qd ?_ | refine ql ?_ | skip))
   | with_reducible first | refine And.intro ?_ ?_ | intro _
  all_goals try exact clz
end LN
end
section
open Go Go.Proofs AF HY P48
namespace LN
set_option maxRecDepth 100000
theorem qhy {s : Sty} (hh : s.hy ≠ -10000) (l : List (List UInt8)) : ∀ k, qsr (qR s l (k + 1)) := by
 intro k
 induction k with
 | zero =>
  have e : qR s l 1 = [⟨1, s.le * ((qW (l.getD 0 [])).length : Int), 0, 0, 0, l.getD 0 []⟩] := by rw [jc, zE]; rfl
  rw [e]
  exact .one rfl
 | succ k ih =>
  rw [jc]
  have e : j4 s (k + 1) (l.getD (k + 1) []) = [⟨3, s.le, 0, 0, s.hy, [61]⟩, ⟨1, s.le * ((qW (l.getD (k + 1) [])).length : Int), 0, 0, 0, l.getD (k + 1) []⟩] := by
   unfold j4
   rw [if_neg (by omega)]
   rfl
  rw [e]
  exact .more ih rfl hh rfl
theorem quN (s : Sty) (i : Nat) (w : Wd) : quM (qep s i w) ∧ (i = 0 → qep s i w = []) := by
 unfold qep
 by_cases h0 : i = 0
 ·rw [if_pos h0]; exact ⟨.inl rfl, fun _ => rfl⟩
 ·rw [if_neg h0]
  refine ⟨?_, fun h => absurd h h0⟩
  split
  ·exact .inr ⟨_, rfl, .inr ⟨rfl, rfl⟩⟩
  ·split
   ·exact .inl rfl
   ·exact .inr ⟨_, rfl, .inl rfl⟩
theorem ql2 (ps : List Pat) (w : List UInt8) : 0 < (jX ps w).length := by
 unfold jX
 split
 ·rw [jy]
  unfold kP
  simp
 ·simp
theorem qnp {s : Sty} (hh : s.hy ≠ -10000) (ps : List Pat) (ws : List Wd) : ∀ n, Wds (jf s ps ws n) n := by
 intro n
 induction n with
 | zero => exact .nil
 | succ n ih =>
  rw [qa3]
  unfold qjb
  rw [← List.append_assoc]
  obtain ⟨h1, h2⟩ := quN s n (ws.getD n default)
  have hp := ql2 ps (ws.getD n default).text
  refine .snoc ih h1 h2 ?_
  obtain ⟨k, hk⟩ : ∃ k, (jX ps (ws.getD n default).text).length = k + 1 := ⟨(jX ps (ws.getD n default).text).length - 1, by omega⟩
  rw [hk]
  exact qhy hh _ k
end LN
end
section
open Go Go.Proofs AF HY P48
namespace LN
set_option maxRecDepth 100000
theorem qof {l : List It} {k : Nat} (hk : k < l.length) (hb : (it l k).kind = 1) : qji l k = false := by
 unfold qji
 rw [hb]
 have : ¬ (k = l.length) := by omega
 simp [this]
theorem qnJ {l : List It} : ∀ (bs : List Int) (p : Int), asc l p bs = true → bs.Pairwise (· < ·) ∧ ∀ b ∈ bs, p < b ∧ 0 ≤ b ∧ b ≤ l.length ∧ qji l b.toNat = true := by
 intro bs
 induction bs with
 | nil => intro p _; exact ⟨.nil, by simp⟩
 | cons k r ih =>
  intro p h
  simp only [asc, Bool.and_eq_true, decide_eq_true_eq] at h
  obtain ⟨⟨h1, h2, h3, h4⟩, h5⟩ := h
  obtain ⟨i1, i2⟩ := ih k h5
  refine ⟨List.pairwise_cons.2 ⟨fun b hb => (i2 b hb).1, i1⟩, fun b hb => ?_⟩
  rcases List.mem_cons.1 hb with rfl | hb
  ·exact ⟨h3, h1, h2, h4⟩
  ·have := i2 b hb
   exact ⟨by omega, this.2.1, this.2.2.1, this.2.2.2⟩
theorem qgl {l : List It} {W : Int} : ∀ (bs : List Nat) (frm : Nat) (ls : List P48.Line), jb l W frm bs = some ls → ls.length = bs.length := by
 intro bs
 induction bs with
 | nil => intro frm ls h; cases h; rfl
 | cons b r ih =>
  intro frm ls h
  rw [jb] at h
  split at h
  ·obtain ⟨ls', h', rfl⟩ := Option.map_eq_some_iff.1 h
   rw [List.length_cons, List.length_cons, ih _ _ h']
  ·cases h
theorem qmz {s : Sty} {W : Int} {ps : List Pat} {ws : List Wd} {l : List It} {ls : List P48.Line} (h : qnE s W ps ws l ls) :
  jb l W 0 (P48.brk l W) = some ls ∧ (P48.brk l W).Pairwise (· < ·) ∧ (∀ b ∈ P48.brk l W, b ≤ l.length ∧ qji l b = true) ∧ l.length ∈ P48.brk l W ∧ (∀ i, i < l.length → jr l i = true → i ∈ P48.brk l W) ∧ ja l = 0 := by
 have hl := h.lines
 unfold jL at hl
 rw [if_pos h.wOk] at hl
 have hn : kZ ((P48.brk l W).map Int.ofNat) = P48.brk l W := by
  unfold kZ
  rw [List.map_map]
  conv => rhs; rw [← List.map_id (P48.brk l W)]
  rfl
 split at hl
 ·rename_i hb
  rw [hn] at hl
  cases hg : jb l W 0 (P48.brk l W) with
  | none => rw [hg] at hl; cases hl
  | some ls' =>
   rw [hg] at hl
   cases hl
   unfold jF at hb
   simp only [Bool.and_eq_true] at hb
   obtain ⟨b1, b2, b3⟩ := hb
   obtain ⟨a1, a2⟩ := qnJ _ _ b2
   refine ⟨rfl, ?_, fun b hbm => ?_, ?_, fun i hi hf => ?_, ?_⟩
   ·rw [List.pairwise_map] at a1
    exact a1.imp (fun hx => by simpa using hx)
   ·have := a2 (Int.ofNat b) (List.mem_map.2 ⟨b, hbm, rfl⟩)
    exact ⟨by have := this.2.2.1; simp at this; omega, this.2.2.2⟩
   ·unfold qff at b1
    have b1 := of_decide_eq_true b1
    have hm := List.mem_of_getLast? b1
    obtain ⟨b, hbm, hbe⟩ := List.mem_map.1 hm
    have : b = l.length := by have hx : (b : Int) = (l.length : Int) := hbe; omega
    rw [← this]
    exact hbm
   ·unfold jT at b3
    have := List.all_eq_true.1 b3 i (List.mem_range.2 hi)
    rw [hf] at this
    simp only [Bool.not_true, Bool.false_or] at this
    rw [List.contains_iff_mem] at this
    obtain ⟨b, hbm, hbe⟩ := List.mem_map.1 this
    have : b = i := by have hx : (b : Int) = (i : Int) := hbe; omega
    rw [← this]
    exact hbm
   ·have := h.wOk
    unfold jq at this
    split at this
    ·rename_i hc; exact hc
    ·cases this
 ·cases hl
theorem qpp {s : Sty} {W : Int} {ps : List Pat} {ws : List Wd} {l : List It} {ls : List P48.Line} (h : qnE s W ps ws l ls) :
  ∃ P : List (Nat × Nat), P.length = ws.length ∧ (∀ p ∈ P, p.1 ≤ p.2 ∧ p.2 < l.length ∧ (it l p.1).kind = 1 ∧ (it l p.2).kind = 1) ∧ P.Pairwise (fun p q => p.2 < q.1) ∧ zf l = P.map (fun p => ((p.1 : Int), (p.2 : Int))) ∧
   (∀ k, k < l.length → jt k (P48.brk l W) < ls.length) ∧
   kC (fun a _ => a) l (ls.map qcX) = (0, P.map fun p => ((jt p.1 (P48.brk l W) + 1 : Nat) : Int)) ∧ kC (fun _ b => b) l (ls.map qcX) = (0, P.map fun p => ((jt p.2 (P48.brk l W) + 1 : Nat) : Int)) := by
 obtain ⟨g1, g2, g3, g4, g5, g6⟩ := qmz h
 obtain ⟨bn, hbn⟩ : ∃ bn, bn = P48.brk l W := ⟨_, rfl⟩
 rw [← hbn] at g1 g2 g3 g4 g5 ⊢
 have hlen := qgl _ _ _ g1
 have hix : ∀ k, k < l.length → jt k bn < ls.length := fun k hk => by rw [hlen]; exact qls ⟨l.length, g4, hk⟩
 have hscan : ∀ k, k < l.length → (it l k).kind = 1 → qiA k (ls.map qcX) 0 0 = some ((jt k bn + 1 : Nat) : Int) := fun k hk hb => by
  have := qfA hb bn 0 0 ls g1 (Nat.zero_le _) g2 (fun b hbm => ⟨Nat.zero_le _, fun e => by
   have := (g3 b hbm).2
   rw [e, qof hk hb] at this
   cases this⟩) ⟨l.length, g4, hk⟩
  simpa using this
 obtain ⟨R, hR, _, hRv⟩ := qmg (ls.map qcX) (fun k => jt k bn) (fun i j hij => qcW hij bn) hscan l.length 0 0 (List.replicate l.length 0) (by omega) (by simp) (fun j _ => by omega) (fun j hj => by omega)
 have hpl : qbM l (ls.map qcX) = some R := hR
 obtain ⟨o1, o2⟩ := qjd l
 have hP : zf l = ((zf l).map fun p => (p.1.toNat, p.2.toNat)).map fun p => ((p.1 : Int), (p.2 : Int)) := by
  rw [List.map_map]
  conv => lhs; rw [← List.map_id (zf l)]
  apply List.map_congr_left
  intro p hp
  obtain ⟨a, b, e, _⟩ := o1 p hp
  rw [e]
  rfl
 have hnum : ∀ pk, kC pk l (ls.map qcX) = (0, qez pk l R) := fun pk => by
  unfold kC
  rw [if_neg (fun hc => hc g6), if_neg (by rw [List.length_map]; have := h.n12; omega), hpl]
 refine ⟨(zf l).map fun p => (p.1.toNat, p.2.toNat), ?_, fun p hp => ?_, ?_, hP, hix, ?_, ?_⟩
 ·rw [List.length_map]
  have hr := h.itR
  have he := h.itE
  unfold qcU at hr
  rw [if_pos he] at hr
  have hh : s.hy ≠ -10000 := by
   unfold jC at he
   split at he
   ·cases he
   ·rename_i hro
    have hro : qaV s = true := by simpa using hro
    unfold qaV at hro
    simp only [Bool.and_eq_true, decide_eq_true_eq] at hro
    omega
  rw [hr]
  exact qsf (qnp hh ps ws ws.length)
 ·obtain ⟨q, hq, rfl⟩ := List.mem_map.1 hp
  obtain ⟨a, b, e, e1, e2, e3, e4⟩ := o1 q hq
  rw [e]
  exact ⟨e1, e2, e3, e4⟩
 ·rw [List.pairwise_map]
  refine List.Pairwise.imp_of_mem ?_ o2
  intro p q hp hq hpq
  obtain ⟨a, b, e, _⟩ := o1 p hp
  obtain ⟨a', b', e', _⟩ := o1 q hq
  rw [e, e'] at hpq ⊢
  simp only at hpq ⊢
  omega
 ·rw [hnum]
  unfold qez
  rw [List.map_map]
  congr 1
  apply List.map_congr_left
  intro p hp
  obtain ⟨a, b, e, e1, e2, e3, e4⟩ := o1 p hp
  rw [e]
  simp only [Function.comp, Int.toNat_natCast]
  exact hRv a (by omega) e3
 ·rw [hnum]
  unfold qez
  rw [List.map_map]
  congr 1
  apply List.map_congr_left
  intro p hp
  obtain ⟨a, b, e, e1, e2, e3, e4⟩ := o1 p hp
  rw [e]
  simp only [Function.comp, Int.toNat_natCast]
  exact hRv b (by omega) e4
end LN
end
section
open Go Go.Proofs AF HY P48
namespace LN
set_option maxRecDepth 100000
theorem qxW {P : Program} {f : FuncId} {args : List AV} {h : List AObj} {L : List Int} {e : AV} (hc : qs P f args h (.tup [jx L, e]) h) : qs P f args h (.tup [qw L, e]) h :=
 hc.le (jN.refl _) (zb ⟨qoF L, VLe.refl _, trivial⟩)
theorem qd9 {α : Type} (f : α → Int) (d : α) {P : List α} {i : Nat} (h : i < P.length) : (P.map f).getD i 0 = f (P.getD i d) := by
 rw [List.getD_eq_getElem?_getD, List.getElem?_map, List.getD_eq_getElem?_getD, List.getElem?_eq_getElem h]
 rfl
set_option maxHeartbeats 8000000 in
theorem a4 (s : Sty) (W : Int) (x : List AV) (ps : List Pat) (ws : List Wd) (h : List AObj) (hps : ps.length ≤ 9223372036854775807) (hws : ws.length ≤ 9223372036854775807) (hx : x.getD 0 .undef = .int .i64 W) :
  qs Tryz.prog 4 [.agg (zl s x), qA ps, qu ws] h (.bool true) h := by
 obtain ⟨A, B, b, ⟨f1, f2, f3, f4⟩, c17, hb⟩ := s17 s W x ps ws h hps hws hx
 have hst : zl s x = [.int .i64 W, x.getD 1 .undef, x.getD 2 .undef, x.getD 3 .undef, x.getD 4 .undef, .int .i64 s.sp, .int .i64 s.st, .int .i64 s.sh, .int .i64 s.le, .int .i64 s.hy, x.getD 5 .undef, x.getD 6 .undef, x.getD 7 .undef] := by unfold zl; rw [hx]
 have c18 := fun h => t10 h
 rw [hst] at c17 ⊢
 cases b with
 | false =>
  unfold qu at c17 ⊢
  unfold qA at c17 ⊢
  refine qn qxE (by simp) ?_
  simp only [lcP, lnP, Nat.reduceAdd, Nat.reduceSub, List.replicate, caP, naP, List.append_nil]
  simp (disch := omega) only [c4z, f1, f2, f3, f4, go_sem, qc, dvP, mdP]
  repeat' first
   | ((first | refine qj (c17 _) ?_ ?_ | refine qj (c18 _) ?_ ?_); (next => exact flk); simp (disch := omega) only [f1, f2, f3, f4, go_sem, qc, dvP, mdP])
   | ((first | refine qo (fun _ => c17 _) ?_ ?_ | refine qo (fun _ => c18 _) ?_ ?_); (next => exact flk); simp (disch := omega) only [f1, f2, f3, f4, go_sem, qc, dvP, mdP])
   | ((first | refine qk (fun e => ⟨?_, c17 _⟩) ?_ | refine qk (fun e => ⟨?_, c18 _⟩) ?_); (next => exact flk); simp (disch := omega) only [f1, f2, f3, f4, go_sem, qc, dvP, mdP])
   | ((first | refine qe ?_ ?_ | refine qg ?_ ?_); (next => exact rvk); simp only [go_sem]; (first | exact VLe.refl _ | refine qh ?_ | refine qd ?_ | refine ql ?_ | skip))
   | with_reducible first | refine And.intro ?_ ?_ | intro _
  all_goals try exact clz
 | true =>
 obtain ⟨l, ls, rfl, rfl, hs⟩ := hb rfl
 obtain ⟨P, p1, p2, p3, _, p5, p6, p7⟩ := qpp hs
 have hn12 := hs.n12
 have hsm := hs.small
 have c19 := fun h => qxW (t12 l (ls.map qcX) h (by omega) (by rw [List.length_map]; omega))
 have c20 := fun h => qxW (t14 l (ls.map qcX) h (by omega) (by rw [List.length_map]; omega))
 rw [p6] at c19
 rw [p7] at c20
 simp only at c19 c20
 obtain ⟨g, hg⟩ : ∃ g : Nat → Nat, g = fun k => jt k (P48.brk l W) := ⟨_, rfl⟩
 have hmono : ∀ i j, i ≤ j → g i ≤ g j := fun i j hij => by rw [hg]; exact qcW hij _
 have hgl : ∀ k, k < l.length → g k < ls.length := fun k hk => by rw [hg]; exact p5 k hk
 obtain ⟨av, hav⟩ : ∃ av : List Int, av = P.map fun p => ((g p.1 + 1 : Nat) : Int) := ⟨_, rfl⟩
 obtain ⟨bv, hbv⟩ : ∃ bv : List Int, bv = P.map fun p => ((g p.2 + 1 : Nat) : Int) := ⟨_, rfl⟩
 have ea : (P.map fun p => ((jt p.1 (P48.brk l W) + 1 : Nat) : Int)) = av := by rw [hav, hg]
 have eb : (P.map fun p => ((jt p.2 (P48.brk l W) + 1 : Nat) : Int)) = bv := by rw [hbv, hg]
 rw [ea] at c19
 rw [eb] at c20
 have la : av.length = ws.length := by rw [hav, List.length_map, p1]
 have lb : bv.length = ws.length := by rw [hbv, List.length_map, p1]
 have hlen : (ls.map qcX).length = ls.length := by simp
 have key : ∀ i, i < ws.length → 1 ≤ av.getD i 0 ∧ av.getD i 0 ≤ bv.getD i 0 ∧ bv.getD i 0 ≤ ls.length ∧ (∀ j, i = j + 1 → bv.getD j 0 ≤ av.getD i 0) := by
  intro i hi
  have hiP : i < P.length := by omega
  obtain ⟨q, hq⟩ : ∃ q, q = P.getD i default := ⟨_, rfl⟩
  have e1 : av.getD i 0 = ((g q.1 + 1 : Nat) : Int) := by rw [hav, qd9 _ default hiP, ← hq]
  have e2 : bv.getD i 0 = ((g q.2 + 1 : Nat) : Int) := by rw [hbv, qd9 _ default hiP, ← hq]
  have hqe : q = P[i] := by rw [hq, List.getD_eq_getElem?_getD, List.getElem?_eq_getElem hiP]; rfl
  have hqm : q ∈ P := by rw [hqe]; exact List.getElem_mem hiP
  obtain ⟨q1, q2, _, _⟩ := p2 q hqm
  have m1 := hmono q.1 q.2 q1
  have m2 := hgl q.2 q2
  rw [e1, e2]
  refine ⟨by omega, by omega, by omega, fun j hj => ?_⟩
  have hjP : j < P.length := by omega
  have e3 : bv.getD j 0 = ((g (P[j]).2 + 1 : Nat) : Int) := by
   rw [hbv, qd9 _ default hjP, List.getD_eq_getElem?_getD, List.getElem?_eq_getElem hjP]; rfl
  rw [e3]
  have h3 := List.pairwise_iff_getElem.1 p3 j i hjP hiP (by omega)
  rw [← hqe] at h3
  have := hmono (P[j]).2 q.1 (by omega)
  omega
 unfold qu at c17 ⊢
 unfold qA at c17 ⊢
 unfold qC at c17 c19 c20
 unfold qw at c19 c20
 rw [hlen] at c17 c19 c20
 rw [la] at c19
 rw [lb] at c20
 have q8 : (ws.length : Int) ≤ 8 := by have := hs.n8; omega
 refine qn qxE (by simp) ?_
 simp only [lcP, lnP, Nat.reduceAdd, Nat.reduceSub, List.replicate, caP, naP, List.append_nil]
 simp (disch := omega) only [c4z, go_sem, qc, dvP, mdP]
 repeat' first
  | ((first | refine qj (c17 _) ?_ ?_ | refine qj (c19 _) ?_ ?_ | refine qj (c20 _) ?_ ?_); (next => exact flk); simp (disch := omega) only [go_sem, qc, dvP, mdP])
  | ((first | refine qo (fun _ => c17 _) ?_ ?_ | refine qo (fun _ => c19 _) ?_ ?_ | refine qo (fun _ => c20 _) ?_ ?_); (next => exact flk); simp (disch := omega) only [go_sem, qc, dvP, mdP])
  | ((first | refine qk (fun e => ⟨?_, c17 _⟩) ?_ | refine qk (fun e => ⟨?_, c19 _⟩) ?_ | refine qk (fun e => ⟨?_, c20 _⟩) ?_); (next => exact flk); simp (disch := omega) only [go_sem, qc, dvP, mdP])
  | ((first | refine qe ?_ ?_ | refine qg ?_ ?_); (next => exact rvk); simp only [go_sem]; (first | exact VLe.refl _ | refine qh ?_ | refine qd ?_ | refine ql ?_ | skip))
  | with_reducible first | refine And.intro ?_ ?_ | intro _
 all_goals try exact clz
 refine qJ (T := fun i : Nat => qv 106 [(8, .sl ls.length fun i => zd ((ls.map qcX).getD i default)), (10, .sl ws.length fun i => [.int .i64 (av.getD i 0)]), (12, .sl ws.length fun i => [.int .i64 (bv.getD i 0)]), (59, .int .i64 ws.length), (60, .int .i64 i)])
  (H := fun _ => h ++ [.mem 1 25 [.int .i64 W, x.getD 1 .undef, x.getD 2 .undef, x.getD 3 .undef, x.getD 4 .undef, .int .i64 s.sp, .int .i64 s.st, .int .i64 s.sh, .int .i64 s.le, .int .i64 s.hy, x.getD 5 .undef, x.getD 6 .undef, x.getD 7 .undef]]) (inv := fun i => i ≤ ws.length) (m := fun i => ws.length - i) 0 (Nat.zero_le _) (Wk.temps ?_) ?_
 ·(simp only [qv, List.foldl, List.replicate, go_sem, qr, qp, qm, qq]; try (repeat' first | (with_reducible refine And.intro ?_ ?_) | (refine qh ?_; omega) | (refine qd ?_; rfl) | exact VLe.refl _))
 rintro i i1 K hK
 by_cases hi : i < ws.length
 ·obtain ⟨r1, r2, r3, r4⟩ := key i hi
  obtain ⟨X, hX⟩ : ∃ X, X = av.getD i 0 := ⟨_, rfl⟩
  obtain ⟨Y, hY⟩ : ∃ Y, Y = bv.getD i 0 := ⟨_, rfl⟩
  have eX := hX.symm
  have eY := hY.symm
  rw [eX, eY] at r2
  rw [eX] at r1 r4
  rw [eY] at r3
  have y0 : ((i : Int) < ws.length) = True := eq_true (by omega)
  have y1 : (X < 1) = False := eq_false (by omega)
  have y2 : (Y < X) = False := eq_false (by omega)
  have y3 : ((ls.length : Int) < Y) = False := eq_false (by omega)
  cases i with
  | zero =>
   have z0 : ((0 : Nat) : Int) = 0 := rfl
   have z1 : ((0 : Int) < 0) = False := eq_false (by omega)
   rw [z0] at y0 ⊢
   simp (disch := omega) only [qv, List.foldl, List.replicate, eX, eY, y0, y1, y2, y3, z1, go_sem, qc, dvP, mdP]
   repeat' first
    | ((first | refine qe ?_ ?_ | refine qg ?_ ?_); (next => exact rvk); simp only [go_sem]; (first | exact VLe.refl _ | refine qh ?_ | refine qd ?_ | refine ql ?_ | skip))
    | with_reducible first | refine And.intro ?_ ?_ | intro _
   all_goals try exact clz
   refine hK _ _ (0 + 1) (by omega) (by omega) (Wk.temps ?_)
   (simp only [qv, List.foldl, List.replicate, go_sem, qr, qp, qm, qq]; try (repeat' first | (with_reducible refine And.intro ?_ ?_) | (refine qh ?_; omega) | (refine qd ?_; rfl) | exact VLe.refl _))
  | succ j =>
   have r5 := r4 j rfl
   obtain ⟨Z, hZ⟩ : ∃ Z, Z = bv.getD j 0 := ⟨_, rfl⟩
   have eZ := hZ.symm
   rw [eZ] at r5
   have ej : ((j + 1 : Nat) : Int) = (j : Int) + 1 := by omega
   rw [ej] at y0 ⊢
   have z1 : (0 < (j : Int) + 1) = True := eq_true (by omega)
   have z2 : (X < Z) = False := eq_false (by omega)
   have z3 : ((j : Int) < ws.length) = True := eq_true (by omega)
   have rt : ((j : Int) + 1).toNat = j + 1 := by omega
   simp (disch := omega) only [qv, List.foldl, List.replicate, eX, eY, eZ, y0, y1, y2, y3, z1, z2, z3, rt, Int.add_sub_cancel, Int.toNat_natCast, go_sem, qc, dvP, mdP]
   repeat' first
    | ((first | refine qe ?_ ?_ | refine qg ?_ ?_); (next => exact rvk); simp only [go_sem]; (first | exact VLe.refl _ | refine qh ?_ | refine qd ?_ | refine ql ?_ | skip))
    | with_reducible first | refine And.intro ?_ ?_ | intro _
   all_goals try exact clz
   refine hK _ _ (j + 1 + 1) (by omega) (by omega) (Wk.temps ?_)
   (simp only [qv, List.foldl, List.replicate, go_sem, qr, qp, qm, qq]; try (repeat' first | (with_reducible refine And.intro ?_ ?_) | (refine qh ?_; omega) | (refine qd ?_; rfl) | exact VLe.refl _))
 ·have e : i = ws.length := by omega
  subst e
  have y0 : ((ws.length : Int) < ws.length) = False := eq_false (by omega)
  simp (disch := omega) only [qv, List.foldl, List.replicate, y0, go_sem, qc, dvP, mdP]
  repeat' first
   | ((first | refine qj (c18 _) ?_ ?_); (next => exact flk); simp (disch := omega) only [y0, go_sem, qc, dvP, mdP])
   | ((first | refine qo (fun _ => c18 _) ?_ ?_); (next => exact flk); simp (disch := omega) only [y0, go_sem, qc, dvP, mdP])
   | ((first | refine qk (fun e => ⟨?_, c18 _⟩) ?_); (next => exact flk); simp (disch := omega) only [y0, go_sem, qc, dvP, mdP])
   | ((first | refine qe ?_ ?_ | refine qg ?_ ?_); (next => exact rvk); simp only [go_sem]; (first | exact VLe.refl _ | refine qh ?_ | refine qd ?_ | refine ql ?_ | skip))
   | with_reducible first | refine And.intro ?_ ?_ | intro _
  all_goals try exact clz
end LN
end

import Derived.Test.YtjijgafefdolkaaGreatDoorK4
set_option linter.all false
set_option linter.unusedSimpArgs false
set_option linter.unusedVariables false
set_option linter.unusedSectionVars false
section
open Go Go.Proofs AF HY
namespace HY
set_option maxRecDepth 100000
theorem qee (c : UInt8) : kind (qdP c) = kind c := by
 have hc := c.toNat_lt
 have hn := qfC c
 by_cases h : 65 ≤ (c.toNat : Int) ∧ (c.toNat : Int) ≤ 90
 ·rw [if_pos h] at hn
  unfold kind qg3
  rw [if_pos (by omega), if_pos (by omega)]
 ·rw [if_neg h] at hn
  unfold kind
  rw [hn]
theorem qsy (s : List UInt8) (i : Nat) (h : i < s.length) : ch (kg s) i = qdP (ch s i) := by simp [kg, ch, List.getD_eq_getElem?_getD, h]
theorem qiO (r : List UInt8) : ∀ (f : Nat) (cur : List UInt8), 0 < cur.length → jT f (kg cur) (kg r) = (jT f cur r).map (fun x => (x.1, kg x.2)) := by
 induction r with
 | nil => intro f cur _; rfl
 | cons c r ih =>
  intro f cur hc
  have e : kg (c :: r) = qdP c :: kg r := rfl
  rw [e]
  simp only [jT]
  rw [qsy cur 0 hc, qee, qee]
  split
  ·rw [← ih f (cur ++ [c]) (by simp)]
   simp [kg]
  ·rw [List.map_cons, ← ih (f + cur.length) [c] (by simp), qaM]
   rfl
theorem qlS (s : List UInt8) : qV (kg s) = (qV s).map kg := by
 cases s with
 | nil => rfl
 | cons c r =>
  have := qiO r 0 [c] (by simp)
  simp only [qV, zC, show kg (c :: r) = qdP c :: kg r from rfl]
  rw [show [qdP c] = kg [c] from rfl, this]
  simp
theorem k9 (s : List UInt8) : (qV (kg s)).length = (qV s).length := by rw [qlS]; simp
theorem qeu (ps : List Pat) (l : List (List UInt8)) : (qau ps l).length = l.length + 1 := by
 unfold qau
 rw [qdn (fun a p => qd0 l a p)]
 simp
theorem qfU (ps : List Pat) (w : List UInt8) : (jr ps w).length = (qV w).length - 1 := by
 unfold jr
 rw [List.length_take, List.length_drop, qeu]
 simp [qal, k9]
 omega
def qo6 (n : Nat) (lv : List Int) (i : Nat) : Bool := decide ((lv.getD i 0).tmod 2 = 1) && (decide (1 ≤ i) && decide (i + 3 ≤ n))
def qh8 (own : List (List UInt8)) (i : Nat) : Nat := (own.take i).flatten.length
def qcL (n : Nat) (lv : List Int) (m : Nat) : List Nat := (List.range m).filter (qo6 n lv)
def qcz (own : List (List UInt8)) (lv : List Int) (m : Nat) : List Int := (qcL own.length lv m).map fun i => (qh8 own (i + 1) : Int)
def qf8 (n : Nat) (lv : List Int) (m : Nat) : List Int := (qcL n lv m).map fun i => lv.getD i 0
theorem qm4 (own : List (List UInt8)) : qh8 own 0 = 0 := rfl
theorem qdw {own : List (List UInt8)} {i : Nat} (h : i < own.length) : qh8 own (i + 1) = qh8 own i + (own.getD i []).length := by
 unfold qh8; rw [jL own h, List.length_append]
theorem qg7 (own : List (List UInt8)) (i : Nat) : qh8 own i ≤ own.flatten.length := jC own i
theorem qwD {own : List (List UInt8)} {lv : List Int} {i : Nat} (h : qo6 own.length lv i = true) : qcz own lv (i + 1) = qcz own lv i ++ [(qh8 own (i + 1) : Int)] := by
 unfold qcz qcL; rw [j6 h, List.map_append]; rfl
theorem qwF {n : Nat} {lv : List Int} {i : Nat} (h : qo6 n lv i = true) : qf8 n lv (i + 1) = qf8 n lv i ++ [lv.getD i 0] := by
 unfold qf8 qcL; rw [j6 h, List.map_append]; rfl
theorem qwC {own : List (List UInt8)} {lv : List Int} {i : Nat} (h : qo6 own.length lv i = false) : qcz own lv (i + 1) = qcz own lv i := by
 unfold qcz qcL; rw [qab h]
theorem qwE {n : Nat} {lv : List Int} {i : Nat} (h : qo6 n lv i = false) : qf8 n lv (i + 1) = qf8 n lv i := by
 unfold qf8 qcL; rw [qab h]
theorem qie (n : Nat) (lv : List Int) (m : Nat) : (qcL n lv m).length ≤ m := by
 have := List.length_filter_le (qo6 n lv) (List.range m)
 rwa [List.length_range] at this
theorem qid (own : List (List UInt8)) (lv : List Int) (m : Nat) : (qcz own lv m).length = (qcL own.length lv m).length := by simp [qcz]
theorem qqO (n : Nat) (lv : List Int) (m : Nat) : (qf8 n lv m).length = (qcL n lv m).length := by simp [qf8]
def jM (L : List Int) : AV := if L = [] then .nl else qy L
theorem qfL : jM [] = .nl := rfl
theorem qqg (L : List Int) : VLe (jM L) (qy L) := by
 unfold jM
 split
 ·rename_i e; subst e; exact kH
 ·exact VLe.refl _
theorem qjP {v n : Nat} {L : List Int} {fz : Nat → Bool} {h : List AObj} : VLe (qo8 (some (kC v 3 (q9 L))) v 1 0 L.length (rei fz h (n + 1))) (jM L) := by
 unfold kC jM
 split
 ·rename_i e
  have : L = [] := by cases L with
   | nil => rfl
   | cons a l => simp [q9] at e
  subst this
  rw [slOf_emp, if_pos rfl, if_pos rfl]
  exact VLe.refl _
 ·rename_i e
  rw [if_neg (by intro e2; subst e2; exact e rfl), slOf_mem, if_pos ⟨rfl, by rw [zy]; omega⟩]
  simp only [Nat.zero_add, Nat.mul_one]
  exact qcZ rfl
theorem qgn {v n : Nat} {L : List Int} {fz : Nat → Bool} {h : List AObj} : VLe (qo8 (some (kC v 3 (q9 L))) v 1 0 L.length (rei fz h (n + 1))) (qy L) := by
 unfold kC
 split
 ·rename_i e
  have : L = [] := by cases L with
   | nil => rfl
   | cons a l => simp [q9] at e
  subst this
  rw [slOf_emp, if_pos rfl]
  exact kH
 ·rw [slOf_mem, if_pos ⟨rfl, by rw [zy]; omega⟩]
  simp only [Nat.zero_add, Nat.mul_one]
  exact qcZ rfl
set_option maxHeartbeats 4000000 in
theorem qAx (ps : List Pat) (w : List UInt8) (h : List AObj) (hok : qa6 ps) (hw : w.length ≤ 1000000) (hw0 : 0 < (qV w).length) (hwf : qir ps) :
  qs Tryz.prog 108 [qw ps, .str w] h (.tup [jM (qcz (qV w) (jr ps w) ((qV w).length - 1)), qy (qf8 (qV w).length (jr ps w) ((qV w).length - 1))]) h := by
 have qgN := fun h => qAz ps w h hok hw (by rw [k9]; exact hw0) hwf
 have qbs := fun h => t105 w h (by omega)
 have hll := qfU ps w
 have hcl := jB w
 have hof := fun i => qg7 (qV w) i
 rw [qaw] at hof
 obtain ⟨lv, hlv⟩ : ∃ x, x = jr ps w := ⟨_, rfl⟩
 obtain ⟨own, hown⟩ : ∃ x, x = qV w := ⟨_, rfl⟩
 rw [← hlv] at qgN hll ⊢
 rw [← hown] at qbs hll hcl hof hw0 ⊢
 refine qo qvw (by simp) ?_
 simp only [lcP, lnP, Nat.reduceAdd, Nat.reduceSub, List.replicate, caP, naP, List.append_nil]
 simp (disch := omega) only [qiF, qw, qE, go_sem, qc, dvP, mdP]
 repeat' first
  | ((first | refine qj (qbs _) ?_ ?_ | refine qj (qgN _) ?_ ?_); (next => exact flk); simp (disch := omega) only [qw, qE, qy, qF, go_sem, qc, dvP, mdP])
  | ((first | refine qn (fun _ => qbs _) ?_ ?_ | refine qn (fun _ => qgN _) ?_ ?_); (next => exact flk); simp (disch := omega) only [qw, qE, qy, qF, go_sem, qc, dvP, mdP])
  | ((first | refine qk (fun e => ⟨?_, qbs _⟩) ?_ | refine qk (fun e => ⟨?_, qgN _⟩) ?_); (next => exact flk); simp (disch := omega) only [qw, qE, qy, qF, go_sem, qc, dvP, mdP])
  | ((first | refine qe ?_ ?_ | refine qg ?_ ?_); (next => exact rvk); simp only [go_sem]; (first | exact VLe.refl _ | refine qh ?_ | refine qd ?_ | refine ql ?_ | skip))
  | with_reducible first | refine And.intro ?_ ?_ | intro _
 all_goals try exact clz
 refine qJ (T := fun i : Nat × Nat × AObj × AObj => qv 56 [(6, .osl (h.length + 2) i.2.1 1 0 (qcz own lv i.1).length), (7, .osl (h.length + 3) i.2.1 1 0 (qf8 own.length lv i.1).length), (8, qF own), (9, .int .i64 (qh8 own i.1)), (16, qy lv), (17, .int .i64 lv.length), (18, .int .i64 i.1)])
  (H := fun i => h ++ [.emp 1, .emp 1, kC i.2.1 3 (q9 (qcz own lv i.1)), kC i.2.1 3 (q9 (qf8 own.length lv i.1)), i.2.2.1, .emp 0, i.2.2.2, .emp 0])
  (inv := fun i => i.1 ≤ lv.length ∧ zf [i.2.2.1] 0 = true ∧ zf [i.2.2.2] 0 = true) (m := fun i => lv.length - i.1) (0, 1, .emp 0, .emp 0) ⟨by simp, rfl, rfl⟩ (Wk.temps ?_) ?_
 ·(simp only [qF, qw, qy, qm4, qv, List.foldl, List.replicate, go_sem, qr, qp, qm, qq]; try (repeat' first | (with_reducible refine And.intro ?_ ?_) | (refine qh ?_; omega) | (refine qd ?_; rfl) | exact VLe.refl _))
 rintro ⟨i, v, O1, O2⟩ ⟨i1, i2, i3⟩ K hK
 simp only at i1 i2 i3 hK
 have i2' : ∀ m, zf (O1 :: m) 0 = true := fun _ => i2
 have i3' : ∀ m, zf (O2 :: m) 0 = true := fun _ => i3
 have q1 := qie own.length lv i
 have q2 := qid own lv i
 have q3 := qqO own.length lv i
 have e1 := zy (qcz own lv i)
 have e2 := zy (qf8 own.length lv i)
 have f1 : List.take (qcz own lv i).length (q9 (qcz own lv i)) = q9 (qcz own lv i) := List.take_of_length_le (by omega)
 have f2 : List.take (qf8 own.length lv i).length (q9 (qf8 own.length lv i)) = q9 (qf8 own.length lv i) := List.take_of_length_le (by omega)
 by_cases hi : i < lv.length
 ·have ho := qdw (own := own) (i := i) (by omega)
  have hle := hof (i + 1)
  cases hb : qo6 own.length lv i with
  | true =>
   have r1 := qwD hb
   have r2 := qwF hb
   unfold qo6 at hb
   simp only [Bool.and_eq_true, decide_eq_true_eq] at hb
   have k1 : ((lv.getD i 0).tmod 2 = 1) = True := eq_true hb.1
   have k2 : (1 ≤ (i : Int)) = True := eq_true (by omega)
   have k3 : (2 ≤ (own.length : Int) - (i : Int) - 1) = True := eq_true (by omega)
   simp (disch := omega) only [qv, List.foldl, List.replicate, qF, qy, i2', i3', k1, k2, k3, qE, e1, e2, f1, f2, go_sem, qc, dvP, mdP]
   repeat' first
    | ((first | refine qe ?_ ?_ | refine qg ?_ ?_); (next => exact rvk); simp only [go_sem]; (first | exact VLe.refl _ | refine qh ?_ | refine qd ?_ | refine ql ?_ | skip))
    | with_reducible first | refine And.intro ?_ ?_ | intro _
   all_goals try exact clz
   have hoi : (qh8 own i : Int) + ((own.getD i []).length : Int) = ((qh8 own (i + 1) : Nat) : Int) := by omega
   have l1 : (qcz own lv i).length + 1 = (qcz own lv (i + 1)).length := by rw [r1]; simp
   have l2 : (qf8 own.length lv i).length + 1 = (qf8 own.length lv (i + 1)).length := by rw [r2]; simp
   rw [hoi, ← qaN, ← qaN, ← r1, ← r2, l1, l2]
   refine hK _ _ (i + 1, v + 1, .mem (qA (some O1) + 1) 3 [.int .i64 (qh8 own (i + 1) : Nat)], .mem (qA (some O2) + 1) 3 [.int .i64 (lv.getD i 0)]) ⟨by simp only; omega, rfl, rfl⟩ (by simp only; omega) (Wk.temps ?_)
   (simp only [qF, qy, qv, List.foldl, List.replicate, go_sem, qr, qp, qm, qq]; try (repeat' first | (with_reducible refine And.intro ?_ ?_) | (refine qh ?_; omega) | (refine qd ?_; rfl) | exact VLe.refl _))
  | false =>
   have r1 := qwC hb
   have r2 := qwE hb
   simp (disch := omega) only [qv, List.foldl, List.replicate, qF, qy, i2', i3', qE, go_sem, qc, dvP, mdP]
   repeat' first
    | ((first | refine qe ?_ ?_ | refine qg ?_ ?_); (next => exact rvk); simp only [go_sem]; (first | exact VLe.refl _ | refine qh ?_ | refine qd ?_ | refine ql ?_ | skip))
    | with_reducible first | refine And.intro ?_ ?_ | intro _
   all_goals try exact clz
   ·rename_i hx
    exfalso
    have : qo6 own.length lv i = true := by
     unfold qo6
     simp only [Bool.and_eq_true, decide_eq_true_eq]
     exact ⟨hx.1.1, by omega, by omega⟩
    rw [this] at hb
    cases hb
   ·rw [← r1, ← r2]
    refine hK _ _ (i + 1, v, O1, O2) ⟨by simp only; omega, i2, i3⟩ (by simp only; omega) (Wk.temps ?_)
    (simp only [qF, qy, qv, List.foldl, List.replicate, go_sem, qr, qp, qm, qq]; try (repeat' first | (with_reducible refine And.intro ?_ ?_) | (refine qh ?_; omega) | (refine qd ?_; rfl) | exact VLe.refl _))
 ·have e : i = own.length - 1 := by omega
  subst e
  simp (disch := omega) only [qv, List.foldl, List.replicate, qF, qy, go_sem, qc, dvP, mdP]
  repeat' first
   | ((first | refine qe ?_ ?_ | refine qg ?_ ?_); (next => exact rvk); simp only [go_sem]; (first | exact VLe.refl _ | refine qh ?_ | refine qd ?_ | refine ql ?_ | skip))
   | with_reducible first | refine And.intro ?_ ?_ | intro _
  all_goals try exact clz
  exact zo ⟨qjP, qgn, trivial⟩
end HY
end
section
open Go Go.Proofs AF HY
namespace HY
set_option maxRecDepth 100000
theorem qgY {ps : List Pat} (h : qdk ps = 0) : ∀ p ∈ ps, j5 p = 0 := by
 induction ps with
 | nil => intro p hp; simp at hp
 | cons a r ih =>
  simp only [qdk] at h
  split at h
  ·rename_i h0
   intro p hp
   rcases List.mem_cons.1 hp with rfl | hp
   ·exact h0
   ·exact ih h p hp
  ·rename_i h0; exact absurd h h0
theorem qfs {p : Pat} (h : j5 p = 0) : p.levels.length = (qV p.letters).length + 1 := by
 unfold j5 at h
 repeat' split at h
 all_goals first
  | (cases h; done)
  | (rename_i hx _; simpa using hx)
  | skip
theorem qhK {ps : List Pat} (h : jm ps = 0) : qir ps := by
 unfold jm at h
 split at h
 ·cases h
 intro i hi
 rw [k9]
 refine qfs (qgY h _ ?_)
 rw [List.getD_eq_getElem?_getD, List.getElem?_eq_getElem hi]
 exact List.getElem_mem hi
theorem qrI {w : List UInt8} (h : qa2 w = true) : 0 < (qV w).length := by
 apply qhT
 intro e
 subst e
 simp [qa2] at h
theorem qhp {ps : List Pat} {w : List UInt8} (h : qaF ps w = 0) : qir ps ∧ qa2 w = true := by
 unfold qaF at h
 split at h
 ·rename_i h1
  split at h
  ·rename_i h2; exact ⟨qhK h1, h2⟩
  ·cases h
 ·cases h
def jN (ps : List Pat) (w : List UInt8) : List Int := if qaF ps w = 0 then qcz (qV w) (jr ps w) ((qV w).length - 1) else []
theorem qi4 (L : List Int) : (qy L).flag = true := rfl
theorem qht (L : List Int) : (qy L).strip = qy L := rfl
theorem qmw {fz : Nat → Bool} {h : List AObj} {n : Nat} (L : List Int) : frz fz h (n + 1) (qy L) = qy L := rfl
theorem qnL {fz : Nat → Bool} {h : List AObj} {n : Nat} (L : List Int) : rei fz h (n + 1) (qy L) = qy L := rfl
theorem qml (L : List (List UInt8)) : (qF L).flag = true := rfl
theorem qj5 (L : List (List UInt8)) : (qF L).strip = qF L := rfl
theorem qqa {fz : Nat → Bool} {h : List AObj} {n : Nat} (L : List (List UInt8)) : frz fz h (n + 1) (qF L) = qF L := rfl
theorem qqT {fz : Nat → Bool} {h : List AObj} {n : Nat} (L : List (List UInt8)) : rei fz h (n + 1) (qF L) = qF L := rfl
theorem qi7 (L : List Pat) : (qw L).flag = true := rfl
theorem qhw (L : List Pat) : (qw L).strip = qw L := rfl
theorem qmx {fz : Nat → Bool} {h : List AObj} {n : Nat} (L : List Pat) : frz fz h (n + 1) (qw L) = qw L := rfl
theorem qnM {fz : Nat → Bool} {h : List AObj} {n : Nat} (L : List Pat) : rei fz h (n + 1) (qw L) = qw L := rfl
theorem qi3 (L : List Int) : (jM L).flag = true := by unfold jM; split <;> rfl
theorem qhs (L : List Int) : (jM L).strip = jM L := by unfold jM; split <;> rfl
theorem qmv {fz : Nat → Bool} {h : List AObj} {n : Nat} (L : List Int) : frz fz h (n + 1) (jM L) = jM L := by unfold jM; split <;> rfl
theorem qnK {fz : Nat → Bool} {h : List AObj} {n : Nat} (L : List Int) : rei fz h (n + 1) (jM L) = jM L := by unfold jM; split <;> rfl
attribute [go_sem] qi4 qht qmw qnL qml qj5 qqa qqT qi7 qhw qmx qnM qi3 qhs qmv qnK
theorem t89 (ps : List Pat) (w : List UInt8) (h : List AObj) (hok : qa6 ps) (hw : w.length ≤ 1000000) : qs Tryz.prog 66 [qw ps, .str w] h (.tup [jM (jN ps w), .int .i64 (qaF ps w)]) h := by
 have qcF := fun h => qAw ps w h hok (by omega)
 unfold jN
 by_cases g : qaF ps w = 0
 ·obtain ⟨g1, g2⟩ := qhp g
  have qiF := fun h => qAx ps w h hok hw (qrI g2) g1
  rw [if_pos g]
  rw [g] at qcF ⊢
  refine qo qv4 (by simp) ?_
  simp only [lcP, lnP, Nat.reduceAdd, Nat.reduceSub, List.replicate, caP, naP, List.append_nil]
  simp (disch := omega) only [qly, go_sem, qc, dvP, mdP]
  repeat' first
   | ((first | refine qj (qcF _) ?_ ?_ | refine qj (qiF _) ?_ ?_); (next => exact flk); simp (disch := omega) only [go_sem, qc, dvP, mdP])
   | ((first | refine qn (fun _ => qcF _) ?_ ?_ | refine qn (fun _ => qiF _) ?_ ?_); (next => exact flk); simp (disch := omega) only [go_sem, qc, dvP, mdP])
   | ((first | refine qk (fun e => ⟨?_, qcF _⟩) ?_ | refine qk (fun e => ⟨?_, qiF _⟩) ?_); (next => exact flk); simp (disch := omega) only [go_sem, qc, dvP, mdP])
   | ((first | refine qe ?_ ?_ | refine qg ?_ ?_); (next => exact rvk); simp only [go_sem]; (first | exact VLe.refl _ | refine qh ?_ | refine qd ?_ | refine ql ?_ | skip))
   | with_reducible first | refine And.intro ?_ ?_ | intro _
  all_goals try exact clz
 ·rw [if_neg g, qfL]
  refine qo qv4 (by simp) ?_
  simp only [lcP, lnP, Nat.reduceAdd, Nat.reduceSub, List.replicate, caP, naP, List.append_nil]
  simp (disch := omega) only [qly, go_sem, qc, dvP, mdP]
  repeat' first
   | ((first | refine qj (qcF _) ?_ ?_); (next => exact flk); simp (disch := omega) only [g, go_sem, qc, dvP, mdP])
   | ((first | refine qn (fun _ => qcF _) ?_ ?_); (next => exact flk); simp (disch := omega) only [g, go_sem, qc, dvP, mdP])
   | ((first | refine qk (fun e => ⟨?_, qcF _⟩) ?_); (next => exact flk); simp (disch := omega) only [g, go_sem, qc, dvP, mdP])
   | ((first | refine qe ?_ ?_ | refine qg ?_ ?_); (next => exact rvk); simp only [go_sem]; (first | exact VLe.refl _ | refine qh ?_ | refine qd ?_ | refine ql ?_ | skip))
   | with_reducible first | refine And.intro ?_ ?_ | intro _
  all_goals try exact clz
end HY
end

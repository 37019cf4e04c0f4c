import Derived.Test.YthlgfjbghnildaaGreatDoorK11
import Derived.Test.YthlgfjbghnildaaGreatDoorK12
import Derived.Test.YthlgfjbghnildaaGreatDoorRows
import Derived.LaidLaws
import Derived.Test.YthlgfjbghnildaaGreatDoorK2
import Derived.Test.YthlgfjbghnildaaGreatDoorK4
import Derived.Test.YthlgfjbghnildaaGreatDoorK7
import Derived.Test.YthlgfjbghnildaaGreatDoorProg
set_option linter.all false
set_option linter.unusedSimpArgs false
set_option linter.unusedVariables false
set_option linter.unusedSectionVars false
section
open Go Go.Proofs AF HY LN
namespace RC
set_option maxRecDepth 100000
set_option maxHeartbeats 8000000
theorem qpf (names : List Str) (gs : List Gr) (l : List En) (src : Int) {j : Nat} (hj : j < (qab names gs l src l.length).length) : ∃ Y : Nat, Y < l.length ∧ (qab names gs l src l.length).getD j 0 = (Y : Int) ∧ (ofE names gs l src).getD j default = l.getD Y default := by
 have hm : (qab names gs l src l.length).getD j 0 ∈ qab names gs l src l.length := by
  rw [List.getD_eq_getElem?_getD, List.getElem?_eq_getElem hj]; exact List.getElem_mem hj
 have hr := qfU names gs l src l.length _ hm
 refine ⟨((qab names gs l src l.length).getD j 0).toNat, by omega, by omega, ?_⟩
 have e : (qab names gs l src l.length).getD j 0 = (qab names gs l src l.length)[j] := by rw [List.getD_eq_getElem?_getD, List.getElem?_eq_getElem hj]; rfl
 rw [← qkq, List.getD_eq_getElem?_getD, List.getElem?_map, List.getElem?_eq_getElem hj, e]
 rfl
theorem qc6 (names : List Str) (gs : List Gr) (l : List En) (src : Int) : (qab names gs l src l.length).length = (ofE names gs l src).length := by
 rw [← qkq, List.length_map]
theorem qcl (names : List Str) (gs : List Gr) (t : List Str) (l : List En) (h : List AObj) (hc : CSz names gs t l) (hp : jv SG h) :
  ql Tryz.prog 21 [strs names, qt gs, strs t, qA l] h (.int .i64 (rdE names gs t l)) h := by
 have c49 := fun h => sgR names gs h hc.hz
 have c50 := fun i l' => qyP names gs t (l.getD i default) (h ++ l') hc.hz hc.ht (hc.he i) hc.gm (fun j => by have := hc.sg i j; omega) (by have := hc.sp i; omega) (hp.app l')
 have c47 := fun (s : Nat) h => qvS names gs l (s : Int) h hc.hz (by have := hc.ln; omega) hc.gm (fun i => by have := hc.vl i; omega) (fun i j => by have := hc.sg i j; omega)
 have hln := hc.ln
 have hnn := hc.nn
 obtain ⟨R, hR⟩ : ∃ R, R = rdE names gs t l := ⟨_, rfl⟩
 rw [← hR]
 unfold rdE at hR
 by_cases g0 : sgE names gs = 0
 case neg =>
  rw [if_pos g0] at hR
  rw [hR]
  have k0 : (sgE names gs = 0) = False := eq_false g0
  refine acO qt2 ?_
  simp (disch := omega) only [qv6, List.replicate, strs, qt, qA, k0, go_sem]
  unfold strs qt at c49
  repeat' first
   | ((first | refine cA (c49 _) ?_ ?_ | refine cG (fun e => c49 _) ?_ ?_ | refine cU (fun _ => c49 _) ?_ ?_); (next => exact flk); simp (disch := omega) only [strs, qt, qA, k0, go_sem])
   | ((first | refine qc ?_ ?_ | refine qb ?_ ?_); (next => exact rvk); simp only [go_sem]; first | exact VLe.refl _ | refine qd ?_ | refine qa ?_ | refine qe ?_ | skip)
   | with_reducible first | refine And.intro ?_ ?_ | intro _
  all_goals try exact clz
 rw [if_neg (fun hc => hc g0), if_neg (by omega)] at hR
 have k1 : ((4096 : Int) < l.length) = False := eq_false (by omega)
 rw [g0] at c49
 refine acO qt2 ?_
 simp (disch := omega) only [qv6, List.replicate, qA, k1, go_sem]
 repeat' first
  | ((first | refine cA (c49 _) ?_ ?_ | refine cG (fun e => c49 _) ?_ ?_ | refine cU (fun _ => c49 _) ?_ ?_); (next => exact flk); simp (disch := omega) only [qA, k1, go_sem])
  | ((first | refine qc ?_ ?_ | refine qb ?_ ?_); (next => exact rvk); simp only [go_sem]; first | exact VLe.refl _ | refine qd ?_ | refine qa ?_ | refine qe ?_ | skip)
  | with_reducible first | refine And.intro ?_ ?_ | intro _
 all_goals try exact clz
 refine qo (T := fun i : Nat => qK 91 [(0, strs names), (1, qt gs), (2, strs t), (3, qA l), (9, .int .i64 i)]) (H := fun _ => h ++ [.emp 0, .emp 0]) (inv := fun i => i ≤ l.length ∧ ∀ j, j < i → qaz names gs t (l.getD j default) = 0) (m := fun i => l.length - i) 0 ⟨Nat.zero_le _, fun j hj => by omega⟩ (Wk.temps ?_) ?_
 ·(simp only [qA, List.replicate, go_sem, qk, qh, qg, qj]; try (repeat' first | (with_reducible refine And.intro ?_ ?_) | (refine qd ?_; omega) | (refine qa ?_; rfl) | exact VLe.refl _))
 rintro i ⟨i1, i2⟩ K hK
 by_cases hi : i < l.length
 ·have k2 : ((i : Int) < l.length) = True := eq_true (by omega)
  have hE := qX (f := fun i => qaz names gs t (l.getD i default)) hi i2
  have c50 := c50 i
  obtain ⟨x, hx⟩ : ∃ x, x = l.getD i default := ⟨_, rfl⟩
  have ex := hx.symm
  simp only [ex] at hE c50
  simp only [enC] at c50
  by_cases g1 : qaz names gs t x = 0
  ·rw [g1] at c50
   simp (disch := omega) only [List.replicate, qA, enC, k2, ex, go_sem]
   repeat' first
    | ((first | refine cA (c50 _) ?_ ?_ | refine cG (fun e => c50 _) ?_ ?_ | refine cU (fun _ => c50 _) ?_ ?_); (next => exact flk); simp (disch := omega) only [qA, enC, k2, ex, go_sem])
    | ((first | refine qc ?_ ?_ | refine qb ?_ ?_); (next => exact rvk); simp only [go_sem]; first | exact VLe.refl _ | refine qd ?_ | refine qa ?_ | refine qe ?_ | skip)
    | with_reducible first | refine And.intro ?_ ?_ | intro _
   all_goals try exact clz
   refine hK _ _ (i + 1) ⟨hi, fun j hj => ?_⟩ (by omega) (Wk.temps ?_)
   ·by_cases e : j = i
    ·subst e; rw [ex]; exact g1
    ·exact i2 j (by omega)
   ·(simp only [qA, List.replicate, go_sem, qk, qh, qg, qj]; try (repeat' first | (with_reducible refine And.intro ?_ ?_) | (refine qd ?_; omega) | (refine qa ?_; rfl) | exact VLe.refl _))
  ·have k3 : (qaz names gs t x = 0) = False := eq_false g1
   rw [if_pos (by rw [hE g1]; exact g1), hE g1] at hR
   rw [hR]
   simp (disch := omega) only [List.replicate, qA, enC, k2, ex, go_sem]
   repeat' first
    | ((first | refine cA (c50 _) ?_ ?_ | refine cG (fun e => c50 _) ?_ ?_ | refine cU (fun _ => c50 _) ?_ ?_); (next => exact flk); simp (disch := omega) only [qA, enC, k2, ex, k3, go_sem])
    | ((first | refine qc ?_ ?_ | refine qb ?_ ?_); (next => exact rvk); simp only [go_sem]; first | exact VLe.refl _ | refine qd ?_ | refine qa ?_ | refine qe ?_ | skip)
    | with_reducible first | refine And.intro ?_ ?_ | intro _
   all_goals try exact clz
 have hn0 := qI (f := fun i => qaz names gs t (l.getD i default)) (fun j (hj : j < l.length) => i2 j (by omega))
 rw [if_neg (fun hc => hc hn0)] at hR
 have k2 : ((i : Int) < l.length) = False := eq_false (by omega)
 simp (disch := omega) only [List.replicate, qA, k2, go_sem]
 repeat' first
  | ((first | refine qc ?_ ?_ | refine qb ?_ ?_); (next => exact rvk); simp only [go_sem]; first | exact VLe.refl _ | refine qd ?_ | refine qa ?_ | refine qe ?_ | skip)
  | with_reducible first | refine And.intro ?_ ?_ | intro _
 all_goals try exact clz
 refine qo (T := fun i : Nat × AObj × AObj => qK 91 [(0, strs names), (1, qt gs), (3, qA l), (11, .int .i64 i.1)]) (H := fun i => h ++ [i.2.1, i.2.2]) (inv := fun i => i.1 ≤ names.length ∧ (∀ j, j < i.1 → jt (ofE names gs l (j : Int)) = false) ∧ qR [i.2.1] 0 = true ∧ qR [i.2.2] 0 = true)
  (m := fun i => names.length - i.1) (0, .emp 0, .emp 0) ⟨Nat.zero_le _, fun j hj => by omega, rfl, rfl⟩ (Wk.temps ?_) ?_
 ·(simp only [qA, List.replicate, go_sem, qk, qh, qg, qj]; try (repeat' first | (with_reducible refine And.intro ?_ ?_) | (refine qd ?_; omega) | (refine qa ?_; rfl) | exact VLe.refl _))
 rintro ⟨s, O1, O2⟩ ⟨s1, s2, s3, s4⟩ K2 hK2
 simp only at s1 s2 s3 s4 hK2
 by_cases hs : s < names.length
 ·have k3 : ((s : Int) < names.length) = True := eq_true (by omega)
  have c47 := c47 s
  have hat := fun {j} => @qpf names gs l (s : Int) j
  have hlen := qc6 names gs l (s : Int)
  have hcl := qbF (ofE names gs l (s : Int))
  have hol := qc4 names gs l (s : Int) l.length
  obtain ⟨m, hm⟩ : ∃ m, m = qab names gs l (s : Int) l.length := ⟨_, rfl⟩
  obtain ⟨L, hL⟩ : ∃ L, L = ofE names gs l (s : Int) := ⟨_, rfl⟩
  rw [← hm] at c47 hlen hol
  rw [← hL] at hlen hcl
  simp only [← hm, ← hL] at hat
  have hstep : jt L = false → ∀ j, j < s + 1 → jt (ofE names gs l (j : Int)) = false := by
   intro hc j hj
   by_cases e : j = s
   ·subst e; rw [← hL]; exact hc
   ·exact s2 j (by omega)
  simp (disch := omega) only [List.replicate, qA, strs, qm, k3, go_sem]
  unfold strs at c47
  repeat' first
   | ((first | refine cA (c47 _) ?_ ?_ | refine cG (fun e => c47 _) ?_ ?_ | refine cU (fun _ => c47 _) ?_ ?_); (next => exact flk); simp (disch := omega) only [qA, strs, qm, k3, go_sem])
   | ((first | refine qc ?_ ?_ | refine qb ?_ ?_); (next => exact rvk); simp only [go_sem]; first | exact VLe.refl _ | refine qd ?_ | refine qa ?_ | refine qe ?_ | skip)
   | with_reducible first | refine And.intro ?_ ?_ | intro _
  all_goals try exact clz
  refine qo (T := fun i : Nat × AObj × AObj => qK 91 [(0, strs names), (1, qt gs), (3, qA l), (11, .int .i64 s), (12, qm m), (13, .int .i64 ((i.1 : Int) + 1))]) (H := fun i => h ++ [i.2.1, i.2.2])
   (inv := fun i => (∀ j, j < i.1 → j + 1 < L.length → j0 (L.getD j default) (L.getD (j + 1) default) = false) ∧ qR [i.2.1] 0 = true ∧ qR [i.2.2] 0 = true) (m := fun i => L.length - i.1) (0, O1, O2) ⟨fun j hj => by omega, s3, s4⟩ (Wk.temps ?_) ?_
  ·(simp only [qA, qm, strs, List.replicate, go_sem, qk, qh, qg, qj]; try (repeat' first | (with_reducible refine And.intro ?_ ?_) | (refine qd ?_; omega) | (refine qa ?_; rfl) | exact VLe.refl _))
  rintro ⟨i, O1, O2⟩ ⟨i2, i3, i4⟩ K3 hK3
  simp only at i2 i3 i4 hK3
  have i3' : ∀ m, qR (O1 :: m) 0 = true := fun _ => i3
  have i4' : ∀ m, qR (O2 :: m) 0 = true := fun _ => i4
  by_cases hi : i + 1 < L.length
  ·have q1 : ((i : Int) + 1 < m.length) = True := eq_true (by omega)
   have q2 : ((i : Int) < m.length) = True := eq_true (by omega)
   have q3 : (0 ≤ (i : Int) + 1) = True := eq_true (by omega)
   have q4 : ((i : Int) + 1).toNat = i + 1 := by omega
   obtain ⟨Y, y1, y2, y3⟩ := hat (j := i) (by omega)
   obtain ⟨Z, z1, z2, z3⟩ := hat (j := i + 1) (by omega)
   have q5 : ((Y : Int) < l.length) = True := eq_true (by omega)
   have q6 : ((Z : Int) < l.length) = True := eq_true (by omega)
   have hst := i2
   obtain ⟨A, hA⟩ : ∃ A, A = l.getD Y default := ⟨_, rfl⟩
   obtain ⟨B, hB⟩ : ∃ B, B = l.getD Z default := ⟨_, rfl⟩
   have eA := hA.symm
   have eB := hB.symm
   rw [eA] at y3
   rw [eB] at z3
   have hcf : j0 A B = (decide (B.frm < A.to) || decide (A.frm = B.frm) && decide (A.to = B.to)) := rfl
   simp (disch := omega) only [List.replicate, qA, qm, q1, go_sem]
   repeat' first
    | ((first | refine qc ?_ ?_ | refine qb ?_ ?_); (next => exact rvk); simp only [go_sem]; first | exact VLe.refl _ | refine qd ?_ | refine qa ?_ | refine qe ?_ | skip)
    | with_reducible first | refine And.intro ?_ ?_ | intro _
   all_goals try exact clz
   refine qjd ?T ?H ?h1 ?h2
   case h1 =>
    simp (disch := omega) only [qA, qm, enC, q1, q2, q3, q4, q5, q6, y2, z2, i3', i4', eA, eB, Int.add_sub_cancel, Int.toNat_natCast, go_sem]
    repeat' first
     | ((first | refine qc ?_ ?_ | refine qb ?_ ?_); (next => exact rvk); simp only [go_sem]; first | exact VLe.refl _ | refine qd ?_ | refine qa ?_ | refine qe ?_ | skip)
     | with_reducible first | refine And.intro ?_ ?_ | intro _
    all_goals first
     | omega
     | rfl
   case h2 =>
   have good : j0 A B = false → qO Tryz.prog h.length (C.ops []) (fun _ _ _ => True) [] [] := fun _ => trivial
   have next : j0 A B = false → ∀ j, j < i + 1 → j + 1 < L.length → j0 (L.getD j default) (L.getD (j + 1) default) = false := by
    intro hc j hj hj2
    by_cases e : j = i
    ·subst e; rw [y3, z3]; exact hc
    ·exact i2 j (by omega) hj2
   have bad : j0 A B = true → R = 17 := by
    intro hc
    rw [hR, if_pos]
    unfold zU
    rw [zy]
    refine ⟨s, hs, ?_⟩
    rw [← hL, hcl]
    exact ⟨i, hi, by rw [y3, z3]; exact hc⟩
   by_cases b1 : B.frm < A.to
   ·have r1 : (B.frm < A.to) = True := eq_true b1
    rw [bad (by rw [hcf, decide_eq_true b1]; rfl)]
    simp (disch := omega) only [enC, r1, go_sem]
    repeat' first
     | ((first | refine qc ?_ ?_ | refine qb ?_ ?_); (next => exact rvk); simp only [go_sem]; first | exact VLe.refl _ | refine qd ?_ | refine qa ?_ | refine qe ?_ | skip)
     | with_reducible first | refine And.intro ?_ ?_ | intro _
    all_goals try exact clz
   have r1 : (B.frm < A.to) = False := eq_false b1
   by_cases b2 : A.frm = B.frm
   ·have r2 : (A.frm = B.frm) = True := eq_true b2
    by_cases b3 : A.to = B.to
    ·have r3 : (A.to = B.to) = True := eq_true b3
     rw [bad (by rw [hcf, decide_eq_true b2, decide_eq_true b3, Bool.and_true, Bool.or_true])]
     simp (disch := omega) only [enC, r1, r2, r3, go_sem]
     repeat' first
      | ((first | refine qc ?_ ?_ | refine qb ?_ ?_); (next => exact rvk); simp only [go_sem]; first | exact VLe.refl _ | refine qd ?_ | refine qa ?_ | refine qe ?_ | skip)
      | with_reducible first | refine And.intro ?_ ?_ | intro _
     all_goals try exact clz
    ·have r3 : (A.to = B.to) = False := eq_false b3
     simp (disch := omega) only [enC, r1, r2, r3, go_sem]
     repeat' first
      | ((first | refine qc ?_ ?_ | refine qb ?_ ?_); (next => exact rvk); simp only [go_sem]; first | exact VLe.refl _ | refine qd ?_ | refine qa ?_ | refine qe ?_ | skip)
      | with_reducible first | refine And.intro ?_ ?_ | intro _
     all_goals try exact clz
     refine hK3 _ _ (i + 1, _, _) ⟨next (by rw [hcf, decide_eq_false b1, decide_eq_false b3, Bool.and_false, Bool.or_false]), ?_, ?_⟩ (by simp only; omega) (Wk.temps ?_)
     rotate_left 2
     ·(simp only [qA, qm, strs, List.replicate, go_sem, qk, qh, qg, qj]; try (repeat' first | (with_reducible refine And.intro ?_ ?_) | (refine qd ?_; omega) | (refine qa ?_; rfl) | exact VLe.refl _))
     ·rfl
     ·rfl
   ·have r2 : (A.frm = B.frm) = False := eq_false b2
    simp (disch := omega) only [enC, r1, r2, go_sem]
    repeat' first
     | ((first | refine qc ?_ ?_ | refine qb ?_ ?_); (next => exact rvk); simp only [go_sem]; first | exact VLe.refl _ | refine qd ?_ | refine qa ?_ | refine qe ?_ | skip)
     | with_reducible first | refine And.intro ?_ ?_ | intro _
    all_goals try exact clz
    refine hK3 _ _ (i + 1, _, _) ⟨next (by rw [hcf, decide_eq_false b1, decide_eq_false b2, Bool.false_and, Bool.or_false]), ?_, ?_⟩ (by simp only; omega) (Wk.temps ?_)
    rotate_left 2
    ·(simp only [qA, qm, strs, List.replicate, go_sem, qk, qh, qg, qj]; try (repeat' first | (with_reducible refine And.intro ?_ ?_) | (refine qd ?_; omega) | (refine qa ?_; rfl) | exact VLe.refl _))
    ·rfl
    ·rfl
  ·have q1 : ((i : Int) + 1 < m.length) = False := eq_false (by omega)
   have hcn : jt L = false := by
    cases e : jt L with
    | false => rfl
    | true =>
     obtain ⟨j, j1, j2⟩ := hcl.1 e
     rw [i2 j (by omega) j1] at j2; cases j2
   simp (disch := omega) only [List.replicate, qA, qm, q1, go_sem]
   repeat' first
    | ((first | refine qc ?_ ?_ | refine qb ?_ ?_); (next => exact rvk); simp only [go_sem]; first | exact VLe.refl _ | refine qd ?_ | refine qa ?_ | refine qe ?_ | skip)
    | with_reducible first | refine And.intro ?_ ?_ | intro _
   all_goals try exact clz
   refine hK2 _ _ (s + 1, O1, O2) ⟨hs, hstep hcn, i3, i4⟩ (by simp only; omega) (Wk.temps ?_)
   (simp only [qA, qm, strs, List.replicate, go_sem, qk, qh, qg, qj]; try (repeat' first | (with_reducible refine And.intro ?_ ?_) | (refine qd ?_; omega) | (refine qa ?_; rfl) | exact VLe.refl _))
 ·have k3 : ((s : Int) < names.length) = False := eq_false (by omega)
  have hcn : zU names gs l = false := qF.2 fun j hj => s2 j (by omega)
  rw [hcn, if_neg (by simp)] at hR
  rw [hR]
  simp (disch := omega) only [List.replicate, qA, strs, k3, go_sem]
  repeat' first
   | ((first | refine qc ?_ ?_ | refine qb ?_ ?_); (next => exact rvk); simp only [go_sem]; first | exact VLe.refl _ | refine qd ?_ | refine qa ?_ | refine qe ?_ | skip)
   | with_reducible first | refine And.intro ?_ ?_ | intro _
  all_goals try exact clz
end RC
end
section
open Go Go.Proofs AF HY LN
namespace RC
set_option maxRecDepth 100000
set_option maxHeartbeats 8000000
theorem qqO {names : List Str} {gs : List Gr} {e : En} {src : Int} (h : jY names gs src e = true) : ∃ k : Nat, vIx names gs e src = (k : Int) ∧ k < e.vars.length ∧ qfp names gs e src = (e.vars.getD k default).words := by
 have h0 : 0 ≤ vIx names gs e src := of_decide_eq_true h
 have hl := qpn names gs e src
 refine ⟨(vIx names gs e src).toNat, by omega, by omega, rfl⟩
section
variable (names : List Str) (gs : List Gr) (t : List Str) (l : List En) (src : Int) (h : List AObj)
theorem qpm (hc : CSz names gs t l) (ok : qsj t (ofE names gs l src)) : ql Tryz.prog 45 [strs names, qt gs, strs t, qA l, .int .i64 src] h (strs (qb0 names gs t l src)) h := by
 have c47 := fun h => qvS names gs l src h hc.hz (by have := hc.ln; omega) hc.gm (fun i => by have := hc.vl i; omega) (fun i j => by have := hc.sg i j; omega)
 have c76 := fun (Y : Nat) h => vrR names gs (l.getD Y default) src h hc.hz (by have := hc.vl Y; omega) hc.gm (fun i => by have := hc.sg Y i; omega)
 have hat0 := fun {j} => @qpf names gs l src j
 have hlen0 := qc6 names gs l src
 have hol := qc4 names gs l src l.length
 have hln := hc.ln
 have htn := hc.tn
 have hall := qdj names gs t src (ofE names gs l src)
 have hat := fun i => qlu (names := names) (gs := gs) (src := src) ok i
 have hbnd := fun i => qlv (names := names) (gs := gs) (src := src) ok i
 have hrg := ok.rg
 have hhas : ∀ i, i < (ofE names gs l src).length → jY names gs src ((ofE names gs l src).getD i default) = true := fun i hi => (List.mem_filter.1 (zf hi)).2
 have hwl : ∀ i, i < (ofE names gs l src).length → ∀ k, (((ofE names gs l src).getD i default).vars.getD k default).words.length ≤ 1000 := fun i hi k => by
  obtain ⟨j, hj, e⟩ := List.getElem_of_mem (qc1 (zf hi))
  have := hc.wl j k
  rw [List.getD_eq_getElem?_getD (l := l), List.getElem?_eq_getElem hj] at this
  rw [← e]
  exact this
 have hlen : ∀ i, i ≤ (ofE names gs l src).length → (j7 names gs t src ((ofE names gs l src).take i)).1.length ≤ i * (t.length + 1000) := qdk hwl
 have hst := fun {i} hi => kA (names := names) (gs := gs) (t := t) (src := src) (L := ofE names gs l src) (i := i) hi
 have hR : qb0 names gs t l src = qhy names gs t src (ofE names gs l src) 0 := rfl
 rw [hR, ← hall]
 obtain ⟨F, hF⟩ : ∃ F, F = ofE names gs l src := ⟨_, rfl⟩
 obtain ⟨m, hm⟩ : ∃ m, m = qab names gs l src l.length := ⟨_, rfl⟩
 rw [← hm] at hlen0 hol
 simp only [← hm] at c47 hat0
 rw [← hF] at hlen0
 simp only [← hF] at hat0 hat hbnd hrg hhas hwl hlen hst ⊢
 have hlen : ∀ i, i ≤ F.length → (j7 names gs t src (F.take i)).1.length ≤ 20000 := fun i hi => by
  have h1 := hlen i hi
  have h2 : i * (t.length + 1000) ≤ 10 * 2000 := Nat.mul_le_mul (by omega) (by omega)
  omega
 refine acO qwL ?_
 simp (disch := omega) only [qxY, List.replicate, go_sem]
 repeat' first
  | ((first | refine cA (c47 _) ?_ ?_ | refine cG (fun e => c47 _) ?_ ?_ | refine cU (fun _ => c47 _) ?_ ?_); (next => exact flk); simp (disch := omega) only [go_sem])
  | ((first | refine qc ?_ ?_ | refine qb ?_ ?_); (next => exact rvk); simp only [go_sem]; first | exact VLe.refl _ | refine qd ?_ | refine qa ?_ | refine qe ?_ | skip)
  | with_reducible first | refine And.intro ?_ ?_ | intro _
 all_goals try exact clz
 have e0 : qP [AV.str []] 0 = zH (j7 names gs t src (F.take 0)).1 := rfl
 rw [e0]
 refine qo (T := fun i : Nat × Nat × AObj => qK 61 [(0, strs names), (1, qt gs), (2, strs t), (3, qA l), (4, .int .i64 src), (11, qm m), (12, .osl (h.length + 1) i.2.1 1 0 (j7 names gs t src (F.take i.1)).1.length), (13, .int .i64 (j7 names gs t src (F.take i.1)).2), (14, .int .i64 i.1)])
  (H := fun i => h ++ [.emp 1, .mem i.2.1 9 (zH (j7 names gs t src (F.take i.1)).1), i.2.2, .emp 0, .emp 0, .emp 0])
  (inv := fun i => i.1 ≤ F.length ∧ qR [i.2.2] 0 = true) (m := fun i => F.length - i.1) (0, 1, .emp 0) ⟨Nat.zero_le _, rfl⟩ (Wk.temps ?_) ?_
 ·have e1 : j7 names gs t src (F.take 0) = ([], 0) := rfl
  simp only [e1]
  (simp only [List.replicate, List.length_nil, go_sem, qk, qh, qg, qj]; try (repeat' first | (with_reducible refine And.intro ?_ ?_) | (refine qd ?_; omega) | (refine qa ?_; rfl) | exact VLe.refl _))
 rintro ⟨i, v, O⟩ ⟨i1, i2⟩ K hK
 simp only at i1 i2 hK
 have i2' : ∀ m, qR (O :: m) 0 = true := fun _ => i2
 have hl1 := hlen i i1
 have hb := hbnd i i1
 by_cases hi : i < F.length
 ·have hs := hst hi
  have ha := hat i hi
  have hl2 := hlen (i + 1) (by omega)
  have hr := hrg i hi
  have hw1 := hwl i hi
  obtain ⟨Y, y1, y2, y3⟩ := hat0 (j := i) (by omega)
  have c76 := c76 Y
  obtain ⟨k, k1, k2, k3⟩ := qqO (hhas i hi)
  rw [y3] at hs ha hr hw1 k1 k2 k3
  obtain ⟨e, he⟩ : ∃ e, e = l.getD Y default := ⟨_, rfl⟩
  have ee := he.symm
  rw [ee] at hs ha hr hw1 k1 k2 k3
  simp only [ee] at c76
  rw [k1] at c76
  rw [k3] at hs
  have hw2 := hw1 k
  obtain ⟨f, hf⟩ : ∃ f : Nat, e.frm = (f : Int) := ⟨e.frm.toNat, by omega⟩
  obtain ⟨g, hg⟩ : ∃ g : Nat, e.to = (g : Int) := ⟨e.to.toNat, by omega⟩
  rw [hf] at ha hr
  rw [hg] at hr
  rw [hf, hg] at hs
  simp only [Int.toNat_natCast] at hs
  rw [hs] at hl2
  obtain ⟨va, hva⟩ : ∃ va, va = e.vars.getD k default := ⟨_, rfl⟩
  have eva := hva.symm
  rw [eva] at hs hl2 hw2
  obtain ⟨out, hout⟩ : ∃ out, out = (j7 names gs t src (F.take i)).1 := ⟨_, rfl⟩
  obtain ⟨a, haa⟩ : ∃ a, a = (j7 names gs t src (F.take i)).2 := ⟨_, rfl⟩
  rw [← hout, ← haa] at hs hl2
  rw [← hout] at hl1
  rw [← haa] at ha hb
  simp only [← hout, ← haa]
  simp only [List.length_append] at hl2
  have haf : a ≤ f := by omega
  have hft : f ≤ t.length := by omega
  have q1 : ((i : Int) < m.length) = True := eq_true (by omega)
  have q2 : ((Y : Int) < l.length) = True := eq_true (by omega)
  have q3 : ((a : Int) ≤ f) = True := eq_true (by omega)
  have q4 : ((f : Int) ≤ t.length) = True := eq_true (by omega)
  have q5 : ((k : Int) < e.vars.length) = True := eq_true (by omega)
  have rt : ((f : Int) - a).toNat = f - a := by omega
  have eS := fun h => qbZ h haf hft
  have eF : (List.range va.words.length).flatMap (fun i => [AV.str (va.words.getD i [])]) = zH va.words := (Prod.mk.inj (Option.some.inj (qdg [] va.words))).2
  have eL := kK haf hft
  have eC := qZ out
  have eC2 := qZ (zQ t a f)
  have eC3 := qZ va.words
  have eC4 : (zH out ++ zH (zQ t a f)).length = out.length + (f - a) := by rw [List.length_append, eC, eC2, eL]
  have eT : List.take out.length (zH out) = zH out := List.take_of_length_le (by omega)
  have eT2 : List.take (out.length + (f - a)) (zH out ++ zH (zQ t a f)) = zH out ++ zH (zQ t a f) := List.take_of_length_le (by omega)
  simp only [enC, qC, vaC, strs, qt, hf, hg] at c76
  simp (disch := omega) only [List.replicate, strs, qt, qm, qA, enC, qC, vaC, q1, q2, q3, q4, q5, rt, y2, ee, hf, hg, eva, eS, eF, eC, eC2, eC3, eC4, eL, eT, eT2, i2', Nat.mul_one, Int.toNat_natCast, go_sem]
  repeat' first
   | ((first | refine cA (c76 _) ?_ ?_ | refine cG (fun e => c76 _) ?_ ?_ | refine cU (fun _ => c76 _) ?_ ?_); (next => exact flk); simp (disch := omega) only [strs, qt, qm, qA, enC, qC, vaC, q1, q2, q3, q4, q5, rt, y2, ee, hf, hg, eva, eS, eF, eC, eC2, eC3, eC4, eL, eT, eT2, i2', Nat.mul_one, Int.toNat_natCast, go_sem])
   | ((first | refine qc ?_ ?_ | refine qb ?_ ?_); (next => exact rvk); simp only [go_sem]; first | exact VLe.refl _ | refine qd ?_ | refine qa ?_ | refine qe ?_ | skip)
   | with_reducible first | refine And.intro ?_ ?_ | intro _
  all_goals try exact clz
  have eA : zH out ++ zH (zQ t a f) ++ zH va.words = zH (j7 names gs t src (F.take (i + 1))).1 := by rw [hs, kJ, kJ, List.append_assoc]
  have eN : out.length + (f - a) + va.words.length = (j7 names gs t src (F.take (i + 1))).1.length := by rw [hs]; simp only [List.length_append]; omega
  have eG : (((j7 names gs t src (F.take (i + 1))).2 : Nat) : Int) = (g : Int) := by rw [hs]
  rw [eA, eN]
  refine hK _ _ (i + 1, v + 1 + 1, .mem (qz (some O) + 1) 49 (enC e)) ⟨hi, rfl⟩ (by simp only; omega) ?_
  simp only [eG, enC, hf, hg, qC, vaC, strs, qm, qA, qt]
  refine Wk.temps ?_
  (simp only [List.replicate, go_sem, qk, qh, qg, qj]; try (repeat' first | (with_reducible refine And.intro ?_ ?_) | (refine qd ?_; omega) | (refine qa ?_; rfl) | exact VLe.refl _))
 ·obtain rfl : i = F.length := by omega
  rw [List.take_length] at hl1 hb
  simp only [List.take_length]
  obtain ⟨out, hout⟩ : ∃ out, out = (j7 names gs t src F).1 := ⟨_, rfl⟩
  obtain ⟨a, haa⟩ : ∃ a, a = (j7 names gs t src F).2 := ⟨_, rfl⟩
  rw [← hout] at hl1
  rw [← haa] at hb
  simp only [← hout, ← haa]
  have q1 : ((F.length : Int) < m.length) = False := eq_false (by omega)
  have q4 : ((a : Int) ≤ t.length) = True := eq_true (by omega)
  have rt : ((t.length : Int) - a).toNat = t.length - a := by omega
  have eS := fun h => qbZ h hb (Nat.le_refl t.length)
  have eL := kK hb (Nat.le_refl t.length)
  have eC := qZ out
  have eC2 := qZ (zQ t a t.length)
  have eT : List.take out.length (zH out) = zH out := List.take_of_length_le (by omega)
  simp (disch := omega) only [List.replicate, strs, qm, q1, q4, rt, eS, eC, eC2, eL, eT, Nat.mul_one, Int.toNat_natCast, go_sem]
  repeat' first
   | ((first | refine qc ?_ ?_ | refine qb ?_ ?_); (next => exact rvk); simp only [go_sem]; first | exact VLe.refl _ | refine qd ?_ | refine qa ?_ | refine qe ?_ | skip)
   | with_reducible first | refine And.intro ?_ ?_ | intro _
  all_goals try exact clz
  rw [← kJ, if_pos (by rw [qZ, List.length_append, eL]; omega)]
  exact qdi _ (fun _ => rfl) (by rw [List.length_append, eL])
theorem qxs (hc : CSz names gs t l) (hp : jv SG h) : ql Tryz.prog 13 [strs names, qt gs, strs t, qA l, .int .i64 src] h (.tup [strs (qol names gs t l src), .int .i64 (qcC names gs t l src)]) h := by
 have c21 := fun l' => qcl names gs t l (h ++ l') hc (hp.app l')
 unfold qol
 have nl0 : VLe AV.nl (strs []) := zW
 by_cases g : rdE names gs t l = 0
 case neg =>
  have e3 : qcC names gs t l src = 1 := if_neg g
  have k0 : (rdE names gs t l = 0) = False := eq_false g
  rw [e3, if_neg (by decide)]
  refine acO qm0 ?_
  simp (disch := omega) only [qsD, List.replicate, k0, go_sem]
  repeat' first
   | ((first | refine cA (c21 _) ?_ ?_ | refine cG (fun e => c21 _) ?_ ?_ | refine cU (fun _ => c21 _) ?_ ?_); (next => exact flk); simp (disch := omega) only [k0, go_sem])
   | ((first | refine qc ?_ ?_ | refine qb ?_ ?_); (next => exact rvk); simp only [go_sem]; first | exact VLe.refl _ | refine qd ?_ | refine qa ?_ | refine qe ?_ | skip)
   | with_reducible first | refine And.intro ?_ ?_ | intro _
  all_goals try exact clz
  exact zp ⟨nl0, VLe.refl _, trivial⟩
 have e3 : qcC names gs t l src = if inR names src = true then 0 else 2 := if_pos g
 simp only [g] at c21
 rcases kp names src (n := 0) with ⟨i1, i2⟩ | ⟨i1, i2, i3⟩ | ⟨s, rfl, i1, i2⟩
 ·rw [e3, i2, if_neg (by simp), if_neg (by decide)]
  have k1 : (src < 0) = True := eq_true i1
  refine acO qm0 ?_
  simp (disch := omega) only [qsD, List.replicate, k1, go_sem]
  repeat' first
   | ((first | refine cA (c21 _) ?_ ?_ | refine cG (fun e => c21 _) ?_ ?_ | refine cU (fun _ => c21 _) ?_ ?_); (next => exact flk); simp (disch := omega) only [k1, go_sem])
   | ((first | refine qc ?_ ?_ | refine qb ?_ ?_); (next => exact rvk); simp only [go_sem]; first | exact VLe.refl _ | refine qd ?_ | refine qa ?_ | refine qe ?_ | skip)
   | with_reducible first | refine And.intro ?_ ?_ | intro _
  all_goals try exact clz
  exact zp ⟨nl0, VLe.refl _, trivial⟩
 ·rw [e3, i3, if_neg (by simp), if_neg (by decide)]
  have k1 : (src < 0) = False := eq_false (by omega)
  have k2 : ((names.length : Int) ≤ src) = True := eq_true i2
  unfold strs at c21
  refine acO qm0 ?_
  simp (disch := omega) only [qsD, List.replicate, k1, strs, go_sem]
  repeat' first
   | ((first | refine cA (c21 _) ?_ ?_ | refine cG (fun e => c21 _) ?_ ?_ | refine cU (fun _ => c21 _) ?_ ?_); (next => exact flk); simp (disch := omega) only [k1, k2, strs, go_sem])
   | ((first | refine qc ?_ ?_ | refine qb ?_ ?_); (next => exact rvk); simp only [go_sem]; first | exact VLe.refl _ | refine qd ?_ | refine qa ?_ | refine qe ?_ | skip)
   | with_reducible first | refine And.intro ?_ ?_ | intro _
  all_goals try exact clz
  exact zp ⟨nl0, VLe.refl _, trivial⟩
 ·rw [e3, i2, if_pos rfl, if_pos rfl]
  have k1 : ((s : Int) < 0) = False := eq_false (by omega)
  have k2 : ((names.length : Int) ≤ s) = False := eq_false (by omega)
  have zl : ∀ g, valL g .len [strs names] = .int .i64 names.length := fun _ => rfl
  have zo : ∀ g, okL g .len [strs names] = True := fun _ => eq_true trivial
  have c45 := fun h => qpm names gs t l (s : Int) h hc ((jZ.1 g).tx i1)
  refine acO qm0 ?_
  simp (disch := omega) only [qsD, List.replicate, k1, zl, zo, go_sem]
  repeat' first
   | ((first | refine cA (c21 _) ?_ ?_ | refine cG (fun e => c21 _) ?_ ?_ | refine cA (c45 _) ?_ ?_ | refine cG (fun e => c45 _) ?_ ?_ | refine cU (fun _ => c21 _) ?_ ?_ | refine cU (fun _ => c45 _) ?_ ?_); (next => exact flk); simp (disch := omega) only [k1, k2, zl, zo, go_sem])
   | ((first | refine qc ?_ ?_ | refine qb ?_ ?_); (next => exact rvk); simp only [go_sem]; first | exact VLe.refl _ | refine qd ?_ | refine qa ?_ | refine qe ?_ | skip)
   | with_reducible first | refine And.intro ?_ ?_ | intro _
  all_goals try exact clz
theorem qwu (hc : CSz names gs t l) (hp : jv SG h) : ql Tryz.prog 17 [strs names, qt gs, strs t, qA l, .int .i64 src] h (.tup [.int .i64 (qsb names gs t l src), .int .i64 (qcC names gs t l src)]) h := by
 have c21 := qcl names gs t l h hc hp
 have c47 := fun h => qvS names gs l src h hc.hz (by have := hc.ln; omega) hc.gm (fun i => by have := hc.vl i; omega) (fun i j => by have := hc.sg i j; omega)
 have hol := qc6 names gs l src
 unfold qsb
 by_cases g : rdE names gs t l = 0
 case neg =>
  have e3 : qcC names gs t l src = 1 := if_neg g
  have k0 : (rdE names gs t l = 0) = False := eq_false g
  rw [e3, if_neg (by decide)]
  refine acO qm2 ?_
  simp (disch := omega) only [qsR, List.replicate, k0, go_sem]
  repeat' first
   | ((first | refine cA (c21) ?_ ?_ | refine cG (fun e => c21) ?_ ?_); (next => exact flk); simp (disch := omega) only [k0, go_sem])
   | ((first | refine qc ?_ ?_ | refine qb ?_ ?_); (next => exact rvk); simp only [go_sem]; first | exact VLe.refl _ | refine qd ?_ | refine qa ?_ | refine qe ?_ | skip)
   | with_reducible first | refine And.intro ?_ ?_ | intro _
  all_goals try exact clz
 have e3 : qcC names gs t l src = if inR names src = true then 0 else 2 := if_pos g
 rw [g] at c21
 rcases kp names src (n := 0) with ⟨i1, i2⟩ | ⟨i1, i2, i3⟩ | ⟨s, rfl, i1, i2⟩
 ·rw [e3, i2, if_neg (by simp), if_neg (by decide)]
  have k1 : (src < 0) = True := eq_true i1
  refine acO qm2 ?_
  simp (disch := omega) only [qsR, List.replicate, k1, go_sem]
  repeat' first
   | ((first | refine cA (c21) ?_ ?_ | refine cG (fun e => c21) ?_ ?_); (next => exact flk); simp (disch := omega) only [k1, go_sem])
   | ((first | refine qc ?_ ?_ | refine qb ?_ ?_); (next => exact rvk); simp only [go_sem]; first | exact VLe.refl _ | refine qd ?_ | refine qa ?_ | refine qe ?_ | skip)
   | with_reducible first | refine And.intro ?_ ?_ | intro _
  all_goals try exact clz
 ·rw [e3, i3, if_neg (by simp), if_neg (by decide)]
  have k1 : (src < 0) = False := eq_false (by omega)
  have k2 : ((names.length : Int) ≤ src) = True := eq_true i2
  unfold strs at c21
  refine acO qm2 ?_
  simp (disch := omega) only [qsR, List.replicate, k1, strs, go_sem]
  repeat' first
   | ((first | refine cA (c21) ?_ ?_ | refine cG (fun e => c21) ?_ ?_); (next => exact flk); simp (disch := omega) only [k1, k2, strs, go_sem])
   | ((first | refine qc ?_ ?_ | refine qb ?_ ?_); (next => exact rvk); simp only [go_sem]; first | exact VLe.refl _ | refine qd ?_ | refine qa ?_ | refine qe ?_ | skip)
   | with_reducible first | refine And.intro ?_ ?_ | intro _
  all_goals try exact clz
 ·rw [e3, i2, if_pos rfl, if_pos rfl]
  have k1 : ((s : Int) < 0) = False := eq_false (by omega)
  have k2 : ((names.length : Int) ≤ s) = False := eq_false (by omega)
  have zl : ∀ g, valL g .len [strs names] = .int .i64 names.length := fun _ => rfl
  have zo : ∀ g, okL g .len [strs names] = True := fun _ => eq_true trivial
  have zi : ∀ g, valL g .len [qm (qab names gs l (s : Int) l.length)] = .int .i64 (ofE names gs l (s : Int)).length := fun _ => by rw [← hol]; rfl
  have zj : ∀ g, okL g .len [qm (qab names gs l (s : Int) l.length)] = True := fun _ => eq_true trivial
  refine acO qm2 ?_
  simp (disch := omega) only [qsR, List.replicate, k1, zl, zo, go_sem]
  repeat' first
   | ((first | refine cA (c21) ?_ ?_ | refine cG (fun e => c21) ?_ ?_ | refine cA (c47 _) ?_ ?_ | refine cG (fun e => c47 _) ?_ ?_ | refine cU (fun _ => c47 _) ?_ ?_); (next => exact flk); simp (disch := omega) only [k1, k2, zl, zo, zi, zj, go_sem])
   | ((first | refine qc ?_ ?_ | refine qb ?_ ?_); (next => exact rvk); simp only [go_sem]; first | exact VLe.refl _ | refine qd ?_ | refine qa ?_ | refine qe ?_ | skip)
   | with_reducible first | refine And.intro ?_ ?_ | intro _
  all_goals try exact clz
theorem qvY (hc : CSz names gs t l) (hp : jv SG h) : ql Tryz.prog 15 [strs names, qt gs, strs t, qA l] h (.tup [zc (qex names gs t l), .int .i64 (opE (rdE names gs t l))]) h := by
 have c21 := fun l' => qcl names gs t l (h ++ l') hc (hp.app l')
 unfold qex
 have nl0 : VLe AV.nl (zc []) := zW
 have hnn := hc.nn
 by_cases g : rdE names gs t l = 0
 case neg =>
  have k0 : (rdE names gs t l = 0) = False := eq_false g
  have e2 : opE (rdE names gs t l) = 1 := if_neg g
  rw [e2, if_neg g]
  refine acO qtM ?_
  simp (disch := omega) only [qv2, List.replicate, k0, go_sem]
  repeat' first
   | ((first | refine cA (c21 _) ?_ ?_ | refine cG (fun e => c21 _) ?_ ?_ | refine cU (fun _ => c21 _) ?_ ?_); (next => exact flk); simp (disch := omega) only [k0, go_sem])
   | ((first | refine qc ?_ ?_ | refine qb ?_ ?_); (next => exact rvk); simp only [go_sem]; first | exact VLe.refl _ | refine qd ?_ | refine qa ?_ | refine qe ?_ | skip)
   | with_reducible first | refine And.intro ?_ ?_ | intro _
  all_goals try exact clz
  exact zp ⟨nl0, VLe.refl _, trivial⟩
 have e2 : opE 0 = 0 := rfl
 simp only [g] at c21
 rw [if_pos g, g, e2]
 have hok := jZ.1 g
 have zl : ∀ g, valL g .len [strs names] = .int .i64 names.length := fun _ => rfl
 have zo : ∀ g, okL g .len [strs names] = True := fun _ => eq_true trivial
 refine acO qtM ?_
 simp (disch := omega) only [qv2, List.replicate, go_sem]
 repeat' first
  | ((first | refine cA (c21 _) ?_ ?_ | refine cG (fun e => c21 _) ?_ ?_ | refine cU (fun _ => c21 _) ?_ ?_); (next => exact flk); simp (disch := omega) only [go_sem])
  | ((first | refine qc ?_ ?_ | refine qb ?_ ?_); (next => exact rvk); simp only [go_sem]; first | exact VLe.refl _ | refine qd ?_ | refine qa ?_ | refine qe ?_ | skip)
  | with_reducible first | refine And.intro ?_ ?_ | intro _
 all_goals try exact clz
 have e0 : qP [AV.nl] 0 = qby (kL names gs t l 0) := rfl
 rw [e0]
 refine qo (T := fun i : Nat × Nat × AObj => qK 35 [(0, strs names), (1, qt gs), (2, strs t), (3, qA l), (10, .osl (h.length + 1) i.2.1 1 0 i.1), (11, .int .i64 i.1)])
  (H := fun i => h ++ [.emp 1, .mem i.2.1 22 (qby (kL names gs t l i.1)), i.2.2, .emp 0])
  (inv := fun i => i.1 ≤ names.length ∧ qR [i.2.2] 0 = true) (m := fun i => names.length - i.1) (0, 1, .emp 0) ⟨Nat.zero_le _, rfl⟩ (Wk.temps ?_) ?_
 ·(simp only [List.replicate, go_sem, qk, qh, qg, qj]; try (repeat' first | (with_reducible refine And.intro ?_ ?_) | (refine qd ?_; omega) | (refine qa ?_; rfl) | exact VLe.refl _))
 rintro ⟨i, v, O⟩ ⟨i1, i2⟩ K hK
 simp only at i1 i2 hK
 have i2' : ∀ m, qR (O :: m) 0 = true := fun _ => i2
 have hst := qdv names gs t l i
 have hln := kC names gs t l i
 by_cases hi : i < names.length
 ·have k1 : ((i : Int) < names.length) = True := eq_true (by omega)
  have c45 := fun h => qpm names gs t l (i : Int) h hc (hok.tx hi)
  obtain ⟨L, hL⟩ : ∃ L, L = kL names gs t l i := ⟨_, rfl⟩
  rw [← hL] at hst hln
  have eL := hL.symm
  have eC := qbz L
  have eTk : List.take i (qby L) = qby L := List.take_of_length_le (by omega)
  simp (disch := omega) only [List.replicate, zl, zo, k1, i2', eL, Nat.mul_one, go_sem]
  repeat' first
   | ((first | refine cA (c45 _) ?_ ?_ | refine cG (fun e => c45 _) ?_ ?_ | refine cU (fun _ => c45 _) ?_ ?_); (next => exact flk); simp (disch := omega) only [zl, zo, k1, i2', eL, eC, hln, eTk, Nat.mul_one, go_sem])
   | ((first | refine qc ?_ ?_ | refine qb ?_ ?_); (next => exact rvk); simp only [go_sem]; first | exact VLe.refl _ | refine qd ?_ | refine qa ?_ | refine qe ?_ | skip)
   | with_reducible first | refine And.intro ?_ ?_ | intro _
  all_goals try exact clz
  have eA : qby L ++ [strs (qb0 names gs t l (i : Int))] = qby (kL names gs t l (i + 1)) := by rw [hst, qf6]; rfl
  try rw [eTk]
  rw [eA]
  refine hK _ _ (i + 1, v + 1, .mem (qz (some O) + 1) 22 [strs (qb0 names gs t l (i : Int))]) ⟨hi, rfl⟩ (by simp only; omega) (Wk.temps ?_)
  (simp only [List.replicate, go_sem, qk, qh, qg, qj]; try (repeat' first | (with_reducible refine And.intro ?_ ?_) | (refine qd ?_; omega) | (refine qa ?_; rfl) | exact VLe.refl _))
 ·obtain rfl : i = names.length := by omega
  have k1 : ((names.length : Int) < names.length) = False := eq_false (by omega)
  have eC := qbz (kL names gs t l names.length)
  simp (disch := omega) only [List.replicate, zl, zo, k1, go_sem]
  repeat' first
   | ((first | refine qc ?_ ?_ | refine qb ?_ ?_); (next => exact rvk); simp only [go_sem]; first | exact VLe.refl _ | refine qd ?_ | refine qa ?_ | refine qe ?_ | skip)
   | with_reducible first | refine And.intro ?_ ?_ | intro _
  all_goals try exact clz
  refine zp ⟨?_, VLe.refl _, trivial⟩
  rw [if_pos (by omega)]
  exact qf7 _ (fun _ => rfl) hln.symm
theorem qvZ (hc : CSz names gs t l) (hp : jv SG h) : ql Tryz.prog 19 [strs names, qt gs, strs t, qA l] h (.tup [qm (qmb names gs t l), .int .i64 (opE (rdE names gs t l))]) h := by
 have c21 := fun l' => qcl names gs t l (h ++ l') hc (hp.app l')
 have c47 := fun (s : Nat) h => qvS names gs l (s : Int) h hc.hz (by have := hc.ln; omega) hc.gm (fun i => by have := hc.vl i; omega) (fun i j => by have := hc.sg i j; omega)
 unfold qmb
 have hnn := hc.nn
 by_cases g : rdE names gs t l = 0
 case neg =>
  have k0 : (rdE names gs t l = 0) = False := eq_false g
  have e2 : opE (rdE names gs t l) = 1 := if_neg g
  rw [e2, if_neg g]
  refine acO qt0 ?_
  simp (disch := omega) only [qv4, List.replicate, k0, go_sem]
  repeat' first
   | ((first | refine cA (c21 _) ?_ ?_ | refine cG (fun e => c21 _) ?_ ?_ | refine cU (fun _ => c21 _) ?_ ?_); (next => exact flk); simp (disch := omega) only [k0, go_sem])
   | ((first | refine qc ?_ ?_ | refine qb ?_ ?_); (next => exact rvk); simp only [go_sem]; first | exact VLe.refl _ | refine qd ?_ | refine qa ?_ | refine qe ?_ | skip)
   | with_reducible first | refine And.intro ?_ ?_ | intro _
  all_goals try exact clz
  exact jG
 have e2 : opE 0 = 0 := rfl
 simp only [g] at c21
 rw [if_pos g, g, e2]
 have zl : ∀ g, valL g .len [strs names] = .int .i64 names.length := fun _ => rfl
 have zo : ∀ g, okL g .len [strs names] = True := fun _ => eq_true trivial
 refine acO qt0 ?_
 simp (disch := omega) only [qv4, List.replicate, go_sem]
 repeat' first
  | ((first | refine cA (c21 _) ?_ ?_ | refine cG (fun e => c21 _) ?_ ?_ | refine cU (fun _ => c21 _) ?_ ?_); (next => exact flk); simp (disch := omega) only [go_sem])
  | ((first | refine qc ?_ ?_ | refine qb ?_ ?_); (next => exact rvk); simp only [go_sem]; first | exact VLe.refl _ | refine qd ?_ | refine qa ?_ | refine qe ?_ | skip)
  | with_reducible first | refine And.intro ?_ ?_ | intro _
 all_goals try exact clz
 have e0 : qP [AV.int .i64 0] 0 = qw (zr (noE names gs l) 0) := rfl
 rw [e0]
 refine qo (T := fun i : Nat × Nat × AObj => qK 37 [(0, strs names), (1, qt gs), (3, qA l), (10, .osl (h.length + 1) i.2.1 1 0 (zr (noE names gs l) i.1).length), (11, .int .i64 i.1)])
  (H := fun i => h ++ [.emp 1, .mem i.2.1 3 (qw (zr (noE names gs l) i.1)), i.2.2, .emp 0])
  (inv := fun i => i.1 ≤ names.length ∧ qR [i.2.2] 0 = true) (m := fun i => names.length - i.1) (0, 1, .emp 0) ⟨Nat.zero_le _, rfl⟩ (Wk.temps ?_) ?_
 ·(simp only [zr, List.range_zero, List.filter_nil, List.length_nil, List.map_nil, List.replicate, go_sem, qk, qh, qg, qj]; try (repeat' first | (with_reducible refine And.intro ?_ ?_) | (refine qd ?_; omega) | (refine qa ?_; rfl) | exact VLe.refl _))
 rintro ⟨i, v, O⟩ ⟨i1, i2⟩ K hK
 simp only at i1 i2 hK
 have i2' : ∀ m, qR (O :: m) 0 = true := fun _ => i2
 have hst := jk (noE names gs l) i
 have hln := zP (noE names gs l) i
 have hnE : noE names gs l i = decide ((ofE names gs l (i : Int)).length = 0) := rfl
 have c47 := c47 i
 have hol := qc6 names gs l (i : Int)
 obtain ⟨m, hm⟩ : ∃ m, m = qab names gs l (i : Int) l.length := ⟨_, rfl⟩
 rw [← hm] at hol
 simp only [← hm] at c47
 rw [← hol] at hnE
 have zi : ∀ g, valL g .len [qm m] = .int .i64 m.length := fun _ => rfl
 have zj : ∀ g, okL g .len [qm m] = True := fun _ => eq_true trivial
 obtain ⟨L, hL⟩ : ∃ L, L = zr (noE names gs l) i := ⟨_, rfl⟩
 rw [← hL] at hst hln
 have eL := hL.symm
 have eC := qV L
 by_cases hi : i < names.length
 ·have k1 : ((i : Int) < names.length) = True := eq_true (by omega)
  have eTk : List.take L.length (qw L) = qw L := List.take_of_length_le (by omega)
  by_cases g0 : m.length = 0
  ·have k2 : ((m.length : Int) = 0) = True := eq_true (by omega)
   rw [if_pos (by rw [hnE]; exact decide_eq_true g0)] at hst
   simp (disch := omega) only [List.replicate, zl, zo, zi, zj, k1, i2', eL, Nat.mul_one, go_sem]
   repeat' first
    | ((first | refine cA (c47 _) ?_ ?_ | refine cG (fun e => c47 _) ?_ ?_ | refine cU (fun _ => c47 _) ?_ ?_); (next => exact flk); simp (disch := omega) only [zl, zo, zi, zj, k1, k2, i2', eL, eC, eTk, Nat.mul_one, go_sem])
    | ((first | refine qc ?_ ?_ | refine qb ?_ ?_); (next => exact rvk); simp only [go_sem]; first | exact VLe.refl _ | refine qd ?_ | refine qa ?_ | refine qe ?_ | skip)
    | with_reducible first | refine And.intro ?_ ?_ | intro _
   all_goals try exact clz
   have eA : qw L ++ [AV.int .i64 (i : Int)] = qw (zr (noE names gs l) (i + 1)) := by rw [hst, zG]; rfl
   try rw [eTk]
   rw [eA]
   refine hK _ _ (i + 1, v + 1, .mem (qz (some O) + 1) 3 [.int .i64 (i : Int)]) ⟨hi, rfl⟩ (by simp only; omega) ?_
   simp only [hst, List.length_append, List.length_cons, List.length_nil]
   refine Wk.temps ?_
   (simp only [List.replicate, go_sem, qk, qh, qg, qj]; try (repeat' first | (with_reducible refine And.intro ?_ ?_) | (refine qd ?_; omega) | (refine qa ?_; rfl) | exact VLe.refl _))
  ·have k2 : ((m.length : Int) = 0) = False := eq_false (by omega)
   rw [if_neg (by rw [hnE]; simpa using g0), List.append_nil] at hst
   simp (disch := omega) only [List.replicate, zl, zo, zi, zj, k1, i2', eL, go_sem]
   repeat' first
    | ((first | refine cA (c47 _) ?_ ?_ | refine cG (fun e => c47 _) ?_ ?_ | refine cU (fun _ => c47 _) ?_ ?_); (next => exact flk); simp (disch := omega) only [zl, zo, zi, zj, k1, k2, i2', eL, go_sem])
    | ((first | refine qc ?_ ?_ | refine qb ?_ ?_); (next => exact rvk); simp only [go_sem]; first | exact VLe.refl _ | refine qd ?_ | refine qa ?_ | refine qe ?_ | skip)
    | with_reducible first | refine And.intro ?_ ?_ | intro _
   all_goals try exact clz
   refine hK _ _ (i + 1, v, O) ⟨hi, i2⟩ (by simp only; omega) ?_
   simp only [hst]
   refine Wk.temps ?_
   (simp only [List.replicate, go_sem, qk, qh, qg, qj]; try (repeat' first | (with_reducible refine And.intro ?_ ?_) | (refine qd ?_; omega) | (refine qa ?_; rfl) | exact VLe.refl _))
 ·obtain rfl : i = names.length := by omega
  have k1 : ((names.length : Int) < names.length) = False := eq_false (by omega)
  rw [eL]
  simp (disch := omega) only [List.replicate, zl, zo, k1, eL, go_sem]
  repeat' first
   | ((first | refine qc ?_ ?_ | refine qb ?_ ?_); (next => exact rvk); simp only [go_sem]; first | exact VLe.refl _ | refine qd ?_ | refine qa ?_ | refine qe ?_ | skip)
   | with_reducible first | refine And.intro ?_ ?_ | intro _
  all_goals try exact clz
  refine zp ⟨?_, VLe.refl _, trivial⟩
  rw [if_pos (by omega)]
  exact zO _ (fun _ => rfl) rfl
end
end RC
end
section
open Go Go.Proofs AF HY LN
namespace RC
set_option maxRecDepth 100000
set_option maxHeartbeats 8000000
theorem qzs (a : List Str) (h : List AObj) (hn : a.length ≤ 1000000000) : ql Tryz.prog 51 [strs a, strs a] h (.bool true) h := by
 refine acO qwO ?_
 simp (disch := omega) only [qx1, List.replicate, strs, go_sem]
 repeat' first
  | ((first | refine qc ?_ ?_ | refine qb ?_ ?_); (next => exact rvk); simp only [go_sem]; first | exact VLe.refl _ | refine qd ?_ | refine qa ?_ | refine qe ?_ | skip)
  | with_reducible first | refine And.intro ?_ ?_ | intro _
 all_goals try exact clz
 refine qo (T := fun i : Nat => qK 26 [(0, strs a), (1, strs a), (5, .int .i64 i)]) (H := fun _ => h) (inv := fun i => i ≤ a.length) (m := fun i => a.length - i) 0 (Nat.zero_le _) (Wk.temps ?_) ?_
 ·(simp only [strs, List.replicate, go_sem, qk, qh, qg, qj]; try (repeat' first | (with_reducible refine And.intro ?_ ?_) | (refine qd ?_; omega) | (refine qa ?_; rfl) | exact VLe.refl _))
 rintro i i1 K hK
 by_cases hi : i < a.length
 ·have k1 : ((i : Int) < a.length) = True := eq_true (by omega)
  simp (disch := omega) only [List.replicate, strs, k1, go_sem]
  repeat' first
   | ((first | refine qc ?_ ?_ | refine qb ?_ ?_); (next => exact rvk); simp only [go_sem]; first | exact VLe.refl _ | refine qd ?_ | refine qa ?_ | refine qe ?_ | skip)
   | with_reducible first | refine And.intro ?_ ?_ | intro _
  all_goals try exact clz
  refine hK _ _ (i + 1) hi (by omega) (Wk.temps ?_)
  (simp only [strs, List.replicate, go_sem, qk, qh, qg, qj]; try (repeat' first | (with_reducible refine And.intro ?_ ?_) | (refine qd ?_; omega) | (refine qa ?_; rfl) | exact VLe.refl _))
 ·have k1 : ((i : Int) < a.length) = False := eq_false (by omega)
  simp (disch := omega) only [List.replicate, strs, k1, go_sem]
  repeat' first
   | ((first | refine qc ?_ ?_ | refine qb ?_ ?_); (next => exact rvk); simp only [go_sem]; first | exact VLe.refl _ | refine qd ?_ | refine qa ?_ | refine qe ?_ | skip)
   | with_reducible first | refine And.intro ?_ ?_ | intro _
  all_goals try exact clz
theorem qxr (L : List (List Str)) (h : List AObj) (hn : L.length ≤ 1000000000) (hl : ∀ i, (L.getD i []).length ≤ 1000000000) : ql Tryz.prog 23 [zc L, zc L] h (.bool true) h := by
 have c51 := fun i h => qzs (L.getD i []) h (hl i)
 refine acO qwC ?_
 simp (disch := omega) only [qxR, List.replicate, zc, go_sem]
 repeat' first
  | ((first | refine qc ?_ ?_ | refine qb ?_ ?_); (next => exact rvk); simp only [go_sem]; first | exact VLe.refl _ | refine qd ?_ | refine qa ?_ | refine qe ?_ | skip)
  | with_reducible first | refine And.intro ?_ ?_ | intro _
 all_goals try exact clz
 refine qo (T := fun i : Nat => qK 27 [(0, zc L), (1, zc L), (5, .int .i64 i)]) (H := fun _ => h) (inv := fun i => i ≤ L.length) (m := fun i => L.length - i) 0 (Nat.zero_le _) (Wk.temps ?_) ?_
 ·(simp only [zc, List.replicate, go_sem, qk, qh, qg, qj]; try (repeat' first | (with_reducible refine And.intro ?_ ?_) | (refine qd ?_; omega) | (refine qa ?_; rfl) | exact VLe.refl _))
 rintro i i1 K hK
 by_cases hi : i < L.length
 ·have k1 : ((i : Int) < L.length) = True := eq_true (by omega)
  have c51 := c51 i
  simp (disch := omega) only [List.replicate, zc, k1, go_sem]
  repeat' first
   | ((first | refine cA (c51 _) ?_ ?_ | refine cG (fun e => c51 _) ?_ ?_ | refine cU (fun _ => c51 _) ?_ ?_); (next => exact flk); simp (disch := omega) only [zc, k1, go_sem])
   | ((first | refine qc ?_ ?_ | refine qb ?_ ?_); (next => exact rvk); simp only [go_sem]; first | exact VLe.refl _ | refine qd ?_ | refine qa ?_ | refine qe ?_ | skip)
   | with_reducible first | refine And.intro ?_ ?_ | intro _
  all_goals try exact clz
  refine hK _ _ (i + 1) hi (by omega) (Wk.temps ?_)
  (simp only [zc, List.replicate, go_sem, qk, qh, qg, qj]; try (repeat' first | (with_reducible refine And.intro ?_ ?_) | (refine qd ?_; omega) | (refine qa ?_; rfl) | exact VLe.refl _))
 ·have k1 : ((i : Int) < L.length) = False := eq_false (by omega)
  simp (disch := omega) only [List.replicate, zc, k1, go_sem]
  repeat' first
   | ((first | refine qc ?_ ?_ | refine qb ?_ ?_); (next => exact rvk); simp only [go_sem]; first | exact VLe.refl _ | refine qd ?_ | refine qa ?_ | refine qe ?_ | skip)
   | with_reducible first | refine And.intro ?_ ?_ | intro _
  all_goals try exact clz
theorem eqS (a : List Str) (h : List AObj) (hn : a.length ≤ 1000000000) : ql Tryz.prog 22 [strs a, strs a] h (.bool true) h := by
 have c := qwy qt3 a.length a.length (fun j => .s (a.getD j [])) (fun j => .s (a.getD j [])) h (fun _ _ _ => rfl) (by omega) (by omega)
 rw [decide_eq_true ⟨rfl, fun _ _ => rfl⟩] at c
 exact c
theorem eqI (a : List Int) (h : List AObj) (hn : a.length ≤ 1000000000) : ql Tryz.prog 24 [qm a, qm a] h (.bool true) h := by
 have c := qwy qwD a.length a.length (fun j => .i (a.getD j 0)) (fun j => .i (a.getD j 0)) h (fun _ _ _ => rfl) (by omega) (by omega)
 rw [decide_eq_true ⟨rfl, fun _ _ => rfl⟩] at c
 exact c
def exN : List Str := [[65], [66], [67]]
def exT : List Str := [[100, 101, 117, 115], [101, 115, 116]]
def exL : List En := [⟨0, 0, 1, false, [], [⟨[[100, 111, 109, 105, 110, 117, 115]], [[66]]⟩]⟩, ⟨0, 2, 2, false, [], [⟨[[118, 101, 114, 101]], [[66], [67]]⟩]⟩]
def exA : List (List Str) := [[[100, 101, 117, 115], [101, 115, 116]], [[100, 111, 109, 105, 110, 117, 115], [101, 115, 116], [118, 101, 114, 101]], [[100, 101, 117, 115], [101, 115, 116], [118, 101, 114, 101]]]
theorem qtm : rdE exN [] exT exL = 0 := by decide +kernel
theorem qtj : qex exN [] exT exL = exA := by decide +kernel
theorem qtn : qol exN [] exT exL 2 = exA.getD 2 [] := by decide +kernel
theorem qqp : qcC exN [] exT exL 2 = 0 := by decide +kernel
theorem qtl : qsb exN [] exT exL 1 = 2 := by decide +kernel
theorem qqo : qcC exN [] exT exL 1 = 0 := by decide +kernel
theorem qtk : qmb exN [] exT exL = [0] := by decide +kernel
theorem qmH : qb6 exN [] exT exL = false := by decide +kernel
theorem qzr (h : List AObj) : ql Tryz.prog 42 [] h (.tup [strs exN, strs exT, qA exL]) h := by
 refine acO qwJ ?_
 simp (disch := omega) only [qxW, List.replicate, go_sem]
 repeat' first
  | ((first | refine qc ?_ ?_ | refine qb ?_ ?_); (next => exact rvk); simp only [go_sem]; first | exact VLe.refl _ | refine qd ?_ | refine qa ?_ | refine qe ?_ | skip)
  | with_reducible first | refine And.intro ?_ ?_ | intro _
 all_goals try exact clz
 have one : ∀ {f g : Nat → List AV}, f 0 = g 0 → ILe (.sl 1 f) (.sl 1 g) := fun h => ILe.sl_eq fun i hi => by
  obtain rfl : i = 0 := by omega
  exact h
 have two : ∀ {f g : Nat → List AV}, f 0 = g 0 → f 1 = g 1 → ILe (.sl 2 f) (.sl 2 g) := fun h1 h2 => ILe.sl_eq fun i hi => by
  match i, hi with
  | 0, _ => exact h1
  | 1, _ => exact h2
  | n + 2, hi => exact absurd hi (by omega)
 have one' : ∀ {f g : Nat → List AV}, jE (f 0) (g 0) → ILe (.sl 1 f) (.sl 1 g) := fun h => ILe.sl fun i hi => by
  obtain rfl : i = 0 := by omega
  exact h
 refine zp ⟨VLe.sl_eq rfl (fun i hi => ?_), VLe.sl_eq rfl (fun i hi => ?_), VLe.sl (fun i hi => ?_), trivial⟩
 ·match i, hi with
  | 0, _ => rfl
  | 1, _ => rfl
  | 2, _ => rfl
  | n + 3, hi => exact absurd hi (by omega)
 ·match i, hi with
  | 0, _ => rfl
  | 1, _ => rfl
  | n + 2, hi => exact absurd hi (by omega)
 ·match i, hi with
  | 0, _ =>
   refine ⟨ILe.refl _, ILe.refl _, ILe.refl _, ILe.refl _, ILe.nl, ?_, trivial⟩
   simp only [go_sem]
   refine one' ⟨?_, ?_, trivial⟩
   ·simp only [go_sem]
    exact one rfl
   ·simp only [go_sem]
    exact one rfl
  | 1, _ =>
   refine ⟨ILe.refl _, ILe.refl _, ILe.refl _, ILe.refl _, ILe.nl, ?_, trivial⟩
   simp only [go_sem]
   refine one' ⟨?_, ?_, trivial⟩
   ·simp only [go_sem]
    exact one rfl
   ·simp only [go_sem]
    exact two rfl rfl
  | n + 2, hi => exact absurd hi (by omega)
end RC
end
section
open Go Go.Proofs AF HY LN
namespace RC
set_option maxRecDepth 100000
set_option maxHeartbeats 8000000
theorem qyC (names : List Str) (t : List Str) (l : List En) : j8 [strs names, .nl, strs t, qA l] [strs names, qt [], strs t, qA l] := ⟨VLe.refl _, zW, VLe.refl _, VLe.refl _, trivial⟩
theorem qvg (names : List Str) (t : List Str) (l : List En) (n : Int) : j8 [strs names, .nl, strs t, qA l, .int .i64 n] [strs names, qt [], strs t, qA l, .int .i64 n] := ⟨VLe.refl _, zW, VLe.refl _, VLe.refl _, VLe.refl _, trivial⟩
theorem qzt {L : List (List Str)} {X : AV} {h : List AObj} (hv : j8 ([zc L, X].map (rei (fun _ => true) h 8)) [zc L, zc L]) (hn : L.length ≤ 1000000000) (hl : ∀ i, (L.getD i []).length ≤ 1000000000) : ql Tryz.prog 23 [zc L, X] h (.bool true) h :=
 ql.borrow ((qxr L [] hn hl).le hv (VLe.refl _)) rfl
theorem qyU {L : List Str} {X : AV} {h : List AObj} (hv : j8 ([strs L, X].map (rei (fun _ => true) h 8)) [strs L, strs L]) (hn : L.length ≤ 1000000000) : ql Tryz.prog 22 [strs L, X] h (.bool true) h :=
 ql.borrow ((eqS L [] hn).le hv (VLe.refl _)) rfl
theorem qyT {L : List Int} {X : AV} {h : List AObj} (hv : j8 ([qm L, X].map (rei (fun _ => true) h 8)) [qm L, qm L]) (hn : L.length ≤ 1000000000) : ql Tryz.prog 24 [qm L, X] h (.bool true) h :=
 ql.borrow ((eqI L [] hn).le hv (VLe.refl _)) rfl
theorem qvM (h : List AObj) (hp : jv SG h) : ql Tryz.prog 11 [] h (.bool true) h := by
 have hc : CSz exN [] exT exL := qaG qmH
 have c42 := fun h => qzr h
 have c14 := fun l => (qey exN [] exT exL (h ++ l) hc (hp.app l)).le (qyC _ _ _) (VLe.refl _)
 have c12 := fun l => (qrE exN [] exT exL 2 (h ++ l) hc (hp.app l)).le (qvg _ _ _ _) (VLe.refl _)
 have c18 := fun l => (qpD exN [] exT exL (h ++ l) hc (hp.app l)).le (qyC _ _ _) (VLe.refl _)
 have c16 := fun l => (qqb exN [] exT exL 1 (h ++ l) hc (hp.app l)).le (qvg _ _ _ _) (VLe.refl _)
 have e0 : opE 0 = 0 := rfl
 simp only [qtm, qtj, e0] at c14
 simp only [qtn, qqp] at c12
 simp only [qtm, qtk, e0] at c18
 simp only [qtl, qqo] at c16
 have zm : valP (.mm true) [.int .i64 0, .int .i64 0, .int .i64 0, .int .i64 0] = .int .i64 0 := rfl
 have zn : okP (.mm true) [.int .i64 0, .int .i64 0, .int .i64 0, .int .i64 0] = True := eq_true (by simp [okP, kq])
 refine acO qwB ?_
 simp (disch := omega) only [qxQ, List.replicate, zm, zn, go_sem]
 repeat' first
  | ((first | refine cA (c42 _) ?_ ?_ | refine cG (fun e => c42 _) ?_ ?_ | refine cA (c14 _) ?_ ?_ | refine cG (fun e => c14 _) ?_ ?_ | refine cA (c12 _) ?_ ?_ | refine cG (fun e => c12 _) ?_ ?_ | refine cA (c18 _) ?_ ?_ | refine cG (fun e => c18 _) ?_ ?_ | refine cA (c16 _) ?_ ?_ | refine cG (fun e => c16 _) ?_ ?_ | refine cU (fun _ => c42 _) ?_ ?_ | refine cU (fun _ => c14 _) ?_ ?_ | refine cU (fun _ => c12 _) ?_ ?_ | refine cU (fun _ => c18 _) ?_ ?_ | refine cU (fun _ => c16 _) ?_ ?_); (next => exact flk); simp (disch := omega) only [zm, zn, go_sem])
  | ((first | refine qc ?_ ?_ | refine qb ?_ ?_); (next => exact rvk); simp only [go_sem]; first | exact VLe.refl _ | refine qd ?_ | refine qa ?_ | refine qe ?_ | skip)
  | with_reducible first | refine And.intro ?_ ?_ | intro _
 all_goals try exact clz
 refine cG (fun _ => qzt (L := exA) (X := .osl (h.length + 3) 1 1 0 3) ?s1 (by decide) ?s2) (fun _ => by exact flk) ?_
 case s2 =>
  intro i
  match i with
  | 0 => decide
  | 1 => decide
  | 2 => decide
  | n + 3 => exact Nat.zero_le _
 case s1 =>
  simp only [List.map_cons, List.map_nil, go_sem]
  refine ⟨VLe.refl _, VLe.sl (fun i hi => ?_), trivial⟩
  match i, hi with
  | 0, _ =>
   refine ⟨?_, trivial⟩
   simp only [go_sem]
   refine ILe.sl_eq fun j hj => ?_
   match j, hj with
   | 0, _ => rfl
   | 1, _ => rfl
   | n + 2, hj => exact absurd hj (by omega)
  | 1, _ =>
   refine ⟨?_, trivial⟩
   simp only [go_sem]
   refine ILe.sl_eq fun j hj => ?_
   match j, hj with
   | 0, _ => rfl
   | 1, _ => rfl
   | 2, _ => rfl
   | n + 3, hj => exact absurd hj (by omega)
  | 2, _ =>
   refine ⟨?_, trivial⟩
   simp only [go_sem]
   refine ILe.sl_eq fun j hj => ?_
   match j, hj with
   | 0, _ => rfl
   | 1, _ => rfl
   | 2, _ => rfl
   | n + 3, hj => exact absurd hj (by omega)
  | n + 3, hi => exact absurd hi (by omega)
 simp (disch := omega) only [go_sem]
 repeat' first
  | ((first | refine qc ?_ ?_ | refine qb ?_ ?_); (next => exact rvk); simp only [go_sem]; first | exact VLe.refl _ | refine qd ?_ | refine qa ?_ | refine qe ?_ | skip)
  | with_reducible first | refine And.intro ?_ ?_ | intro _
 all_goals try exact clz
 refine cG (fun _ => qyU (L := exA.getD 2 []) (X := .osl (h.length + 4) 1 1 0 3) ?s3 (by decide)) (fun _ => by exact flk) ?_
 case s3 =>
  simp only [List.map_cons, List.map_nil, go_sem]
  refine ⟨VLe.refl _, VLe.sl_eq rfl (fun j hj => ?_), trivial⟩
  match j, hj with
  | 0, _ => rfl
  | 1, _ => rfl
  | 2, _ => rfl
  | n + 3, hj => exact absurd hj (by omega)
 simp (disch := omega) only [go_sem]
 repeat' first
  | ((first | refine qc ?_ ?_ | refine qb ?_ ?_); (next => exact rvk); simp only [go_sem]; first | exact VLe.refl _ | refine qd ?_ | refine qa ?_ | refine qe ?_ | skip)
  | with_reducible first | refine And.intro ?_ ?_ | intro _
 all_goals try exact clz
 refine cG (fun _ => qyT (L := [0]) (X := .osl (h.length + 5) 1 1 0 1) ?s4 (by decide)) (fun _ => by exact flk) ?_
 case s4 =>
  simp only [List.map_cons, List.map_nil, go_sem]
  refine ⟨VLe.refl _, VLe.sl_eq rfl (fun j hj => ?_), trivial⟩
  match j, hj with
  | 0, _ => rfl
  | n + 1, hj => exact absurd hj (by omega)
 simp (disch := omega) only [go_sem]
 repeat' first
  | ((first | refine qc ?_ ?_ | refine qb ?_ ?_); (next => exact rvk); simp only [go_sem]; first | exact VLe.refl _ | refine qd ?_ | refine qa ?_ | refine qe ?_ | skip)
  | with_reducible first | refine And.intro ?_ ?_ | intro _
 all_goals try exact clz
end RC
end
section
open Go Go.Proofs AF HY LN
namespace RC
set_option maxRecDepth 100000
set_option maxHeartbeats 8000000
theorem qdl {names : List Str} {gs : List Gr} {t : List Str} {l : List En} (hc : CSz names gs t l) (g : rdE names gs t l = 0) {s : Nat} (hs : s < names.length) : (qb0 names gs t l (s : Int)).length ≤ 30000 := by
 have ok := (jZ.1 g).tx hs
 have hol : (ofE names gs l (s : Int)).length ≤ l.length := by
  have := List.length_filter_le (jY names gs (s : Int)) (zY l)
  rw [jC] at this
  exact this
 have hwl : ∀ i, i < (ofE names gs l (s : Int)).length → ∀ k, (((ofE names gs l (s : Int)).getD i default).vars.getD k default).words.length ≤ 1000 := fun i hi k => by
  obtain ⟨j, hj, e⟩ := List.getElem_of_mem (qc1 (zf hi))
  have := hc.wl j k
  rw [List.getD_eq_getElem?_getD (l := l), List.getElem?_eq_getElem hj] at this
  rw [← e]
  exact this
 have h1 := qdk (t := t) (names := names) (gs := gs) (src := (s : Int)) hwl _ (Nat.le_refl _)
 rw [List.take_length] at h1
 have h2 : (ofE names gs l (s : Int)).length * (t.length + 1000) ≤ 10 * 2000 := Nat.mul_le_mul (by have := hc.ln; omega) (by have := hc.tn; omega)
 have h3 : (zQ t (j7 names gs t (s : Int) (ofE names gs l (s : Int))).2 t.length).length ≤ t.length := by unfold zQ; simp <;> omega
 have hR : qb0 names gs t l (s : Int) = qhy names gs t (s : Int) (ofE names gs l (s : Int)) 0 := rfl
 rw [hR, ← qdj, List.length_append]
 have := hc.tn
 omega
theorem qom {names : List Str} {gs : List Gr} {t : List Str} {l : List En} {src : Int} (hc : CSz names gs t l) : (qol names gs t l src).length ≤ 30000 := by
 unfold qol
 split
 ·rename_i h
  unfold qcC at h
  split at h
  ·rename_i g
   rcases kp names src (n := 0) with ⟨_, i2⟩ | ⟨_, _, i2⟩ | ⟨s, rfl, i1, i2⟩
   ·rw [i2] at h; cases h
   ·rw [i2] at h; cases h
   ·exact qdl hc g i1
  ·cases h
 ·exact Nat.zero_le _
theorem qcD {names : List Str} {gs : List Gr} {t : List Str} {l : List En} {n i : Nat} (hi : i < n) : (kL names gs t l n).getD i [] = qb0 names gs t l (i : Int) := by
 unfold kL
 rw [List.getD_eq_getElem?_getD, List.getElem?_map, List.getElem?_range hi]
 rfl
theorem qbn {names : List Str} {gs : List Gr} {t : List Str} {l : List En} (hc : CSz names gs t l) : (qex names gs t l).length ≤ 1000 ∧ ∀ i, ((qex names gs t l).getD i []).length ≤ 30000 := by
 unfold qex
 split
 ·rename_i g
  refine ⟨by rw [kC]; exact hc.nn, fun i => ?_⟩
  by_cases hi : i < names.length
  ·rw [qcD hi]; exact qdl hc g hi
  ·rw [List.getD_eq_getElem?_getD, List.getElem?_eq_none (by rw [kC]; omega)]
   exact Nat.zero_le _
 ·exact ⟨Nat.zero_le _, fun i => Nat.zero_le _⟩
theorem qmc {names : List Str} {gs : List Gr} {t : List Str} {l : List En} (hc : CSz names gs t l) : (qmb names gs t l).length ≤ 1000 := by
 unfold qmb
 split
 ·have := zP (noE names gs l) names.length
  have := hc.nn
  omega
 ·exact Nat.zero_le _
theorem qzd (names : List Str) (gs : List Gr) (t : List Str) (l : List En) (src : Int) (h : List AObj) (hb : CB names gs t l) (hp : jv SG h) : ql Tryz.prog 3 [.agg (qE names gs t l), .int .i64 src] h (.bool true) h := by
 have c10 := fun h => qys names gs t l h hb
 have c11 := fun l' => qvM (h ++ l') (hp.app l')
 unfold qE at c10
 cases hg : qb6 names gs t l with
 | true =>
  rw [hg] at c10
  refine acO qyq ?_
  simp (disch := omega) only [c3s, List.replicate, qE, go_sem]
  repeat' first
   | ((first | refine cA (c10 _) ?_ ?_ | refine cG (fun e => c10 _) ?_ ?_ | refine cA (c11 _) ?_ ?_ | refine cG (fun e => c11 _) ?_ ?_ | refine cU (fun _ => c10 _) ?_ ?_ | refine cU (fun _ => c11 _) ?_ ?_); (next => exact flk); simp (disch := omega) only [qE, go_sem])
   | ((first | refine qc ?_ ?_ | refine qb ?_ ?_); (next => exact rvk); simp only [go_sem]; first | exact VLe.refl _ | refine qd ?_ | refine qa ?_ | refine qe ?_ | skip)
   | with_reducible first | refine And.intro ?_ ?_ | intro _
  all_goals try exact clz
 | false =>
  rw [hg] at c10
  have hc := qaG hg
  have c12 := fun l' => qrE names gs t l src (h ++ l') hc (hp.app l')
  have c13 := fun l' => qxs names gs t l src (h ++ l') hc (hp.app l')
  have c14 := fun l' => qey names gs t l (h ++ l') hc (hp.app l')
  have c15 := fun l' => qvY names gs t l (h ++ l') hc (hp.app l')
  have c16 := fun l' => qqb names gs t l src (h ++ l') hc (hp.app l')
  have c17 := fun l' => qwu names gs t l src (h ++ l') hc (hp.app l')
  have c18 := fun l' => qpD names gs t l (h ++ l') hc (hp.app l')
  have c19 := fun l' => qvZ names gs t l (h ++ l') hc (hp.app l')
  have c20 := fun l' => qws names gs t l (h ++ l') hc (hp.app l')
  have c21 := fun l' => qcl names gs t l (h ++ l') hc (hp.app l')
  have c22 := fun h => eqS (qol names gs t l src) h (by have := qom (src := src) hc; omega)
  have c23 := fun h => qxr (qex names gs t l) h (by have := (qbn hc).1; omega) (fun i => by have := (qbn hc).2 i; omega)
  have c24 := fun h => eqI (qmb names gs t l) h (by have := qmc hc; omega)
  refine acO qyq ?_
  simp (disch := omega) only [c3s, List.replicate, qE, go_sem]
  repeat' first
   | ((first | refine cA (c10 _) ?_ ?_ | refine cG (fun e => c10 _) ?_ ?_ | refine cA (c11 _) ?_ ?_ | refine cG (fun e => c11 _) ?_ ?_ | refine cA (c12 _) ?_ ?_ | refine cG (fun e => c12 _) ?_ ?_ | refine cA (c13 _) ?_ ?_ | refine cG (fun e => c13 _) ?_ ?_ | refine cA (c14 _) ?_ ?_ | refine cG (fun e => c14 _) ?_ ?_ | refine cA (c15 _) ?_ ?_ | refine cG (fun e => c15 _) ?_ ?_ | refine cA (c16 _) ?_ ?_ | refine cG (fun e => c16 _) ?_ ?_ | refine cA (c17 _) ?_ ?_ | refine cG (fun e => c17 _) ?_ ?_ | refine cA (c18 _) ?_ ?_ | refine cG (fun e => c18 _) ?_ ?_ | refine cA (c19 _) ?_ ?_ | refine cG (fun e => c19 _) ?_ ?_ | refine cA (c20 _) ?_ ?_ | refine cG (fun e => c20 _) ?_ ?_ | refine cA (c21 _) ?_ ?_ | refine cG (fun e => c21 _) ?_ ?_ | refine cA (c22 _) ?_ ?_ | refine cG (fun e => c22 _) ?_ ?_ | refine cA (c23 _) ?_ ?_ | refine cG (fun e => c23 _) ?_ ?_ | refine cA (c24 _) ?_ ?_ | refine cG (fun e => c24 _) ?_ ?_ | refine cU (fun _ => c10 _) ?_ ?_ | refine cU (fun _ => c11 _) ?_ ?_ | refine cU (fun _ => c12 _) ?_ ?_ | refine cU (fun _ => c13 _) ?_ ?_ | refine cU (fun _ => c14 _) ?_ ?_ | refine cU (fun _ => c15 _) ?_ ?_ | refine cU (fun _ => c16 _) ?_ ?_ | refine cU (fun _ => c17 _) ?_ ?_ | refine cU (fun _ => c18 _) ?_ ?_ | refine cU (fun _ => c19 _) ?_ ?_ | refine cU (fun _ => c20 _) ?_ ?_ | refine cU (fun _ => c21 _) ?_ ?_ | refine cU (fun _ => c22 _) ?_ ?_ | refine cU (fun _ => c23 _) ?_ ?_ | refine cU (fun _ => c24 _) ?_ ?_); (next => exact flk); simp (disch := omega) only [qE, go_sem])
   | ((first | refine qc ?_ ?_ | refine qb ?_ ?_); (next => exact rvk); simp only [go_sem]; first | exact VLe.refl _ | refine qd ?_ | refine qa ?_ | refine qe ?_ | skip)
   | with_reducible first | refine And.intro ?_ ?_ | intro _
  all_goals try exact clz
end RC
end
section
open Go Go.Proofs AF HY Go.ChangeShapes Go.RowKit
namespace LN
set_option maxRecDepth 100000
theorem qxb : Tryz.prog.globalNamed "internal/strconv.uint64pow10" = some 3 := by kernel_rfl
theorem qxd : Tryz.prog.globalNamed "strconv.ErrSyntax" = some 1 := by kernel_rfl
theorem qxc : Tryz.prog.globalNamed "strconv.ErrRange" = some 2 := by kernel_rfl
theorem qnR {w w' : World} (h : qoR w) (e : w'.heap[3]? = w.heap[3]?) : qoR w' := by
 unfold qoR Lib.TabIs at *
 rw [qdn qxb e]
 exact h
theorem qfb : "*" ++ "errors.errorString" = "*errors.errorString" := by decide
theorem qpi (u : TypeId) (h : Tryz.prog.typeName? 3 u = some "*errors.errorString") : u = 227 :=
 typeName_ptr_named (nm := "errors.errorString") (by rw [qfb]; kernel_rfl) (by kernel_rfl) (by decide) u (by rw [qfb]; exact h)
def k9 : List Nat := [3, 1, 2]
def ql3 (w : World) : Prop := qoR w ∧ qsg w
theorem qvd {W : World} (h : laidMet Tryz.prog YthlgfjbghnildaaGreatDoor.Rows.reconstructReadsRow.laid W) : qoR W ∧ qsg W := by
 have h2 := laidMet.tail (laidMet.tail h)
 have h3 := laidMet.tail h2
 have h4 := laidMet.tail h3
 obtain ⟨a, s, e1, _⟩ := laid_sentinel (g := 2) (ti := 197) (tp := 227) (te := 229) (ts := 9) h3 qxc (by kernel_rfl) Tryz.underlying197 qpi Tryz.underlying227 Tryz.underlying229 rfl rfl Tryz.underlying9 (by kernel_rfl) (by kernel_rfl)
 obtain ⟨b, t, e2, _⟩ := laid_sentinel (g := 1) (ti := 197) (tp := 227) (te := 229) (ts := 9) h4 qxd (by kernel_rfl) Tryz.underlying197 qpi Tryz.underlying227 Tryz.underlying229 rfl rfl Tryz.underlying9 (by kernel_rfl) (by kernel_rfl)
 exact ⟨Lib.tabIs_of_head (t := 231) (e := 122) (n := 20) qxb (by kernel_rfl) Tryz.underlying231 Tryz.underlying122 (by kernel_rfl) (by kernel_rfl) h2, ⟨_, _, e2⟩, _, _, e1⟩
theorem qbx {W : World} (h : laidMet Tryz.prog YthlgfjbghnildaaGreatDoor.Rows.reconstructReadsRow.laid W) : ∀ b, b ∈ k9 → ∃ arr T fz, W.heap[b]? = some (.cells arr T fz) := by
 intro b hb
 obtain ⟨h1, ⟨_, _, h2⟩, _, _, h3⟩ := qvd h
 have e : b = 3 ∨ b = 1 ∨ b = 2 := by simpa [k9] using hb
 rcases e with rfl | rfl | rfl
 ·exact qb3 qxb h1
 ·exact qb3 qxd h2
 ·exact qb3 qxc h3
theorem qdd {W : World} (h : laidMet Tryz.prog YthlgfjbghnildaaGreatDoor.Rows.reconstructReadsRow.laid W) : ∀ w' : World, (∀ b, b ∈ k9 → w'.heap[b]? = W.heap[b]?) → ql3 w' := by
 intro w' hs
 obtain ⟨h1, ⟨t1, p1, h2⟩, t2, p2, h3⟩ := qvd h
 refine ⟨qnR h1 (hs 3 (by simp [k9])), ⟨t1, p1, ?_⟩, t2, p2, ?_⟩
 ·rw [qdn qxd (hs 1 (by simp [k9]))]; exact h2
 ·rw [qdn qxc (hs 2 (by simp [k9]))]; exact h3
theorem qdc : jv RC.SG [.pin k9 ql3] := ⟨0, _, _, rfl, fun _ h => h⟩
end LN
end
section
open Go Go.Proofs AF HY LN
namespace RC
set_option maxRecDepth 100000
set_option maxHeartbeats 8000000
theorem qzj (x y : Int) (h : List AObj) : ql Tryz.prog 52 [.int .i64 x, .int .i64 y] h (.bool (decide (x < y))) h := by
 have c86 := fun x h => qxj x h
 by_cases g : x < y
 ·have k1 : (x < y) = True := eq_true g
  rw [decide_eq_true g]
  refine acO qub ?_
  simp (disch := omega) only [qwe, List.replicate, k1, go_sem]
  repeat' first
   | (refine qn ((.bool false)) ?_; simp (disch := omega) only [k1, go_sem])
   | ((first | refine cA (c86 _ _) ?_ ?_ | refine cG (fun e => c86 _ _) ?_ ?_ | refine cU (fun _ => c86 _ _) ?_ ?_); (next => exact flk); simp (disch := omega) only [k1, go_sem])
   | ((first | refine qc ?_ ?_ | refine qb ?_ ?_); (next => exact rvk); simp only [go_sem]; first | exact VLe.refl _ | refine qd ?_ | refine qa ?_ | refine qe ?_ | skip)
   | with_reducible first | refine And.intro ?_ ?_ | intro _
  all_goals try exact clz
 ·have k1 : (x < y) = False := eq_false g
  rw [decide_eq_false g]
  refine acO qub ?_
  simp (disch := omega) only [qwe, List.replicate, k1, go_sem]
  repeat' first
   | (refine qn ((.bool false)) ?_; simp (disch := omega) only [k1, go_sem])
   | ((first | refine cA (c86 _ _) ?_ ?_ | refine cG (fun e => c86 _ _) ?_ ?_ | refine cU (fun _ => c86 _ _) ?_ ?_); (next => exact flk); simp (disch := omega) only [k1, go_sem])
   | ((first | refine qc ?_ ?_ | refine qb ?_ ?_); (next => exact rvk); simp only [go_sem]; first | exact VLe.refl _ | refine qd ?_ | refine qa ?_ | refine qe ?_ | skip)
   | with_reducible first | refine And.intro ?_ ?_ | intro _
  all_goals try exact clz
def qxO (L : List Int) : Prop := ∀ j, j + 1 < L.length → L.getD j 0 ≤ L.getD (j + 1) 0
theorem qzv (L : List Int) (h : List AObj) (hl : L.length ≤ 1000000) (hs : qxO L) : ql Tryz.prog 26 [qm L] h (.bool true) h := by
 have c52 := fun x y h => qzj x y h
 refine acO qwE ?_
 simp (disch := omega) only [qxS, List.replicate, qm, go_sem]
 repeat' first
  | ((first | refine qc ?_ ?_ | refine qb ?_ ?_); (next => exact rvk); simp only [go_sem]; first | exact VLe.refl _ | refine qd ?_ | refine qa ?_ | refine qe ?_ | skip)
  | with_reducible first | refine And.intro ?_ ?_ | intro _
 all_goals try exact clz
 refine qo (T := fun i : Int => qK 21 [(0, qm L), (3, .int .i64 i)]) (H := fun _ => h) (inv := fun i => -1 ≤ i ∧ i < L.length) (m := fun i => (i + 1).toNat) ((L.length : Int) - 1) ⟨by omega, by omega⟩ (Wk.temps ?_) ?_
 ·(simp only [qm, List.replicate, go_sem, qk, qh, qg, qj]; try (repeat' first | (with_reducible refine And.intro ?_ ?_) | (refine qd ?_; omega) | (refine qa ?_; rfl) | exact VLe.refl _))
 rintro i ⟨i1, i2⟩ K hK
 by_cases hi : 0 < i
 ·obtain ⟨m, rfl⟩ : ∃ m : Nat, i = (m : Int) + 1 := ⟨(i - 1).toNat, by omega⟩
  have q1 : (0 < (m : Int) + 1) = True := eq_true (by omega)
  have rt1 : ((m : Int) + 1).toNat = m + 1 := by omega
  have hd : decide (L.getD (m + 1) 0 < L.getD m 0) = false := decide_eq_false (by have := hs m (by omega); omega)
  simp (disch := omega) only [List.replicate, qm, q1, rt1, Int.add_sub_cancel, Int.toNat_natCast, go_sem]
  repeat' first
   | ((first | refine cA (c52 _ _ _) ?_ ?_ | refine cG (fun e => c52 _ _ _) ?_ ?_ | refine cU (fun _ => c52 _ _ _) ?_ ?_); (next => exact flk); simp (disch := omega) only [qm, q1, rt1, Int.add_sub_cancel, Int.toNat_natCast, hd, go_sem])
   | ((first | refine qc ?_ ?_ | refine qb ?_ ?_); (next => exact rvk); simp only [go_sem]; first | exact VLe.refl _ | refine qd ?_ | refine qa ?_ | refine qe ?_ | skip)
   | with_reducible first | refine And.intro ?_ ?_ | intro _
  all_goals try exact clz
  refine hK _ _ (m : Int) ⟨by omega, by omega⟩ (by omega) (Wk.temps ?_)
  (simp only [qm, List.replicate, go_sem, qk, qh, qg, qj]; try (repeat' first | (with_reducible refine And.intro ?_ ?_) | (refine qd ?_; omega) | (refine qa ?_; rfl) | exact VLe.refl _))
 ·have q1 : (0 < i) = False := eq_false hi
  simp (disch := omega) only [List.replicate, qm, q1, go_sem]
  repeat' first
   | ((first | refine qc ?_ ?_ | refine qb ?_ ?_); (next => exact rvk); simp only [go_sem]; first | exact VLe.refl _ | refine qd ?_ | refine qa ?_ | refine qe ?_ | skip)
   | with_reducible first | refine And.intro ?_ ?_ | intro _
  all_goals try exact clz
theorem qnr (p : Nat → Bool) : ∀ n, qxO (zr p n) ∧ ∀ x ∈ zr p n, x < n := by
 intro n
 induction n with
 | zero => exact ⟨fun j hj => by simp [zr] at hj, fun x hx => by simp [zr] at hx⟩
 | succ n ih =>
  obtain ⟨h1, h2⟩ := ih
  rw [jk]
  split
  ·refine ⟨fun j hj => ?_, fun x hx => ?_⟩
   ·rw [List.length_append, List.length_singleton] at hj
    by_cases hj2 : j + 1 < (zr p n).length
    ·have := h1 j hj2
     rw [List.getD_eq_getElem?_getD, List.getD_eq_getElem?_getD] at this ⊢
     rw [List.getElem?_append_left (by omega), List.getElem?_append_left hj2]
     exact this
    ·have hm := h2 _ (List.getElem_mem (show j < (zr p n).length by omega))
     rw [List.getD_eq_getElem?_getD, List.getElem?_append_left (by omega), List.getElem?_eq_getElem (by omega), List.getD_eq_getElem?_getD, List.getElem?_append_right (by omega), show j + 1 - (zr p n).length = 0 by omega]
     show (zr p n)[j] ≤ (n : Int)
     omega
   ·rcases List.mem_append.1 hx with hx | hx
    ·have := h2 x hx; omega
    ·simp at hx; omega
  ·rw [List.append_nil]
   exact ⟨h1, fun x hx => by have := h2 x hx; omega⟩
theorem qqY (p : Nat → Bool) (n s : Nat) (hs : s < n) : ((s : Int) ∈ zr p n) ↔ p s = true := by
 unfold zr
 rw [List.mem_map]
 constructor
 ·rintro ⟨k, hk, e⟩
  obtain ⟨_, hk2⟩ := List.mem_filter.1 hk
  have : k = s := Int.ofNat.inj e
  rw [← this]; exact hk2
 ·intro h
  exact ⟨s, List.mem_filter.2 ⟨List.mem_range.2 hs, h⟩, rfl⟩
theorem fnP (names : List Str) (gs : List Gr) (t : List Str) (l : List En) (h : List AObj) (hb : CB names gs t l) (hp : jv SG h) :
  ql Tryz.prog 25 [.agg (qE names gs t l)] h (.bool (!qb6 names gs t l && decide (rdE names gs t l = 0))) h := by
 have c10 := fun h => qys names gs t l h hb
 unfold qE at c10
 cases hg : qb6 names gs t l with
 | true =>
  rw [hg] at c10
  refine acO qt4 ?_
  simp (disch := omega) only [qv7, List.replicate, qE, go_sem]
  repeat' first
   | (refine qn (.int .i64 0) ?_; simp (disch := omega) only [qE, go_sem])
   | ((first | refine cA (c10 _) ?_ ?_ | refine cG (fun e => c10 _) ?_ ?_ | refine cU (fun _ => c10 _) ?_ ?_); (next => exact flk); simp (disch := omega) only [qE, go_sem])
   | ((first | refine qc ?_ ?_ | refine qb ?_ ?_); (next => exact rvk); simp only [go_sem]; first | exact VLe.refl _ | refine qd ?_ | refine qa ?_ | refine qe ?_ | skip)
   | with_reducible first | refine And.intro ?_ ?_ | intro _
  all_goals try exact clz
 | false =>
  rw [hg] at c10
  have c21 := fun l' => qcl names gs t l (h ++ l') (qaG hg) (hp.app l')
  refine acO qt4 ?_
  simp (disch := omega) only [qv7, List.replicate, qE, go_sem]
  repeat' first
   | ((first | refine cA (c10 _) ?_ ?_ | refine cG (fun e => c10 _) ?_ ?_ | refine cA (c21 _) ?_ ?_ | refine cG (fun e => c21 _) ?_ ?_ | refine cU (fun _ => c10 _) ?_ ?_ | refine cU (fun _ => c21 _) ?_ ?_); (next => exact flk); simp (disch := omega) only [qE, go_sem])
   | ((first | refine qc ?_ ?_ | refine qb ?_ ?_); (next => exact rvk); simp only [go_sem]; first | exact VLe.refl _ | refine qd ?_ | refine qa ?_ | refine qe ?_ | skip)
   | with_reducible first | refine And.intro ?_ ?_ | intro _
  all_goals try exact clz
theorem qpc {names : List Str} {gs : List Gr} {t : List Str} {l : List En} (h : rdE names gs t l = 0) : rdE names gs t [] = 0 :=
 jZ.2 ⟨(jZ.1 h).sg, Nat.zero_le _, fun e he => (by cases he), qF.2 fun s hs => rfl⟩
theorem quI {names : List Str} {gs : List Gr} {t : List Str} {l : List En} (h : CSz names gs t l) : CSz names gs t [] :=
 ⟨h.hz, h.ht, h.tn, Nat.zero_le _, h.nn, h.gm, fun i => ⟨Nat.zero_le _, Nat.zero_le _, fun j => ⟨Nat.zero_le _, fun k => Nat.zero_le _⟩, fun j => Nat.zero_le _⟩, fun i => Nat.zero_le _, fun i j => Nat.zero_le _, fun i j => Nat.zero_le _, fun i => Nat.zero_le _⟩
theorem quJ {names : List Str} {gs : List Gr} {t : List Str} {l : List En} {s : Int} (h : (ofE names gs l s).length = 0) : qb0 names gs t l s = t := by
 unfold qb0
 rw [List.length_eq_zero_iff.1 h]
 rfl
end RC
namespace RC
set_option maxRecDepth 100000
set_option maxHeartbeats 8000000
theorem qqa {names : List Str} {gs : List Gr} {t : List Str} {l : List En} (g : rdE names gs t l = 0) {s : Nat} (hs : s < names.length) : qcC names gs t l (s : Int) = 0 ∧ qsb names gs t l (s : Int) = (ofE names gs l (s : Int)).length ∧ qol names gs t l (s : Int) = qb0 names gs t l (s : Int) := by
 have e : qcC names gs t l (s : Int) = 0 := by
  unfold qcC inR
  rw [if_pos g, if_pos (by simp; exact hs)]
 exact ⟨e, if_pos e, if_pos e⟩
theorem qze (names : List Str) (gs : List Gr) (t : List Str) (l : List En) (h : List AObj) (hb : CB names gs t l) (hp : jv SG h) : ql Tryz.prog 4 [.agg (qE names gs t l)] h (.bool true) h := by
 have c25 := fun l' => fnP names gs t l (h ++ l') hb (hp.app l')
 have c11 := fun l' => qvM (h ++ l') (hp.app l')
 unfold qE at c25
 by_cases hf : qb6 names gs t l = false ∧ rdE names gs t l = 0
 case neg =>
  have e : (!qb6 names gs t l && decide (rdE names gs t l = 0)) = false := by
   cases h1 : qb6 names gs t l with
   | true => rfl
   | false =>
    have : ¬ rdE names gs t l = 0 := fun h2 => hf ⟨h1, h2⟩
    simp [this]
  simp only [e] at c25
  refine acO qyr ?_
  simp (disch := omega) only [c4s, List.replicate, qE, go_sem]
  repeat' first
   | ((first | refine cA (c25 _) ?_ ?_ | refine cG (fun e => c25 _) ?_ ?_ | refine cA (c11 _) ?_ ?_ | refine cG (fun e => c11 _) ?_ ?_ | refine cU (fun _ => c25 _) ?_ ?_ | refine cU (fun _ => c11 _) ?_ ?_); (next => exact flk); simp (disch := omega) only [qE, go_sem])
   | ((first | refine qc ?_ ?_ | refine qb ?_ ?_); (next => exact rvk); simp only [go_sem]; first | exact VLe.refl _ | refine qd ?_ | refine qa ?_ | refine qe ?_ | skip)
   | with_reducible first | refine And.intro ?_ ?_ | intro _
  all_goals try exact clz
 obtain ⟨hg, g⟩ := hf
 have e : (!qb6 names gs t l && decide (rdE names gs t l = 0)) = true := by rw [hg, decide_eq_true g]; rfl
 simp only [e] at c25
 have hc := qaG hg
 have hln := hc.ln
 have hnn := hc.nn
 have c18 := fun l' => qpD names gs t l (h ++ l') hc (hp.app l')
 have c14 := fun l' => (qey names gs t [] (h ++ l') (quI hc) (hp.app l')).le (args := [strs names, qt gs, strs t, .nl]) ⟨VLe.refl _, VLe.refl _, VLe.refl _, zW, trivial⟩ (VLe.refl _)
 have e0 : opE 0 = 0 := rfl
 have eB : qmb names gs t l = zr (noE names gs l) names.length := if_pos g
 have eA : qex names gs t [] = kL names gs t [] names.length := if_pos (qpc g)
 have hal := kC names gs t [] names.length
 simp only [g, e0, eB] at c18
 simp only [qpc g, e0, eA] at c14
 have c26 := fun h => qzv (zr (noE names gs l) names.length) h (by have := zP (noE names gs l) names.length; omega) (qnr _ _).1
 have z1 : ∀ g, valL g .len [strs names] = .int .i64 names.length := fun _ => rfl
 have z2 : ∀ g, okL g .len [strs names] = True := fun _ => eq_true trivial
 have z3 : ∀ g, valL g .len [zc (kL names gs t [] names.length)] = .int .i64 names.length := fun g => (show valL g .len [zc (kL names gs t [] names.length)] = .int .i64 (kL names gs t [] names.length).length from rfl).trans (by rw [hal])
 have z4 : ∀ g, okL g .len [zc (kL names gs t [] names.length)] = True := fun _ => eq_true trivial
 have z5 : ∀ g, valL g .len [qA l] = .int .i64 l.length := fun _ => rfl
 have z6 : ∀ g, okL g .len [qA l] = True := fun _ => eq_true trivial
 refine acO qyr ?_
 simp (disch := omega) only [c4s, List.replicate, qE, go_sem]
 repeat' first
  | ((first | refine cA (c25 _) ?_ ?_ | refine cG (fun e => c25 _) ?_ ?_ | refine cA (c11 _) ?_ ?_ | refine cG (fun e => c11 _) ?_ ?_ | refine cA (c18 _) ?_ ?_ | refine cG (fun e => c18 _) ?_ ?_ | refine cA (c14 _) ?_ ?_ | refine cG (fun e => c14 _) ?_ ?_ | refine cA (c26 _) ?_ ?_ | refine cG (fun e => c26 _) ?_ ?_ | refine cU (fun _ => c25 _) ?_ ?_ | refine cU (fun _ => c11 _) ?_ ?_ | refine cU (fun _ => c18 _) ?_ ?_ | refine cU (fun _ => c14 _) ?_ ?_ | refine cU (fun _ => c26 _) ?_ ?_); (next => exact flk); simp (disch := omega) only [qE, z1, z2, z3, z4, go_sem])
  | ((first | refine qc ?_ ?_ | refine qb ?_ ?_); (next => exact rvk); simp only [go_sem]; first | exact VLe.refl _ | refine qd ?_ | refine qa ?_ | refine qe ?_ | skip)
  | with_reducible first | refine And.intro ?_ ?_ | intro _
 all_goals try exact clz
 refine qo (T := fun i : Nat => qK 137 [(1, .op h.length 1 0), (3, qm (zr (noE names gs l) names.length)), (5, zc (kL names gs t [] names.length)), (59, .int .i64 names.length), (60, .int .i64 i)]) (H := fun _ => h ++ [.mem 1 26 (qE names gs t l)])
  (inv := fun i => i ≤ names.length) (m := fun i => names.length - i) 0 (Nat.zero_le _) (Wk.temps ?_) ?_
 ·(simp only [List.replicate, go_sem, qk, qh, qg, qj]; try (repeat' first | (with_reducible refine And.intro ?_ ?_) | (refine qd ?_; omega) | (refine qa ?_; rfl) | exact VLe.refl _))
 rintro i i1 K hK
 by_cases hi : i < names.length
 ·have k1 : ((i : Int) < names.length) = True := eq_true (by omega)
  obtain ⟨d1, d2, d3⟩ := qqa g hi
  have c16 := fun l' => qqb names gs t l (i : Int) (h ++ l') hc (hp.app l')
  have c12 := fun l' => qrE names gs t l (i : Int) (h ++ l') hc (hp.app l')
  have c27 := fun h => qpZ (zr (noE names gs l) names.length) (i : Int) h (by have := zP (noE names gs l) names.length; omega)
  have c22 := fun h => eqS t h (by have := hc.tn; omega)
  have hin := qqY (noE names gs l) names.length i hi
  have hnE : noE names gs l i = decide ((ofE names gs l (i : Int)).length = 0) := rfl
  have hq : (ofE names gs l (i : Int)).length ≤ l.length := by
   have := List.length_filter_le (jY names gs (i : Int)) (zY l)
   rw [jC] at this
   exact this
  have hnt := fun hz => quJ (t := t) (names := names) (gs := gs) (l := l) (s := (i : Int)) hz
  have hax : (kL names gs t [] names.length).getD i [] = t := by rw [qcD hi]; rfl
  simp only [d1, d2] at c16
  simp only [d1, d3] at c12
  obtain ⟨q, hqe⟩ : ∃ q, q = (ofE names gs l (i : Int)).length := ⟨_, rfl⟩
  rw [← hqe] at hnE hq
  simp only [← hqe] at c16 hnt
  have k2 : ((q : Int) < 0) = False := eq_false (by omega)
  have k3 : ((l.length : Int) < q) = False := eq_false (by omega)
  by_cases hz : q = 0
  ·have hd : decide ((i : Int) ∈ zr (noE names gs l) names.length) = true := decide_eq_true (hin.2 (by rw [hnE]; exact decide_eq_true hz))
   have k4 : ((q : Int) = 0) = True := eq_true (by omega)
   simp only [hnt hz] at c12
   simp only [hd] at c27
   simp (disch := omega) only [List.replicate, qE, zc, k1, hal, hax, go_sem]
   repeat' first
    | ((first | refine cA (c16 _) ?_ ?_ | refine cG (fun e => c16 _) ?_ ?_ | refine cA (c12 _) ?_ ?_ | refine cG (fun e => c12 _) ?_ ?_ | refine cA (c22 _) ?_ ?_ | refine cG (fun e => c22 _) ?_ ?_ | refine cA (c27 _) ?_ ?_ | refine cG (fun e => c27 _) ?_ ?_ | refine cU (fun _ => c16 _) ?_ ?_ | refine cU (fun _ => c12 _) ?_ ?_ | refine cU (fun _ => c22 _) ?_ ?_ | refine cU (fun _ => c27 _) ?_ ?_); (next => exact flk); simp (disch := omega) only [qE, zc, k1, k2, k3, k4, hal, hax, z5, z6, go_sem])
    | ((first | refine qc ?_ ?_ | refine qb ?_ ?_); (next => exact rvk); simp only [go_sem]; first | exact VLe.refl _ | refine qd ?_ | refine qa ?_ | refine qe ?_ | skip)
    | with_reducible first | refine And.intro ?_ ?_ | intro _
   all_goals try exact clz
   refine hK _ _ (i + 1) hi (by omega) (Wk.temps ?_)
   (simp only [List.replicate, zc, hal, go_sem, qk, qh, qg, qj]; try (repeat' first | (with_reducible refine And.intro ?_ ?_) | (refine qd ?_; omega) | (refine qa ?_; rfl) | exact VLe.refl _))
  ·have hd : decide ((i : Int) ∈ zr (noE names gs l) names.length) = false := decide_eq_false fun hm => hz (of_decide_eq_true (by rw [← hnE]; exact hin.1 hm))
   have k4 : ((q : Int) = 0) = False := eq_false (by omega)
   simp only [hd] at c27
   simp (disch := omega) only [List.replicate, qE, zc, k1, hal, hax, go_sem]
   repeat' first
    | (refine qn ( .bool true) ?_; simp (disch := omega) only [qE, zc, k1, k2, k3, k4, hal, hax, z5, z6, go_sem])
    | ((first | refine cA (c16 _) ?_ ?_ | refine cG (fun e => c16 _) ?_ ?_ | refine cA (c12 _) ?_ ?_ | refine cG (fun e => c12 _) ?_ ?_ | refine cA (c22 _) ?_ ?_ | refine cG (fun e => c22 _) ?_ ?_ | refine cA (c27 _) ?_ ?_ | refine cG (fun e => c27 _) ?_ ?_ | refine cU (fun _ => c16 _) ?_ ?_ | refine cU (fun _ => c12 _) ?_ ?_ | refine cU (fun _ => c22 _) ?_ ?_ | refine cU (fun _ => c27 _) ?_ ?_); (next => exact flk); simp (disch := omega) only [qE, zc, k1, k2, k3, k4, hal, hax, z5, z6, go_sem])
    | ((first | refine qc ?_ ?_ | refine qb ?_ ?_); (next => exact rvk); simp only [go_sem]; first | exact VLe.refl _ | refine qd ?_ | refine qa ?_ | refine qe ?_ | skip)
    | with_reducible first | refine And.intro ?_ ?_ | intro _
   all_goals try exact clz
   refine hK _ _ (i + 1) hi (by omega) (Wk.temps ?_)
   (simp only [List.replicate, zc, hal, go_sem, qk, qh, qg, qj]; try (repeat' first | (with_reducible refine And.intro ?_ ?_) | (refine qd ?_; omega) | (refine qa ?_; rfl) | exact VLe.refl _))
 ·have k1 : ((i : Int) < names.length) = False := eq_false (by omega)
  simp (disch := omega) only [List.replicate, k1, go_sem]
  repeat' first
   | ((first | refine cA (c11 _) ?_ ?_ | refine cG (fun e => c11 _) ?_ ?_ | refine cU (fun _ => c11 _) ?_ ?_); (next => exact flk); simp (disch := omega) only [k1, go_sem])
   | ((first | refine qc ?_ ?_ | refine qb ?_ ?_); (next => exact rvk); simp only [go_sem]; first | exact VLe.refl _ | refine qd ?_ | refine qa ?_ | refine qe ?_ | skip)
   | with_reducible first | refine And.intro ?_ ?_ | intro _
  all_goals try exact clz
end RC
end
section
open Go Go.Proofs AF
set_option maxRecDepth 100000
def qdU : List Nat := [93, 74, 79, 120, 147, 148, 161, 170, 63, 105, 131, 64, 31, 32, 57, 58, 29, 30]
def qv9 : C :=
 ((C.ops [ON 2 (.nilo 0 1 9) []]).seq ((C.ops [MC 3 (i6 0)]).seq (((C.ops [MV 9 0, O1 10 .len 9, MC 11 (i6 0)]).seq (C.block 0 ((C.ops [BI 12 .lss 11 10]).seq ((C.cond (.t 12)
 C.skip (C.exit 0)).seq ((C.block 1 ((C.ops [O2 13 (.idxA 1) 9 11, LD 14 13, MV 5 14]).seq ((C.ops [MV 15 3, MV 16 5, O1 17 .len 16, BI 18 .add 15 17, MV 3 18]).seq ((C.ops [MV 19
 3, BC 20 .lss 19 (i6 0)]).seq (C.cond (.t 20) C.bad C.skip))))).seq (C.ops [BC 22 .add 11 (i6 1), MV 11 22])))).loop)).seq ((C.ops [MV 23 3, ON 24 (.call 57 false) [.c .nl, .t 23],
 MV 6 24]).seq (((C.ops [MV 25 0, O1 26 .len 25, MC 27 (i6 0)]).seq (C.block 2 ((C.ops [BI 28 .lss 27 26]).seq ((C.cond (.t 28) C.skip (C.exit 2)).seq ((C.block 3 ((C.ops [O2 29
 (.idxA 1) 25 27, LD 30 29, MV 8 30]).seq (C.ops [MV 31 6, MV 32 8, O2 33 (.app 1 1 9 16) 31 32, MV 6 33]))).seq (C.ops [BC 34 .add 27 (i6 1), MV 27 34])))).loop)).seq ((C.ops [MV
 35 6, MV 2 35]).seq
 C.ret))))))
theorem qt6 : qH Tryz.prog 29 36 2 [RV.tmp 2] qv9 := fi Tryz.f29 [2, 33] qdU [] (by kernel_rfl) (by kernel_rfl) (by kernel_rfl) (by kernel_rfl)
def qxT : C :=
 ((C.ops [ON 2 (.nilo 0 6 49) []]).seq ((C.ops [MC 3 (i6 0)]).seq (((C.ops [MV 9 0, O1 10 .len 9, MC 11 (i6 0)]).seq (C.block 0 ((C.ops [BI 12 .lss 11 10]).seq ((C.cond (.t 12)
 C.skip (C.exit 0)).seq ((C.block 1 ((C.ops [O2 13 (.idxA 1) 9 11, LD 14 13, MV 5 14]).seq ((C.ops [MV 15 3, MV 16 5, O1 17 .len 16, BI 18 .add 15 17, MV 3 18]).seq ((C.ops [MV 19
 3, BC 20 .lss 19 (i6 0)]).seq (C.cond (.t 20) C.bad C.skip))))).seq (C.ops [BC 22 .add 11 (i6 1), MV 11 22])))).loop)).seq ((C.ops [MV 23 3, ON 24 (.call 58 false) [.c .nl, .t 23],
 MV 6 24]).seq (((C.ops [MV 25 0, O1 26 .len 25, MC 27 (i6 0)]).seq (C.block 2 ((C.ops [BI 28 .lss 27 26]).seq ((C.cond (.t 28) C.skip (C.exit 2)).seq ((C.block 3 ((C.ops [O2 29
 (.idxA 1) 25 27, LD 30 29, MV 8 30]).seq (C.ops [MV 31 6, MV 32 8, O2 33 (.app 1 6 49 80) 31 32, MV 6 33]))).seq (C.ops [BC 34 .add 27 (i6 1), MV 27 34])))).loop)).seq ((C.ops [MV
 35 6, MV 2 35]).seq
 C.ret))))))
theorem qwG : qH Tryz.prog 30 36 2 [RV.tmp 2] qxT := fi Tryz.f30 [2, 33] qdU [] (by kernel_rfl) (by kernel_rfl) (by kernel_rfl) (by kernel_rfl)
def qwf : C :=
 ((C.ops [ON 4 (.nilo 0 1 9) []]).seq (((C.ops [MV 5 1, BC 6 .lss 5 (i6 0)]).seq (C.cond (.t 6) C.bad C.skip)).seq (((C.ops [MV 8 1, MV 9 0, O1 10 .cap 9, MV 11 0, O1 12 .len 11, BI
 13 .sub 10 12, BI 14 .sub 8 13, MV 1 14]).seq ((C.ops [MV 15 1, BC 16 .gtr 15 (i6 0)]).seq (C.cond (.t 16) (C.ops [MV 17 0, MV 18 0, O1 19 .cap 18, O2 20 (.slc 1 false true) 17 19,
 MV 21 1, ⟨some 22, none, .appz 1 1 9 [.str []] 16, [.t 20, .t 21]⟩, MV 23 0, O1 24 .len 23, O2 25 (.slc 1 false true) 22 24, MV 0 25]) C.skip))).seq ((C.ops [MV 26 0, MV 4 26]).seq
 C.ret))))
theorem quc : qH Tryz.prog 57 27 2 [RV.tmp 4] qwf := fi Tryz.f57 [4, 22] qdU [] (by kernel_rfl) (by kernel_rfl) (by kernel_rfl) (by kernel_rfl)
def qx5 : C :=
 ((C.ops [ON 4 (.nilo 0 6 49) []]).seq (((C.ops [MV 5 1, BC 6 .lss 5 (i6 0)]).seq (C.cond (.t 6) C.bad C.skip)).seq (((C.ops [MV 8 1, MV 9 0, O1 10 .cap 9, MV 11 0, O1 12 .len 11,
 BI 13 .sub 10 12, BI 14 .sub 8 13, MV 1 14]).seq ((C.ops [MV 15 1, BC 16 .gtr 15 (i6 0)]).seq (C.cond (.t 16) (C.ops [MV 17 0, MV 18 0, O1 19 .cap 18, O2 20 (.slc 6 false true) 17
 19, MV 21 1, ⟨some 22, none, .appz 1 6 49 [i6 0, i6 0, i6 0, .bool false, .nl, .nl] 80, [.t 20, .t 21]⟩, MV 23 0, O1 24 .len 23, O2 25 (.slc 6 false true) 22 24, MV 0 25])
 C.skip))).seq ((C.ops [MV 26 0, MV 4 26]).seq
 C.ret))))
theorem qwT : qH Tryz.prog 58 27 2 [RV.tmp 4] qx5 := fi Tryz.f58 [4, 22] qdU [] (by kernel_rfl) (by kernel_rfl) (by kernel_rfl) (by kernel_rfl)
def qxU : C :=
 ((C.ops [MV 4 0, O1 5 .len 4, BC 6 .sub 5 (i6 1), MC 2 (i6 0), MV 3 6]).seq (C.block 0 (((C.ops [MV 7 2, MV 8 3, BI 9 .lss 7 8]).seq (C.cond (.t 9) C.skip (C.exit 0))).seq
 ((C.block 1 (C.ops [MV 14 0, MV 15 2, MV 16 0, MV 17 3, MV 18 0, MV 19 3, O2 20 (.idxA 6) 18 19, O1 21 (.load (some 6)) 20, MV 22 0, MV 23 2, O2 24 (.idxA 6) 22 23, O1 25 (.load
 (some 6)) 24, O2 26 (.idxA 6) 14 15, ST 6 26 21, O2 27 (.idxA 6) 16 17, ST 6 27 25])).seq (C.ops [MV 10 2, BC 11 .add 10 (i6 1), MV 12 3, BC 13 .sub 12 (i6 1), MV 2 11, MV 3
 13]))).loop))
theorem qwH : qH Tryz.prog 32 28 0 [] qxU := fi Tryz.f32 [] qdU [] (by kernel_rfl) (by kernel_rfl) (by kernel_rfl) (by kernel_rfl)
end
section
open Go Go.Proofs AF HY LN
namespace AF
structure qb5 (E : AV) (n : Nat) (cs : List AV) : Prop where
 fl : E.flag = true
 st : E.strip = E
 vl : ∀ g, valL g .len [E] = .int .i64 n
 ok : ∀ g, okL g .len [E] = True
 sc : ∀ g, qr g E = some (n, cs)
 ap : ∀ k v z p m, qaZ (.osl k v z p m) E = true
theorem qb5.sl (n : Nat) (f : Nat → List AV) : qb5 (.sl n f) n ((List.range n).flatMap f) := ⟨rfl, rfl, fun _ => rfl, fun _ => eq_true trivial, fun _ => rfl, fun _ _ _ _ _ => rfl⟩
theorem qcN {α : Type} (L : List (List α)) {i : Nat} (h : i < L.length) : (L.take (i + 1)).flatten = (L.take i).flatten ++ L.getD i [] := by
 rw [List.take_succ_eq_append_getElem h, List.flatten_append, List.getD_eq_getElem?_getD, List.getElem?_eq_getElem h]
 simp
theorem qmN {α : Type} (L : List (List α)) (i : Nat) : (L.take i).flatten.length ≤ L.flatten.length := by
 conv => rhs; rw [← List.take_append_drop i L, List.flatten_append, List.length_append]
 omega
theorem qd1 {z : List AV} {c : AV} : ∀ {n : Nat}, c ∈ qP z n → c ∈ z := by
 intro n
 induction n with
 | zero => intro h; simp [qP] at h
 | succ n ih => intro h; simp only [qP, List.mem_append] at h; exact h.elim id ih
structure Src (h : List AObj) (e : AV) (n : Nat) (cs : List AV) : Prop where
 flag : e.flag = true
 strip : e.strip = e
 lenOk : ∀ X, okL (h ++ X) .len [e] = True
 len : ∀ X, valL (h ++ X) .len [e] = .int .i64 n
 cells : ∀ X, qr (h ++ X) e = some (n, cs)
 apart : ∀ k v z p m, h.length ≤ k → qaZ (.osl k v z p m) e = true
theorem qy3 {P : Program} {f : FuncId} {args : List AV} {h h' : List AObj} {r : AV} (ks : List Nat) (hs : jV ks h = true) (hc : ql P f (args.map (frz (fun k => ks.contains k) h 8)) (qcV ks h) r h') : ql P f args h r h' := by
 refine ⟨hc.1, fun w σ xs H hv => ?_⟩
 obtain ⟨σ', g1, g2, g3, g4⟩ := qbM ks H hs
 refine (hc.2 w σ' xs g1 ⟨by rw [hv.1]; simp, fun i c x hcc hx => ?_⟩).mono ?_
 ·rw [List.getElem?_map, Option.map_eq_some_iff] at hcc
  obtain ⟨c0, hcc, rfl⟩ := hcc
  exact qfL H (fun b hb => (g4 b hb).elim fun j ⟨o, h1, h2, h3⟩ => ⟨j, o, by simpa using h1, h2, h3⟩) (fun j o hj ho => g3 j o (by simpa using hj) ho) 8 (hv.2 i c0 x hcc hx)
 ·rintro e w' ⟨v, σ2, rfl, k1, k2, k3⟩
  exact ⟨v, σ2, rfl, k1, k2, g2.trans k3⟩
end AF
namespace RC
set_option maxRecDepth 100000
set_option maxHeartbeats 8000000
theorem qfE {L : List En} {n : Nat} {fz : Nat → Bool} {h : List AObj} {d : Nat} (hn : n = L.length) : VLe (.sl n fun i => (((zK L).drop (i * 6)).take 6).map (rei fz h (d + 1))) (qA L) := by
 subst hn
 refine VLe.sl_eq rfl (fun i hi => ?_)
 rw [kE hi]
 rfl
theorem qb5.strs (L : List Str) : qb5 (strs L) L.length (zH L) := ⟨rfl, rfl, fun _ => rfl, fun _ => eq_true trivial, fun g => qdg g L, fun _ _ _ _ _ => rfl⟩
theorem qb5.sub {t : List Str} {a b : Nat} (h1 : a ≤ b) (h2 : b ≤ t.length) : qb5 (.sl (b - a) fun i => [.str (t.getD (a + i) [])]) (zQ t a b).length (zH (zQ t a b)) := by
 rw [kK h1 h2]
 exact ⟨rfl, rfl, fun _ => rfl, fun _ => eq_true trivial, fun g => qbZ g h1 h2, fun _ _ _ _ _ => rfl⟩
theorem qy5 (n : Nat) (h : List AObj) (k : Nat) (hk : qR h k = true) (hn : 0 < n) (hn1 : n ≤ 1000000000) :
  ql Tryz.prog 57 [.nl, .int .i64 n] h (.osl k (qz (qy k h) + 1) 1 0 0) (qB k h (.mem (qz (qy k h) + 1) 9 (qP [.str []] n))) := by
 refine qeu quc k (by simp) ?_
 simp only [List.length_cons, List.length_nil, Nat.reduceAdd, Nat.reduceSub, List.replicate, List.cons_append, List.nil_append, List.append_nil]
 simp (disch := omega) only [qwf, go_sem]
 repeat' first
  | (with_reducible refine And.intro ?_ ?_)
  | (with_reducible intro _)
 all_goals first
  | omega
  | skip
 have e0 : ((n : Int) - (0 - 0)).toNat = n := by omega
 rw [e0]
 exact ⟨h.length + 1, 1, 1, 0, 0, 9, qP [.str []] n, [AObj.emp 1, AObj.mem 1 9 (qP [.str []] n)], ⟨trivial, trivial⟩, rfl, rfl, by omega, by simp only [go_sem], fun c hc => by have := qd1 hc; simp at this; subst this; rfl, hk, rfl, rfl⟩
theorem qxe (h : List AObj) : ql Tryz.prog 57 [.nl, .int .i64 0] h .nl h := by
 refine acO quc ?_
 simp (disch := omega) only [qwf, List.replicate, go_sem]
 repeat' first
  | ((first | refine qc ?_ ?_ | refine qb ?_ ?_); (next => exact rvk); simp only [go_sem]; first | exact VLe.refl _ | refine qd ?_ | refine qa ?_ | refine qe ?_ | skip)
  | with_reducible first | refine And.intro ?_ ?_ | intro _
 all_goals try exact clz
theorem qyK (Ls : List (List Str)) (E : Nat → AV) (h : List AObj) (k v : Nat) (cs : List AV) (hk : qy k h = some (.mem v 22 cs)) (hcl : cs.length = Ls.length) (hE : ∀ i, i < Ls.length → cs[i]? = some (E i) ∧ qb5 (E i) (Ls.getD i []).length (zH (Ls.getD i [])))
  (h0 : 0 < Ls.flatten.length) (h1 : Ls.flatten.length ≤ 1000000000) (h2 : Ls.length ≤ 1000000000) : ql Tryz.prog 29 [.osl k v 1 0 Ls.length] h (strs Ls.flatten) h := by
 have hkl : k < h.length := zu hk
 have hL : ∀ X, qT (h ++ X) k v = true := fun X => by rw [qaJ hkl]; unfold qT; rw [hk]; simp
 have hC : ∀ X, cellsOf (h ++ X) k v = some cs := fun X => by rw [kh hkl]; exact zT hk
 have hLs : 0 < Ls.length := by
  cases Ls with
  | nil => simp at h0
  | cons => simp
 refine acO qt6 ?_
 simp (disch := omega) only [qv9, List.replicate, hL, hC, go_sem]
 repeat' first
  | ((first | refine qc ?_ ?_ | refine qb ?_ ?_); (next => exact rvk); simp only [go_sem]; first | exact VLe.refl _ | refine qd ?_ | refine qa ?_ | refine qe ?_ | skip)
  | with_reducible first | refine And.intro ?_ ?_ | intro _
 all_goals try exact clz
 refine qo (T := fun i : Nat => qK 36 [(0, .osl k v 1 0 Ls.length), (3, .int .i64 (Ls.take i).flatten.length), (9, .osl k v 1 0 Ls.length), (10, .int .i64 Ls.length), (11, .int .i64 i)]) (H := fun i => h ++ [.emp 1, .emp 0])
  (inv := fun i => i ≤ Ls.length) (m := fun i => Ls.length - i) 0 (by omega) (Wk.temps ?_) ?_
 ·(simp only [List.replicate, go_sem, qk, qh, qg, qj]; try (repeat' first | (with_reducible refine And.intro ?_ ?_) | (refine qd ?_; omega) | (refine qa ?_; rfl) | exact VLe.refl _))
 rintro i i1 K hK
 by_cases hi : i < Ls.length
 ·obtain ⟨c1, s1, s2, s3, s4, s5, s6⟩ := hE i hi
  have hst := qcN Ls hi
  have hle := qmN Ls (i + 1)
  rw [hst, List.length_append] at hle
  simp (disch := omega) only [List.replicate, hL, hC, c1, s1, s2, s3, s4, hcl, go_sem]
  repeat' first
   | ((first | refine qc ?_ ?_ | refine qb ?_ ?_); (next => exact rvk); simp only [go_sem]; first | exact VLe.refl _ | refine qd ?_ | refine qa ?_ | refine qe ?_ | skip)
   | with_reducible first | refine And.intro ?_ ?_ | intro _
  all_goals try exact clz
  have hln : (List.take (i + 1) Ls).flatten.length = (List.take i Ls).flatten.length + (Ls.getD i []).length := by rw [hst, List.length_append]
  refine hK _ _ (i + 1) (by omega) (by omega) (Wk.temps ?_)
  (simp only [List.replicate, go_sem, qk, qh, qg, qj]; try (repeat' first | (with_reducible refine And.intro ?_ ?_) | (refine qd ?_; omega) | (refine qa ?_; rfl) | exact VLe.refl _))
 have e : i = Ls.length := by omega
 subst e
 rw [List.take_length]
 obtain ⟨N, hN⟩ : ∃ N, N = Ls.flatten.length := ⟨_, rfl⟩
 rw [← hN] at h0 h1 ⊢
 simp (disch := omega) only [List.replicate, hL, hC, hcl, go_sem]
 refine ⟨fun hf => absurd hf (by omega), fun _ => ?_⟩
 refine qS (qy5 N _ (h.length + 1) (by simp only [go_sem]) h0 h1) ⟨rfl, rfl, trivial⟩ ?_
 simp (disch := omega) only [hL, hC, go_sem]
 repeat' first
  | ((first | refine qc ?_ ?_ | refine qb ?_ ?_); (next => exact rvk); simp only [go_sem]; first | exact VLe.refl _ | refine qd ?_ | refine qa ?_ | refine qe ?_ | skip)
  | with_reducible first | refine And.intro ?_ ?_ | intro _
 all_goals try exact clz
 refine qo (T := fun i : Nat × Nat × Nat => qK 36 [(6, .osl (h.length + 1) i.2.1 1 0 i.2.2), (25, .osl k v 1 0 Ls.length), (26, .int .i64 Ls.length), (27, .int .i64 i.1)]) (H := fun i => h ++ [.emp 1, .mem i.2.1 9 (if i.1 = 0 then qP [.str []] N else zH (Ls.take i.1).flatten)])
  (inv := fun i => i.1 ≤ Ls.length ∧ i.2.2 = (Ls.take i.1).flatten.length) (m := fun i => Ls.length - i.1) (0, 1, 0) ⟨by simp, by simp⟩ (Wk.temps ?_) ?_
 ·(simp only [List.replicate, go_sem, qk, qh, qg, qj]; try (repeat' first | (with_reducible refine And.intro ?_ ?_) | (refine qd ?_; omega) | (refine qa ?_; rfl) | exact VLe.refl _))
 rintro ⟨i, w, m⟩ ⟨i1, i2⟩ K hK
 simp only at i1 i2 hK
 by_cases hi : i < Ls.length
 ·obtain ⟨c1, s1, s2, s3, s4, s5, s6⟩ := hE i hi
  have hst := qcN Ls hi
  have hle := qmN Ls (i + 1)
  rw [hst, List.length_append, ← hN] at hle
  have eT : ∀ n, List.take (m) (if i = 0 then qP [.str []] n else zH (Ls.take i).flatten) = zH (Ls.take i).flatten := by
   intro n
   split
   ·rename_i e0; subst e0; subst i2; rfl
   ·exact List.take_of_length_le (by rw [qZ, i2]; exact Nat.le_refl _)
  obtain ⟨ms, hms⟩ : ∃ ms, ms = (if i = 0 then qP [.str []] N else zH (Ls.take i).flatten) := ⟨_, rfl⟩
  have eT' := eT N
  rw [← hms] at eT' ⊢
  have hml : m ≤ ms.length := by
   have := congrArg List.length eT'
   rw [List.length_take, qZ, ← i2] at this
   omega
  have hsl := qZ (Ls.getD i [])
  simp (disch := omega) only [List.replicate, hL, hC, c1, s1, s2, s3, s4, s5, s6, hcl, eT', hsl, Nat.mul_one, go_sem]
  repeat' first
   | ((first | refine qc ?_ ?_ | refine qb ?_ ?_); (next => exact rvk); simp only [go_sem]; first | exact VLe.refl _ | refine qd ?_ | refine qa ?_ | refine qe ?_ | skip)
   | with_reducible first | refine And.intro ?_ ?_ | intro _
  all_goals try exact clz
  have hfin : h ++ [AObj.emp 1, AObj.mem (w + 1) 9 (zH (List.take i Ls).flatten ++ zH (Ls.getD i []))] = h ++ [AObj.emp 1, AObj.mem (w + 1) 9 (if i + 1 = 0 then qP [.str []] N else zH (Ls.take (i + 1)).flatten)] := by rw [if_neg (by omega), hst, kJ]
  rw [hfin]
  refine hK _ _ (i + 1, w + 1, m + (Ls.getD i []).length) ⟨by simp only; omega, by simp only; rw [hst, List.length_append, i2]⟩ (by simp only; omega) (Wk.temps ?_)
  (simp only [List.replicate, go_sem, qk, qh, qg, qj]; try (repeat' first | (with_reducible refine And.intro ?_ ?_) | (refine qd ?_; omega) | (refine qa ?_; rfl) | exact VLe.refl _))
 ·have e : i = Ls.length := by omega
  subst e
  rw [List.take_length, ← hN] at i2
  subst i2
  rw [List.take_length, if_neg (by omega)]
  have eL : (zH Ls.flatten).length = m := by rw [qZ, hN]
  simp (disch := omega) only [List.replicate, hL, hC, hcl, eL, go_sem]
  repeat' first
   | ((first | refine qc ?_ ?_ | refine qb ?_ ?_); (next => exact rvk); simp only [go_sem]; first | exact VLe.refl _ | refine qd ?_ | refine qa ?_ | refine qe ?_ | skip)
   | with_reducible first | refine And.intro ?_ ?_ | intro _
  all_goals try exact clz
  rw [if_pos (by omega)]
  exact qdi _ (fun _ => rfl) hN
theorem qy4 (n : Nat) (h : List AObj) (k : Nat) (hk : qR h k = true) (hn : 0 < n) (hn1 : n ≤ 1000000000) :
  ql Tryz.prog 58 [.nl, .int .i64 n] h (.osl k (qz (qy k h) + 1) 6 0 0) (qB k h (.mem (qz (qy k h) + 1) 49 (qP [.int .i64 0, .int .i64 0, .int .i64 0, .bool false, .nl, .nl] n))) := by
 refine qeu qwT k (by simp) ?_
 simp only [List.length_cons, List.length_nil, Nat.reduceAdd, Nat.reduceSub, List.replicate, List.cons_append, List.nil_append, List.append_nil]
 simp (disch := omega) only [qx5, go_sem]
 repeat' first
  | (with_reducible refine And.intro ?_ ?_)
  | (with_reducible intro _)
 all_goals first
  | omega
  | skip
 have e0 : ((n : Int) - (0 - 0)).toNat = n := by omega
 rw [e0]
 exact ⟨h.length + 1, 1, 6, 0, 0, 49, qP [.int .i64 0, .int .i64 0, .int .i64 0, .bool false, .nl, .nl] n, [AObj.emp 1, AObj.mem 1 49 (qP [.int .i64 0, .int .i64 0, .int .i64 0, .bool false, .nl, .nl] n)], ⟨trivial, trivial⟩, rfl, rfl, by omega, by simp only [go_sem], fun c hc => by have := qd1 hc; simp at this; rcases this with rfl | rfl | rfl | rfl | rfl | rfl <;> rfl, hk, rfl, rfl⟩
theorem qyJ (Ls : List (List En)) (E : Nat → AV) (h : List AObj) (k v : Nat) (cs : List AV) (hk : qy k h = some (.mem v 24 cs)) (hcl : cs.length = Ls.length) (hE : ∀ i, i < Ls.length → cs[i]? = some (E i) ∧ qb5 (E i) (Ls.getD i []).length (zK (Ls.getD i [])))
  (h0 : 0 < Ls.flatten.length) (h1 : Ls.flatten.length ≤ 1000000000) (h2 : Ls.length ≤ 1000000000) : ql Tryz.prog 30 [.osl k v 1 0 Ls.length] h (qA Ls.flatten) h := by
 have hkl : k < h.length := zu hk
 have hL : ∀ X, qT (h ++ X) k v = true := fun X => by rw [qaJ hkl]; unfold qT; rw [hk]; simp
 have hC : ∀ X, cellsOf (h ++ X) k v = some cs := fun X => by rw [kh hkl]; exact zT hk
 have hLs : 0 < Ls.length := by
  cases Ls with
  | nil => simp at h0
  | cons => simp
 refine acO qwG ?_
 simp (disch := omega) only [qxT, List.replicate, hL, hC, go_sem]
 repeat' first
  | ((first | refine qc ?_ ?_ | refine qb ?_ ?_); (next => exact rvk); simp only [go_sem]; first | exact VLe.refl _ | refine qd ?_ | refine qa ?_ | refine qe ?_ | skip)
  | with_reducible first | refine And.intro ?_ ?_ | intro _
 all_goals try exact clz
 refine qo (T := fun i : Nat => qK 36 [(0, .osl k v 1 0 Ls.length), (3, .int .i64 (Ls.take i).flatten.length), (9, .osl k v 1 0 Ls.length), (10, .int .i64 Ls.length), (11, .int .i64 i)]) (H := fun i => h ++ [.emp 1, .emp 0])
  (inv := fun i => i ≤ Ls.length) (m := fun i => Ls.length - i) 0 (by omega) (Wk.temps ?_) ?_
 ·(simp only [List.replicate, go_sem, qk, qh, qg, qj]; try (repeat' first | (with_reducible refine And.intro ?_ ?_) | (refine qd ?_; omega) | (refine qa ?_; rfl) | exact VLe.refl _))
 rintro i i1 K hK
 by_cases hi : i < Ls.length
 ·obtain ⟨c1, s1, s2, s3, s4, s5, s6⟩ := hE i hi
  have hst := qcN Ls hi
  have hle := qmN Ls (i + 1)
  rw [hst, List.length_append] at hle
  simp (disch := omega) only [List.replicate, hL, hC, c1, s1, s2, s3, s4, hcl, go_sem]
  repeat' first
   | ((first | refine qc ?_ ?_ | refine qb ?_ ?_); (next => exact rvk); simp only [go_sem]; first | exact VLe.refl _ | refine qd ?_ | refine qa ?_ | refine qe ?_ | skip)
   | with_reducible first | refine And.intro ?_ ?_ | intro _
  all_goals try exact clz
  have hln : (List.take (i + 1) Ls).flatten.length = (List.take i Ls).flatten.length + (Ls.getD i []).length := by rw [hst, List.length_append]
  refine hK _ _ (i + 1) (by omega) (by omega) (Wk.temps ?_)
  (simp only [List.replicate, go_sem, qk, qh, qg, qj]; try (repeat' first | (with_reducible refine And.intro ?_ ?_) | (refine qd ?_; omega) | (refine qa ?_; rfl) | exact VLe.refl _))
 have e : i = Ls.length := by omega
 subst e
 rw [List.take_length]
 obtain ⟨N, hN⟩ : ∃ N, N = Ls.flatten.length := ⟨_, rfl⟩
 rw [← hN] at h0 h1 ⊢
 simp (disch := omega) only [List.replicate, hL, hC, hcl, go_sem]
 refine ⟨fun hf => absurd hf (by omega), fun _ => ?_⟩
 refine qS (qy4 N _ (h.length + 1) (by simp only [go_sem]) h0 h1) ⟨rfl, rfl, trivial⟩ ?_
 simp (disch := omega) only [hL, hC, go_sem]
 repeat' first
  | ((first | refine qc ?_ ?_ | refine qb ?_ ?_); (next => exact rvk); simp only [go_sem]; first | exact VLe.refl _ | refine qd ?_ | refine qa ?_ | refine qe ?_ | skip)
  | with_reducible first | refine And.intro ?_ ?_ | intro _
 all_goals try exact clz
 refine qo (T := fun i : Nat × Nat × Nat => qK 36 [(6, .osl (h.length + 1) i.2.1 6 0 i.2.2), (25, .osl k v 1 0 Ls.length), (26, .int .i64 Ls.length), (27, .int .i64 i.1)]) (H := fun i => h ++ [.emp 1, .mem i.2.1 49 (if i.1 = 0 then qP [.int .i64 0, .int .i64 0, .int .i64 0, .bool false, .nl, .nl] N else zK (Ls.take i.1).flatten)])
  (inv := fun i => i.1 ≤ Ls.length ∧ i.2.2 = (Ls.take i.1).flatten.length) (m := fun i => Ls.length - i.1) (0, 1, 0) ⟨by simp, by simp⟩ (Wk.temps ?_) ?_
 ·(simp only [List.replicate, go_sem, qk, qh, qg, qj]; try (repeat' first | (with_reducible refine And.intro ?_ ?_) | (refine qd ?_; omega) | (refine qa ?_; rfl) | exact VLe.refl _))
 rintro ⟨i, w, m⟩ ⟨i1, i2⟩ K hK
 simp only at i1 i2 hK
 by_cases hi : i < Ls.length
 ·obtain ⟨c1, s1, s2, s3, s4, s5, s6⟩ := hE i hi
  have hst := qcN Ls hi
  have hle := qmN Ls (i + 1)
  rw [hst, List.length_append, ← hN] at hle
  have eT : ∀ n, List.take (m * 6) (if i = 0 then qP [.int .i64 0, .int .i64 0, .int .i64 0, .bool false, .nl, .nl] n else zK (Ls.take i).flatten) = zK (Ls.take i).flatten := by
   intro n
   split
   ·rename_i e0; subst e0; subst i2; rfl
   ·exact List.take_of_length_le (by rw [zM, i2]; exact Nat.le_refl _)
  obtain ⟨ms, hms⟩ : ∃ ms, ms = (if i = 0 then qP [.int .i64 0, .int .i64 0, .int .i64 0, .bool false, .nl, .nl] N else zK (Ls.take i).flatten) := ⟨_, rfl⟩
  have eT' := eT N
  rw [← hms] at eT' ⊢
  have hml : m * 6 ≤ ms.length := by
   have := congrArg List.length eT'
   rw [List.length_take, zM, ← i2] at this
   omega
  have hsl := zM (Ls.getD i [])
  simp (disch := omega) only [List.replicate, hL, hC, c1, s1, s2, s3, s4, s5, s6, hcl, eT', hsl, Nat.mul_one, go_sem]
  repeat' first
   | ((first | refine qc ?_ ?_ | refine qb ?_ ?_); (next => exact rvk); simp only [go_sem]; first | exact VLe.refl _ | refine qd ?_ | refine qa ?_ | refine qe ?_ | skip)
   | with_reducible first | refine And.intro ?_ ?_ | intro _
  all_goals try exact clz
  have hfin : h ++ [AObj.emp 1, AObj.mem (w + 1) 49 (zK (List.take i Ls).flatten ++ zK (Ls.getD i []))] = h ++ [AObj.emp 1, AObj.mem (w + 1) 49 (if i + 1 = 0 then qP [.int .i64 0, .int .i64 0, .int .i64 0, .bool false, .nl, .nl] N else zK (Ls.take (i + 1)).flatten)] := by rw [if_neg (by omega), hst, qcK]
  rw [hfin]
  refine hK _ _ (i + 1, w + 1, m + (Ls.getD i []).length) ⟨by simp only; omega, by simp only; rw [hst, List.length_append, i2]⟩ (by simp only; omega) (Wk.temps ?_)
  (simp only [List.replicate, go_sem, qk, qh, qg, qj]; try (repeat' first | (with_reducible refine And.intro ?_ ?_) | (refine qd ?_; omega) | (refine qa ?_; rfl) | exact VLe.refl _))
 ·have e : i = Ls.length := by omega
  subst e
  rw [List.take_length, ← hN] at i2
  subst i2
  rw [List.take_length, if_neg (by omega)]
  have eL : (zK Ls.flatten).length = m * 6 := by rw [zM, hN]
  simp (disch := omega) only [List.replicate, hL, hC, hcl, eL, go_sem]
  repeat' first
   | ((first | refine qc ?_ ?_ | refine qb ?_ ?_); (next => exact rvk); simp only [go_sem]; first | exact VLe.refl _ | refine qd ?_ | refine qa ?_ | refine qe ?_ | skip)
   | with_reducible first | refine And.intro ?_ ?_ | intro _
  all_goals try exact clz
  rw [if_pos (by omega)]
  exact qfE hN
theorem qwq (n : Nat) (E : Nat → AV) (h : List AObj) (k v : Nat) (cs : List AV) (hk : qy k h = some (.mem v 22 cs)) (hcl : cs.length = n) (hE : ∀ i, i < n → cs[i]? = some (E i) ∧ qb5 (E i) 0 []) (h2 : n ≤ 1000000000) : ql Tryz.prog 29 [.osl k v 1 0 n] h (strs []) h := by
 have hkl : k < h.length := zu hk
 have hL : ∀ X, qT (h ++ X) k v = true := fun X => by rw [qaJ hkl]; unfold qT; rw [hk]; simp
 have hC : ∀ X, cellsOf (h ++ X) k v = some cs := fun X => by rw [kh hkl]; exact zT hk
 refine acO qt6 ?_
 simp (disch := omega) only [qv9, List.replicate, hL, hC, go_sem]
 repeat' first
  | ((first | refine qc ?_ ?_ | refine qb ?_ ?_); (next => exact rvk); simp only [go_sem]; first | exact VLe.refl _ | refine qd ?_ | refine qa ?_ | refine qe ?_ | skip)
  | with_reducible first | refine And.intro ?_ ?_ | intro _
 all_goals try exact clz
 refine qo (T := fun i : Nat => qK 36 [(0, .osl k v 1 0 n), (3, .int .i64 0), (9, .osl k v 1 0 n), (10, .int .i64 n), (11, .int .i64 i)]) (H := fun i => h ++ [.emp 1, .emp 0])
  (inv := fun i => i ≤ n) (m := fun i => n - i) 0 (by omega) (Wk.temps ?_) ?_
 ·(simp only [List.replicate, go_sem, qk, qh, qg, qj]; try (repeat' first | (with_reducible refine And.intro ?_ ?_) | (refine qd ?_; omega) | (refine qa ?_; rfl) | exact VLe.refl _))
 rintro i i1 K hK
 by_cases hi : i < n
 ·obtain ⟨c1, s1, s2, s3, s4, s5, s6⟩ := hE i hi
  simp (disch := omega) only [List.replicate, hL, hC, c1, s1, s2, s3, s4, hcl, go_sem]
  repeat' first
   | ((first | refine qc ?_ ?_ | refine qb ?_ ?_); (next => exact rvk); simp only [go_sem]; first | exact VLe.refl _ | refine qd ?_ | refine qa ?_ | refine qe ?_ | skip)
   | with_reducible first | refine And.intro ?_ ?_ | intro _
  all_goals try exact clz
  refine hK _ _ (i + 1) (by omega) (by omega) (Wk.temps ?_)
  (simp only [List.replicate, go_sem, qk, qh, qg, qj]; try (repeat' first | (with_reducible refine And.intro ?_ ?_) | (refine qd ?_; omega) | (refine qa ?_; rfl) | exact VLe.refl _))
 have e : i = n := by omega
 subst e
 simp (disch := omega) only [List.replicate, hL, hC, hcl, go_sem]
 refine ⟨fun hf => absurd hf (by omega), fun _ => ?_⟩
 refine qS (qxe _) ⟨rfl, rfl, trivial⟩ ?_
 simp (disch := omega) only [hL, hC, go_sem]
 repeat' first
  | ((first | refine qc ?_ ?_ | refine qb ?_ ?_); (next => exact rvk); simp only [go_sem]; first | exact VLe.refl _ | refine qd ?_ | refine qa ?_ | refine qe ?_ | skip)
  | with_reducible first | refine And.intro ?_ ?_ | intro _
 all_goals try exact clz
 refine qo (T := fun j : Nat => qK 36 [(6, if j = 0 then .nl else .osl (h.length + 1) j 1 0 0), (25, .osl k v 1 0 i), (26, .int .i64 i), (27, .int .i64 j)]) (H := fun j => h ++ [.emp 1, .emp j])
  (inv := fun j => j ≤ i) (m := fun j => i - j) 0 (by omega) (Wk.temps ?_) ?_
 ·(simp only [List.replicate, go_sem, qk, qh, qg, qj]; try (repeat' first | (with_reducible refine And.intro ?_ ?_) | (refine qd ?_; omega) | (refine qa ?_; rfl) | exact VLe.refl _))
 rintro j j1 K hK
 by_cases hj : j < i
 ·obtain ⟨c1, s1, s2, s3, s4, s5, s6⟩ := hE j hj
  cases j with
  | zero =>
   simp (disch := omega) only [List.replicate, hL, hC, c1, s1, s2, s3, s4, s5, s6, hcl, go_sem]
   repeat' first
    | ((first | refine qc ?_ ?_ | refine qb ?_ ?_); (next => exact rvk); simp only [go_sem]; first | exact VLe.refl _ | refine qd ?_ | refine qa ?_ | refine qe ?_ | skip)
    | with_reducible first | refine And.intro ?_ ?_ | intro _
   all_goals try exact clz
   refine hK _ _ 1 (by omega) (by omega) (Wk.temps ?_)
   (simp only [List.replicate, go_sem, qk, qh, qg, qj]; try (repeat' first | (with_reducible refine And.intro ?_ ?_) | (refine qd ?_; omega) | (refine qa ?_; rfl) | exact VLe.refl _))
  | succ j =>
   have k1 : (((j + 1 : Nat) : Int) < i) = True := eq_true (by omega)
   have e1 : (j + 1 = 0) = False := eq_false (by omega)
   simp (disch := omega) only [List.replicate, hL, hC, c1, s1, s2, s3, s4, s5, s6, hcl, k1, e1, go_sem]
   repeat' first
    | ((first | refine qc ?_ ?_ | refine qb ?_ ?_); (next => exact rvk); simp only [go_sem]; first | exact VLe.refl _ | refine qd ?_ | refine qa ?_ | refine qe ?_ | skip)
    | with_reducible first | refine And.intro ?_ ?_ | intro _
   all_goals try exact clz
   refine hK _ _ (j + 1 + 1) (by omega) (by omega) (Wk.temps ?_)
   (simp only [List.replicate, go_sem, qk, qh, qg, qj]; try (repeat' first | (with_reducible refine And.intro ?_ ?_) | (refine qd ?_; omega) | (refine qa ?_; rfl) | exact VLe.refl _))
 ·obtain rfl : j = i := by omega
  have k1 : ((j : Int) < j) = False := eq_false (by omega)
  cases j with
  | zero =>
   simp (disch := omega) only [List.replicate, hL, hC, k1, go_sem]
   repeat' first
    | ((first | refine qc ?_ ?_ | refine qb ?_ ?_); (next => exact rvk); simp only [go_sem]; first | exact VLe.refl _ | refine qd ?_ | refine qa ?_ | refine qe ?_ | skip)
    | with_reducible first | refine And.intro ?_ ?_ | intro _
   all_goals try exact clz
   exact zW
  | succ j =>
   have e1 : (j + 1 = 0) = False := eq_false (by omega)
   simp (disch := omega) only [List.replicate, hL, hC, k1, e1, go_sem]
   repeat' first
    | ((first | refine qc ?_ ?_ | refine qb ?_ ?_); (next => exact rvk); simp only [go_sem]; first | exact VLe.refl _ | refine qd ?_ | refine qa ?_ | refine qe ?_ | skip)
    | with_reducible first | refine And.intro ?_ ?_ | intro _
   all_goals try exact clz
   exact zW
theorem qwp (Ls : List (List Str)) (E : Nat → AV) (h : List AObj) (k v : Nat) (cs : List AV) (n : Nat) (hn : n = Ls.length) (hk : qy k h = some (.mem v 22 cs)) (hcl : cs.length = Ls.length) (hE : ∀ i, i < Ls.length → cs[i]? = some (E i) ∧ qb5 (E i) (Ls.getD i []).length (zH (Ls.getD i [])))
  (h1 : Ls.flatten.length ≤ 1000000000) (h2 : Ls.length ≤ 1000000000) : ql Tryz.prog 29 [.osl k v 1 0 n] h (strs Ls.flatten) h := by
 subst hn
 by_cases h0 : 0 < Ls.flatten.length
 ·exact qyK Ls E h k v cs hk hcl hE h0 h1 h2
 ·have e : Ls.flatten = [] := List.eq_nil_of_length_eq_zero (by omega)
  rw [e]
  refine qwq Ls.length E h k v cs hk hcl (fun i hi => ?_) h2
  have := hE i hi
  have e2 : Ls.getD i [] = [] := by
   have hm : Ls.getD i [] ∈ Ls := by rw [List.getD_eq_getElem?_getD, List.getElem?_eq_getElem hi]; exact List.getElem_mem hi
   exact List.flatten_eq_nil_iff.1 e _ hm
  rw [e2] at this
  exact this
end RC
end

import Derived.Test.YthlgfjbghnildaaGreatDoorK10
import Derived.Test.YthlgfjbghnildaaGreatDoorK2
import Derived.Test.YthlgfjbghnildaaGreatDoorK4
import Derived.Test.YthlgfjbghnildaaGreatDoorK7
import Derived.Test.YthlgfjbghnildaaGreatDoorProg
set_option linter.all false
set_option linter.unusedSimpArgs false
set_option linter.unusedVariables false
set_option linter.unusedSectionVars false
section
open Go Go.Proofs AF HY LN
namespace RC
set_option maxRecDepth 100000
set_option maxHeartbeats 8000000
def inV (names : List Str) (gs : List Gr) (e : En) (src : Int) (i : Nat) : Bool := decide (src ∈ zJ names gs (e.vars.getD i default).sigla)
def vIx (names : List Str) (gs : List Gr) (e : En) (src : Int) : Int := qbf (inV names gs e src) e.vars.length 0
def qac (a b : En) : Bool := decide (a.frm < b.frm) || decide (a.frm = b.frm) && decide (a.to < b.to)
theorem qyI (a b : En) (h : List AObj) : ql Tryz.prog 77 [.agg (enC a), .agg (enC b)] h (.bool (qac a b)) h := by
 unfold qac
 by_cases g1 : a.frm < b.frm
 ·have k1 : (a.frm < b.frm) = True := eq_true g1
  rw [decide_eq_true g1, Bool.true_or]
  refine acO qqD ?_
  simp (disch := omega) only [qvO, List.replicate, enC, k1, go_sem]
  repeat' first
   | ((first | refine qc ?_ ?_ | refine qb ?_ ?_); (next => exact rvk); simp only [go_sem]; first | exact VLe.refl _ | refine qd ?_ | refine qa ?_ | refine qe ?_ | skip)
   | with_reducible first | refine And.intro ?_ ?_ | intro _
  all_goals try exact clz
 have k1 : (a.frm < b.frm) = False := eq_false g1
 rw [decide_eq_false g1, Bool.false_or]
 by_cases g2 : a.frm = b.frm
 ·have k2 : (a.frm = b.frm) = True := eq_true g2
  rw [decide_eq_true g2, Bool.true_and]
  refine acO qqD ?_
  simp (disch := omega) only [qvO, List.replicate, enC, k1, k2, go_sem]
  repeat' first
   | ((first | refine qc ?_ ?_ | refine qb ?_ ?_); (next => exact rvk); simp only [go_sem]; first | exact VLe.refl _ | refine qd ?_ | refine qa ?_ | refine qe ?_ | skip)
   | with_reducible first | refine And.intro ?_ ?_ | intro _
  all_goals try exact clz
 ·have k2 : (a.frm = b.frm) = False := eq_false g2
  rw [decide_eq_false g2, Bool.false_and]
  refine acO qqD ?_
  simp (disch := omega) only [qvO, List.replicate, enC, k1, k2, go_sem]
  repeat' first
   | ((first | refine qc ?_ ?_ | refine qb ?_ ?_); (next => exact rvk); simp only [go_sem]; first | exact VLe.refl _ | refine qd ?_ | refine qa ?_ | refine qe ?_ | skip)
   | with_reducible first | refine And.intro ?_ ?_ | intro _
  all_goals try exact clz
theorem vrR (names : List Str) (gs : List Gr) (e : En) (src : Int) (h : List AObj) (hz : Szs names gs) (he : e.vars.length ≤ 1000000000) (hgm : ∀ i, (gs.getD i default).mem.length ≤ 1000) (hsg : ∀ i, (e.vars.getD i default).sigla.length ≤ 1000000) :
  ql Tryz.prog 76 [strs names, qt gs, .agg (enC e), .int .i64 src] h (.int .i64 (vIx names gs e src)) h := by
 unfold vIx
 refine acO qw1 ?_
 simp (disch := omega) only [qyb, List.replicate, enC, strs, qt, qC, go_sem]
 repeat' first
  | ((first | refine qc ?_ ?_ | refine qb ?_ ?_); (next => exact rvk); simp only [go_sem]; first | exact VLe.refl _ | refine qd ?_ | refine qa ?_ | refine qe ?_ | skip)
  | with_reducible first | refine And.intro ?_ ?_ | intro _
 all_goals try exact clz
 refine qo (T := fun i : Nat => qK 45 [(0, strs names), (1, qt gs), (3, .int .i64 src), (6, .op h.length 1 0), (9, .int .i64 i)])
  (H := fun i => h ++ [.mem 1 49 [.int .i64 e.layer, .int .i64 e.frm, .int .i64 e.to, .bool e.pos, strs e.sup, qC e.vars]])
  (inv := fun i => i ≤ e.vars.length ∧ ∀ j, j < i → inV names gs e src j = false) (m := fun i => e.vars.length - i) 0 ⟨Nat.zero_le _, fun j hj => absurd hj (Nat.not_lt_zero j)⟩ (Wk.temps ?_) ?_
 ·(simp only [strs, qt, qC, List.replicate, go_sem, qk, qh, qg, qj]; try (repeat' first | (with_reducible refine And.intro ?_ ?_) | (refine qd ?_; omega) | (refine qa ?_; rfl) | exact VLe.refl _))
 rintro i ⟨i1, i2⟩ K hK
 by_cases hi : i < e.vars.length
 ·have k1 : ((i : Int) < e.vars.length) = True := eq_true (by omega)
  have c28 := fun h => qmL names gs (e.vars.getD i default).sigla h hz (hsg i) hgm
  have hl := (kG names gs (e.vars.getD i default).sigla).2
  have hV : inV names gs e src i = decide (src ∈ zJ names gs (e.vars.getD i default).sigla) := rfl
  obtain ⟨x, hx⟩ : ∃ x, x = e.vars.getD i default := ⟨_, rfl⟩
  have ex := hx.symm
  simp only [ex] at c28 hV hl
  obtain ⟨L, hL⟩ : ∃ L, L = zJ names gs x.sigla := ⟨_, rfl⟩
  obtain ⟨q, hq⟩ : ∃ q, q = kV names gs x.sigla := ⟨_, rfl⟩
  rw [← hL] at c28 hV hl
  rw [← hq] at c28
  unfold strs qt qm at c28
  simp (disch := omega) only [List.replicate, strs, qt, qC, vaC, k1, ex, go_sem]
  repeat' first
   | ((first | refine cA (c28 _) ?_ ?_ | refine cG (fun e => c28 _) ?_ ?_ | refine cU (fun _ => c28 _) ?_ ?_); (next => exact flk); simp (disch := omega) only [strs, qt, qC, vaC, k1, ex, go_sem])
   | ((first | refine qc ?_ ?_ | refine qb ?_ ?_); (next => exact rvk); simp only [go_sem]; first | exact VLe.refl _ | refine qd ?_ | refine qa ?_ | refine qe ?_ | skip)
   | with_reducible first | refine And.intro ?_ ?_ | intro _
  all_goals try exact clz
  refine qo (T := fun k : Nat => qK 45 [(0, strs names), (1, qt gs), (3, .int .i64 src), (6, .op h.length 1 0), (9, .int .i64 i), (10, qm L), (12, .int .i64 k)])
   (H := fun _ => h ++ [.mem 1 49 [.int .i64 e.layer, .int .i64 e.frm, .int .i64 e.to, .bool e.pos, strs e.sup, qC e.vars]])
   (inv := fun k => k ≤ L.length ∧ ∀ j, j < k → L.getD j 0 ≠ src) (m := fun k => L.length - k) 0 ⟨Nat.zero_le _, fun j hj => absurd hj (Nat.not_lt_zero j)⟩ (Wk.temps ?_) ?_
  ·(simp only [strs, qt, qC, qm, List.replicate, go_sem, qk, qh, qg, qj]; try (repeat' first | (with_reducible refine And.intro ?_ ?_) | (refine qd ?_; omega) | (refine qa ?_; rfl) | exact VLe.refl _))
  rintro k ⟨m1, m2⟩ K2 hK2
  by_cases hk : k < L.length
  ·have s1 : ((k : Int) < L.length) = True := eq_true (by omega)
   obtain ⟨y, hy⟩ : ∃ y, y = L.getD k 0 := ⟨_, rfl⟩
   have ey := hy.symm
   by_cases g : y = src
   ·have s2 : (y = src) = True := eq_true g
    have hm : src ∈ L := by
     rw [← g, hy, List.getD_eq_getElem?_getD, List.getElem?_eq_getElem hk]
     exact List.getElem_mem hk
    rw [kI hi i2 (by rw [hV]; exact decide_eq_true hm)]
    simp (disch := omega) only [List.replicate, strs, qt, qC, qm, s1, ey, go_sem]
    repeat' first
     | ((first | refine qc ?_ ?_ | refine qb ?_ ?_); (next => exact rvk); simp only [go_sem]; first | exact VLe.refl _ | refine qd ?_ | refine qa ?_ | refine qe ?_ | skip)
     | with_reducible first | refine And.intro ?_ ?_ | intro _
    all_goals try exact clz
   ·have s2 : (y = src) = False := eq_false g
    simp (disch := omega) only [List.replicate, strs, qt, qC, qm, s1, ey, go_sem]
    repeat' first
     | ((first | refine qc ?_ ?_ | refine qb ?_ ?_); (next => exact rvk); simp only [go_sem]; first | exact VLe.refl _ | refine qd ?_ | refine qa ?_ | refine qe ?_ | skip)
     | with_reducible first | refine And.intro ?_ ?_ | intro _
    all_goals try exact clz
    refine hK2 _ _ (k + 1) ⟨hk, fun j hj => ?_⟩ (by omega) (Wk.temps ?_)
    ·by_cases e' : j = k
     ·subst e'; rw [ey]; exact g
     ·exact m2 j (by omega)
    ·(simp only [strs, qt, qC, qm, List.replicate, go_sem, qk, qh, qg, qj]; try (repeat' first | (with_reducible refine And.intro ?_ ?_) | (refine qd ?_; omega) | (refine qa ?_; rfl) | exact VLe.refl _))
  have s1 : ((k : Int) < L.length) = False := eq_false (by omega)
  have hno : inV names gs e src i = false := by
   rw [hV]
   refine decide_eq_false fun hm => ?_
   obtain ⟨j, hj, e'⟩ := List.getElem_of_mem hm
   refine m2 j (by omega) ?_
   rw [List.getD_eq_getElem?_getD, List.getElem?_eq_getElem hj]
   exact e'
  simp (disch := omega) only [List.replicate, strs, qt, qC, qm, s1, go_sem]
  repeat' first
   | ((first | refine qc ?_ ?_ | refine qb ?_ ?_); (next => exact rvk); simp only [go_sem]; first | exact VLe.refl _ | refine qd ?_ | refine qa ?_ | refine qe ?_ | skip)
   | with_reducible first | refine And.intro ?_ ?_ | intro _
  all_goals try exact clz
  refine hK _ _ (i + 1) ⟨hi, fun j hj => ?_⟩ (by omega) (Wk.temps ?_)
  ·by_cases e' : j = i
   ·subst e'; exact hno
   ·exact i2 j (by omega)
  ·(simp only [strs, qt, qC, qm, List.replicate, go_sem, qk, qh, qg, qj]; try (repeat' first | (with_reducible refine And.intro ?_ ?_) | (refine qd ?_; omega) | (refine qa ?_; rfl) | exact VLe.refl _))
 ·have k1 : ((i : Int) < e.vars.length) = False := eq_false (by omega)
  rw [km (fun j hj => i2 j (by omega))]
  simp (disch := omega) only [List.replicate, strs, qt, qC, k1, go_sem]
  repeat' first
   | ((first | refine qc ?_ ?_ | refine qb ?_ ?_); (next => exact rvk); simp only [go_sem]; first | exact VLe.refl _ | refine qd ?_ | refine qa ?_ | refine qe ?_ | skip)
   | with_reducible first | refine And.intro ?_ ?_ | intro _
  all_goals try exact clz
end RC
end
section
open Go Go.Proofs AF
set_option maxRecDepth 100000
def qcR : List Nat := [93, 74, 79, 120, 147, 148, 161, 170, 63, 105, 131, 64, 31, 32, 57, 58, 29, 30]
def qwa : C :=
 ((C.ops [ON 2 (.nilo 0 6 49) []]).seq (((C.ops [MV 3 0, O1 4 (.isnil .slice false) 3]).seq (C.cond (.t 4) ((C.ops [ON 2 (.nilo 0 6 49) []]).seq C.ret) C.skip)).seq ((C.ops [⟨some
 5, none, .bslc 1 6 0 49 [i6 0, i6 0, i6 0, .bool false, .nl, .nl] [], []⟩, MV 6 0, O2 7 (.app 2 6 49 80) 5 6, MV 2 7]).seq
 C.ret)))
theorem qt7 : qH Tryz.prog 31 8 3 [RV.tmp 2] qwa := fi Tryz.f31 [2, 5, 7] qcR [] (by kernel_rfl) (by kernel_rfl) (by kernel_rfl) (by kernel_rfl)
def qwe : C :=
 ((C.ops [MC 4 (.bool false)]).seq ((C.ops [MV 5 0, O1 6 (.call 86 true) 5, MV 7 6, MG 8 7 true 1, P1 9 7 true (.call 86 true) 8, P1 10 7 true (.un UnOp.not) 9, PF 11 7 10, MV 12
 11, MG 13 12 false 0, MG 14 12 false 1, P2 15 12 false (.bin .lss) 13 14, PT 16 12 15, MV 4 16]).seq
 C.ret))
theorem qub : qH Tryz.prog 52 17 0 [RV.tmp 4] qwe := fi Tryz.f52 [] qcR [] (by kernel_rfl) (by kernel_rfl) (by kernel_rfl) (by kernel_rfl)
def qye : C :=
 ((C.ops [MC 2 (.bool false)]).seq ((C.ops [MV 3 0, MV 4 0, BI 5 .neq 3 4, MV 2 5]).seq
 C.ret))
theorem qw4 : qH Tryz.prog 86 6 0 [RV.tmp 2] qye := fi Tryz.f86 [] qcR [] (by kernel_rfl) (by kernel_rfl) (by kernel_rfl) (by kernel_rfl)
def qpM : C :=
 ((C.ops [MV 10 1, BC 11 .add 10 (i6 1), MV 8 11]).seq (C.block 0 (((C.ops [MV 12 8, MV 13 2, BI 14 .lss 12 13]).seq (C.cond (.t 14) C.skip (C.exit 0))).seq ((C.block 1 ((C.ops [MV
 17 8, MV 9 17]).seq (C.block 2 (((C.ops [MV 18 9, MV 19 1, BI 20 .gtr 18 19, MV 21 20, MG 22 21 true 3, MG 23 21 true 0, MG 24 21 true 9, P2 25 21 true (.idxA 6) 23 24, P1 26 21
 true (.load (some 6)) 25, MG 27 21 true 0, MG 28 21 true 9, PC 29 21 true (.bin .sub) 28 (i6 1), P2 30 21 true (.idxA 6) 27 29, P1 31 21 true (.load (some 6)) 30, PN 32 21 true
 .callv [.t 22, .t 26, .t 31], PC 33 21 true (.bin .lss) 32 (i6 0), PF 34 21 33]).seq (C.cond (.t 34) C.skip (C.exit 2))).seq ((C.block 3 (C.ops [MV 37 0, MV 38 9, MV 39 0, MV 40 9,
 BC 41 .sub 40 (i6 1), MV 42 0, MV 43 9, BC 44 .sub 43 (i6 1), O2 45 (.idxA 6) 42 44, O1 46 (.load (some 6)) 45, MV 47 0, MV 48 9, O2 49 (.idxA 6) 47 48, O1 50 (.load (some 6)) 49,
 O2 51 (.idxA 6) 37 38, ST 6 51 46, O2 52 (.idxA 6) 39 41, ST 6 52 50])).seq (C.ops [MV 35 9, BC 36 .sub 35 (i6 1), MV 9 36]))).loop))).seq (C.ops [MV 15 8, BC 16 .add 15 (i6 1), MV
 8
 16]))).loop))
theorem qo0 : qH Tryz.prog 147 53 0 [] qpM := fi Tryz.f147 [] qcR [] (by kernel_rfl) (by kernel_rfl) (by kernel_rfl) (by kernel_rfl)
end
section
open Go Go.Proofs AF HY LN
namespace RC
set_option maxRecDepth 100000
set_option maxHeartbeats 8000000
def qhN (a b : Int) : Int := if a < b then -1 else if b < a then 1 else 0
def qpW (a b : En) : Int := if qhN a.frm b.frm ≠ 0 then qhN a.frm b.frm else qhN a.to b.to
theorem qxj (a : Int) (h : List AObj) : ql Tryz.prog 86 [.int .i64 a] h (.bool false) h := by
 have k : (a = a) = True := eq_true rfl
 refine acO qw4 ?_
 simp (disch := omega) only [qye, List.replicate, k, go_sem]
 repeat' first
  | ((first | refine qc ?_ ?_ | refine qb ?_ ?_); (next => exact rvk); simp only [go_sem]; first | exact VLe.refl _ | refine qd ?_ | refine qa ?_ | refine qe ?_ | skip)
  | with_reducible first | refine And.intro ?_ ?_ | intro _
 all_goals try exact clz
theorem qyk (a b : Int) (h : List AObj) : ql Tryz.prog 122 [.int .i64 a, .int .i64 b] h (.int .i64 (qhN a b)) h := by
 have c1 := fun h => qxj a h
 have c2 := fun h => qxj b h
 unfold qhN
 by_cases g1 : a < b
 ·have k1 : (a < b) = True := eq_true g1
  rw [if_pos g1]
  refine acO qjx ?_
  simp (disch := omega) only [qmi, List.replicate, k1, go_sem]
  repeat' first
   | ((first | refine cA (c1 _) ?_ ?_ | refine cG (fun e => c1 _) ?_ ?_ | refine cA (c2 _) ?_ ?_ | refine cG (fun e => c2 _) ?_ ?_ | refine cU (fun _ => c1 _) ?_ ?_ | refine cU (fun _ => c2 _) ?_ ?_); (next => exact flk); simp (disch := omega) only [k1, go_sem])
   | ((first | refine qc ?_ ?_ | refine qb ?_ ?_); (next => exact rvk); simp only [go_sem]; first | exact VLe.refl _ | refine qd ?_ | refine qa ?_ | refine qe ?_ | skip)
   | with_reducible first | refine And.intro ?_ ?_ | intro _
  all_goals try exact clz
 have k1 : (a < b) = False := eq_false g1
 rw [if_neg g1]
 by_cases g2 : b < a
 ·have k2 : (b < a) = True := eq_true g2
  rw [if_pos g2]
  refine acO qjx ?_
  simp (disch := omega) only [qmi, List.replicate, k1, k2, go_sem]
  repeat' first
   | ((first | refine cA (c1 _) ?_ ?_ | refine cG (fun e => c1 _) ?_ ?_ | refine cA (c2 _) ?_ ?_ | refine cG (fun e => c2 _) ?_ ?_ | refine cU (fun _ => c1 _) ?_ ?_ | refine cU (fun _ => c2 _) ?_ ?_); (next => exact flk); simp (disch := omega) only [k1, k2, go_sem])
   | ((first | refine qc ?_ ?_ | refine qb ?_ ?_); (next => exact rvk); simp only [go_sem]; first | exact VLe.refl _ | refine qd ?_ | refine qa ?_ | refine qe ?_ | skip)
   | with_reducible first | refine And.intro ?_ ?_ | intro _
  all_goals try exact clz
 ·have k2 : (b < a) = False := eq_false g2
  rw [if_neg g2]
  refine acO qjx ?_
  simp (disch := omega) only [qmi, List.replicate, k1, k2, go_sem]
  repeat' first
   | ((first | refine cA (c1 _) ?_ ?_ | refine cG (fun e => c1 _) ?_ ?_ | refine cA (c2 _) ?_ ?_ | refine cG (fun e => c2 _) ?_ ?_ | refine cU (fun _ => c1 _) ?_ ?_ | refine cU (fun _ => c2 _) ?_ ?_); (next => exact flk); simp (disch := omega) only [k1, k2, go_sem])
   | ((first | refine qc ?_ ?_ | refine qb ?_ ?_); (next => exact rvk); simp only [go_sem]; first | exact VLe.refl _ | refine qd ?_ | refine qa ?_ | refine qe ?_ | skip)
   | with_reducible first | refine And.intro ?_ ?_ | intro _
  all_goals try exact clz
theorem orP (l : List Int) (h : List AObj) (hl : l.length ≤ 1000000000) : ql Tryz.prog 121 [qm l] h (.int .i64 (qaA (fun i => l.getD i 0) 0 l.length)) h := by
 obtain ⟨R, hR⟩ : ∃ R, R = qaA (fun i => l.getD i 0) 0 l.length := ⟨_, rfl⟩
 rw [← hR]
 refine acO qtA ?_
 simp (disch := omega) only [qsy, List.replicate, qm, go_sem]
 repeat' first
  | ((first | refine qc ?_ ?_ | refine qb ?_ ?_); (next => exact rvk); simp only [go_sem]; first | exact VLe.refl _ | refine qd ?_ | refine qa ?_ | refine qe ?_ | skip)
  | with_reducible first | refine And.intro ?_ ?_ | intro _
 all_goals try exact clz
 refine qo (T := fun i : Nat => qK 18 [(3, .int .i64 0), (6, qm l), (7, .int .i64 l.length), (8, .int .i64 i)]) (H := fun _ => h) (inv := fun i => i ≤ l.length ∧ ∀ j, j < i → l.getD j 0 = 0) (m := fun i => l.length - i) 0 ⟨Nat.zero_le _, fun j hj => by omega⟩ (Wk.temps ?_) ?_
 ·(simp only [qm, List.replicate, go_sem, qk, qh, qg, qj]; try (repeat' first | (with_reducible refine And.intro ?_ ?_) | (refine qd ?_; omega) | (refine qa ?_; rfl) | exact VLe.refl _))
 rintro i ⟨i1, i2⟩ K hK
 by_cases hi : i < l.length
 ·have k1 : ((i : Int) < l.length) = True := eq_true (by omega)
  have hE := qX (f := fun i => l.getD i 0) hi i2
  rw [← hR] at hE
  obtain ⟨v, hv⟩ : ∃ v, v = l.getD i 0 := ⟨_, rfl⟩
  have ev := hv.symm
  simp only [ev] at hE
  by_cases g : v = 0
  ·have k2 : (v = 0) = True := eq_true g
   simp (disch := omega) only [List.replicate, qm, k1, ev, go_sem]
   repeat' first
    | ((first | refine qc ?_ ?_ | refine qb ?_ ?_); (next => exact rvk); simp only [go_sem]; first | exact VLe.refl _ | refine qd ?_ | refine qa ?_ | refine qe ?_ | skip)
    | with_reducible first | refine And.intro ?_ ?_ | intro _
   all_goals try exact clz
   refine hK _ _ (i + 1) ⟨hi, fun j hj => ?_⟩ (by omega) (Wk.temps ?_)
   ·by_cases e : j = i
    ·subst e; rw [ev]; exact g
    ·exact i2 j (by omega)
   ·(simp only [qm, List.replicate, go_sem, qk, qh, qg, qj]; try (repeat' first | (with_reducible refine And.intro ?_ ?_) | (refine qd ?_; omega) | (refine qa ?_; rfl) | exact VLe.refl _))
  ·have k2 : (v = 0) = False := eq_false g
   rw [hE g]
   simp (disch := omega) only [List.replicate, qm, k1, ev, go_sem]
   repeat' first
    | ((first | refine qc ?_ ?_ | refine qb ?_ ?_); (next => exact rvk); simp only [go_sem]; first | exact VLe.refl _ | refine qd ?_ | refine qa ?_ | refine qe ?_ | skip)
    | with_reducible first | refine And.intro ?_ ?_ | intro _
   all_goals try exact clz
 ·have k1 : ((i : Int) < l.length) = False := eq_false (by omega)
  rw [show R = 0 by rw [hR]; exact qI (fun j hj => i2 j (by omega))]
  simp (disch := omega) only [List.replicate, qm, k1, go_sem]
  repeat' first
   | ((first | refine qc ?_ ?_ | refine qb ?_ ?_); (next => exact rvk); simp only [go_sem]; first | exact VLe.refl _ | refine qd ?_ | refine qa ?_ | refine qe ?_ | skip)
   | with_reducible first | refine And.intro ?_ ?_ | intro _
  all_goals try exact clz
theorem qzn (k v : Nat) (ty : TypeId) (L : List Int) (h : List AObj) (n : Nat) (hn0 : n = L.length) (hk : qy k h = some (.mem v ty (qw L))) (hn : L.length ≤ 1000000000) : ql Tryz.prog 121 [.osl k v 1 0 n] h (.int .i64 (qaA (fun i => L.getD i 0) 0 L.length)) h := by
 subst hn0
 refine ql.borrow ?_ rfl
 have e : ([AV.osl k v 1 0 L.length]).map (rei (fun _ => true) h 8) = [AV.sl L.length (fun i => (((qw L).drop i).take 1).map (rei (fun _ => true) h 7))] := by
  simp only [List.map_cons, List.map_nil, rei_osl, if_true, hk, slOf_mem, qV, Nat.zero_add, Nat.mul_one, Nat.le_refl, and_self]
 rw [e]
 exact (orP L [] hn).le (qpr (zO _ (fun n => rfl) rfl) j8.nil) (VLe.refl _)
theorem qwt (a b : En) (h : List AObj) : ql Tryz.prog 80 [.agg (enC a), .agg (enC b)] h (.int .i64 (qpW a b)) h := by
 have c1 := fun h => qyk a.frm b.frm h
 have c2 := fun h => qyk a.to b.to h
 have e : qpW a b = qaA (fun i => [qhN a.frm b.frm, qhN a.to b.to].getD i 0) 0 [qhN a.frm b.frm, qhN a.to b.to].length := by
  unfold qpW
  simp only [List.length_cons, List.length_nil, qaA, List.getD_cons_zero, List.getD_cons_succ]
  split
  ·rfl
  ·split
   ·rfl
   ·rename_i g; exact Classical.not_not.1 g
 rw [e]
 obtain ⟨x, hx⟩ : ∃ x, x = qhN a.frm b.frm := ⟨_, rfl⟩
 obtain ⟨y, hy⟩ : ∃ y, y = qhN a.to b.to := ⟨_, rfl⟩
 rw [← hx, ← hy]
 rw [← hx] at c1
 rw [← hy] at c2
 refine acO qw2 ?_
 simp (disch := omega) only [qyc, List.replicate, enC, go_sem]
 repeat' first
  | ((first | refine cA (c1 _) ?_ ?_ | refine cG (fun e => c1 _) ?_ ?_ | refine cA (c2 _) ?_ ?_ | refine cG (fun e => c2 _) ?_ ?_ | refine cU (fun _ => c1 _) ?_ ?_ | refine cU (fun _ => c2 _) ?_ ?_); (next => exact flk); simp (disch := omega) only [enC, go_sem])
  | ((first | refine qc ?_ ?_ | refine qb ?_ ?_); (next => exact rvk); simp only [go_sem]; first | exact VLe.refl _ | refine qd ?_ | refine qa ?_ | refine qe ?_ | skip)
  | with_reducible first | refine And.intro ?_ ?_ | intro _
 all_goals try exact clz
 have eC : AV.int .i64 x :: AV.int .i64 y :: List.drop 1 (List.drop 1 (qP [i6 0] 2)) = qw [x, y] := rfl
 rw [eC]
 have c3 := qzn (h.length + 2) 1 3 [x, y] (h ++ [.mem 1 49 (enC a), .mem 1 49 (enC b), .mem 1 3 (qw [x, y])]) 2 rfl (by rw [getO_app]; rfl) (by simp)
 unfold enC at c3
 repeat' first
  | ((first | refine cA (c3) ?_ ?_ | refine cG (fun e => c3) ?_ ?_); (next => exact flk); simp (disch := omega) only [go_sem])
  | ((first | refine qc ?_ ?_ | refine qb ?_ ?_); (next => exact rvk); simp only [go_sem]; first | exact VLe.refl _ | refine qd ?_ | refine qa ?_ | refine qe ?_ | skip)
  | with_reducible first | refine And.intro ?_ ?_ | intro _
 all_goals try exact clz
end RC
end
section
namespace RC
variable {α : Type}
def j5 (lt : α → α → Bool) (x : α) : List α → List α
 | [] => [x]
 | y :: r => if lt x y = true then y :: j5 lt x r else x :: y :: r
def j6 (lt : α → α → Bool) : List α → List α → List α
 | acc, [] => acc
 | acc, x :: r => j6 lt (j5 lt x acc) r
def qsh (lt : α → α → Bool) : Prop := ∀ a b c, lt a b = false → lt b c = false → lt a c = false
def Asy (lt : α → α → Bool) : Prop := ∀ a b, lt a b = true → lt b a = false
def qr8 (lt : α → α → Bool) (l : List α) : Prop := l.Pairwise fun a b => lt a b = false
theorem qfM {lt : α → α → Bool} {x : α} : ∀ {l : List α} {z : α}, z ∈ j5 lt x l ↔ z = x ∨ z ∈ l := by
 intro l
 induction l with
 | nil => intro z; simp [j5]
 | cons y r ih =>
  intro z
  unfold j5
  split
  ·simp only [List.mem_cons, ih]
   constructor
   ·rintro (h | h | h)
    ·exact .inr (.inl h)
    ·exact .inl h
    ·exact .inr (.inr h)
   ·rintro (h | h | h)
    ·exact .inr (.inl h)
    ·exact .inl h
    ·exact .inr (.inr h)
  ·simp
theorem qbK {lt : α → α → Bool} (hn : qsh lt) (ha : Asy lt) {x : α} : ∀ {l : List α}, qr8 lt l → qr8 lt (j5 lt x l) := by
 intro l
 induction l with
 | nil => intro _; exact List.pairwise_singleton _ _
 | cons y r ih =>
  intro h
  obtain ⟨h1, h2⟩ := List.pairwise_cons.1 h
  unfold j5
  by_cases g : lt x y = true
  ·rw [if_pos g]
   refine List.pairwise_cons.2 ⟨fun z hz => ?_, ih h2⟩
   rcases qfM.1 hz with rfl | hz
   ·exact ha _ _ g
   ·exact h1 z hz
  ·rw [if_neg g]
   have g : lt x y = false := by simpa using g
   refine List.pairwise_cons.2 ⟨fun z hz => ?_, h⟩
   rcases List.mem_cons.1 hz with rfl | hz
   ·exact g
   ·exact hn _ _ _ g (h1 z hz)
theorem qjL {lt : α → α → Bool} {x : α} {l : List α} (h : ∀ z ∈ l, lt x z = false) : j5 lt x l = x :: l := by
 cases l with
 | nil => rfl
 | cons y r =>
  unfold j5
  rw [if_neg (by rw [h y (by simp)]; simp)]
theorem qeS {lt : α → α → Bool} (hn : qsh lt) (p : α → Bool) (x : α) : ∀ {l : List α}, qr8 lt l → (j5 lt x l).filter p = if p x = true then j5 lt x (l.filter p) else l.filter p := by
 intro l
 induction l with
 | nil => intro _; unfold j5; by_cases h : p x = true <;> simp [h, j5]
 | cons y r ih =>
  intro h
  obtain ⟨h1, h2⟩ := List.pairwise_cons.1 h
  by_cases g : lt x y = true
  ·have e : j5 lt x (y :: r) = y :: j5 lt x r := by rw [j5, if_pos g]
   rw [e, List.filter_cons, List.filter_cons, ih h2]
   by_cases hy : p y = true
   ·rw [if_pos hy, if_pos hy]
    by_cases hx : p x = true
    ·rw [if_pos hx, if_pos hx, j5, if_pos g]
    ·rw [if_neg hx, if_neg hx]
   ·rw [if_neg hy, if_neg hy]
  ·have e : j5 lt x (y :: r) = x :: y :: r := by rw [j5, if_neg g]
   have g : lt x y = false := by simpa using g
   rw [e]
   by_cases hx : p x = true
   ·rw [if_pos hx, List.filter_cons, if_pos hx, qjL]
    intro z hz
    rcases List.mem_cons.1 (List.mem_filter.1 hz).1 with rfl | hz
    ·exact g
    ·exact hn _ _ _ g (h1 z hz)
   ·rw [if_neg hx, List.filter_cons, if_neg hx]
theorem qdN {lt : α → α → Bool} (hn : qsh lt) (ha : Asy lt) (p : α → Bool) : ∀ (l acc : List α), qr8 lt acc → (j6 lt acc l).filter p = j6 lt (acc.filter p) (l.filter p) := by
 intro l
 induction l with
 | nil => intro acc _; rfl
 | cons x r ih =>
  intro acc h
  rw [j6, ih _ (qbK hn ha h), qeS hn p x h, List.filter_cons]
  by_cases hx : p x = true
  ·rw [if_pos hx, if_pos hx, j6]
  ·rw [if_neg hx, if_neg hx]
theorem qel {lt : α → α → Bool} (hn : qsh lt) (ha : Asy lt) : ∀ (l acc : List α), qr8 lt acc → qr8 lt (j6 lt acc l) := by
 intro l
 induction l with
 | nil => intro acc h; exact h
 | cons x r ih => intro acc h; exact ih _ (qbK hn ha h)
theorem qnq {β : Type} {lt : α → α → Bool} {lu : β → β → Bool} (f : α → β) (hf : ∀ a b, lu (f a) (f b) = lt a b) (x : α) : ∀ l : List α, (j5 lt x l).map f = j5 lu (f x) (l.map f) := by
 intro l
 induction l with
 | nil => rfl
 | cons y r ih =>
  rw [j5, List.map_cons, j5, hf]
  split
  ·rw [List.map_cons, ih]
  ·rfl
theorem qjW {β : Type} {lt : α → α → Bool} {lu : β → β → Bool} (f : α → β) (hf : ∀ a b, lu (f a) (f b) = lt a b) : ∀ (l acc : List α), (j6 lt acc l).map f = j6 lu (acc.map f) (l.map f) := by
 intro l
 induction l with
 | nil => intro acc; rfl
 | cons x r ih => intro acc; rw [j6, ih, qnq f hf, List.map_cons, j6]
end RC
end
section
namespace RC
variable {α : Type}
theorem qni {lt : α → α → Bool} {x : α} : ∀ {P Q : List α}, (∀ z ∈ P, lt x z = true) → j5 lt x (P ++ Q) = P ++ j5 lt x Q := by
 intro P
 induction P with
 | nil => intro Q _; rfl
 | cons y r ih =>
  intro Q h
  rw [List.cons_append, j5, if_pos (h y (by simp)), ih (fun z hz => h z (by simp [hz])), List.cons_append]
theorem qjN {lt : α → α → Bool} {x d : α} {M : List α} {k : Nat} (hk : k ≤ M.length) (h1 : ∀ j, k ≤ j → j < M.length → lt x (M.getD j d) = true) (h2 : k = 0 ∨ lt x (M.getD (k - 1) d) = false) :
  (j5 lt x M.reverse).reverse = M.take k ++ x :: M.drop k := by
 have e : M.reverse = (M.drop k).reverse ++ (M.take k).reverse := by rw [← List.reverse_append, List.take_append_drop]
 rw [e, qni, List.reverse_append, List.reverse_reverse]
 ·have e2 : j5 lt x (M.take k).reverse = x :: (M.take k).reverse := by
   rcases h2 with rfl | h2
   ·rfl
   ·by_cases k0 : k = 0
    ·subst k0; rfl
    ·have hl : k - 1 < M.length := by omega
     have e3 : M.take k = M.take (k - 1) ++ [M.getD (k - 1) d] := by
      have := List.take_succ_eq_append_getElem hl
      rw [show k - 1 + 1 = k by omega] at this
      rw [this, List.getD_eq_getElem?_getD, List.getElem?_eq_getElem hl]
      rfl
     rw [e3, List.reverse_append, List.reverse_singleton, List.singleton_append, j5, if_neg (by rw [h2]; simp)]
  rw [e2]
  simp
 ·intro z hz
  rw [List.mem_reverse] at hz
  obtain ⟨j, hj, rfl⟩ := List.getElem_of_mem hz
  rw [List.length_drop] at hj
  have := h1 (k + j) (by omega) (by omega)
  rw [List.getD_eq_getElem?_getD, List.getElem?_eq_getElem (by omega)] at this
  rw [List.getElem_drop]
  exact this
end RC
end
section
open Go Go.Proofs AF HY LN
namespace RC
set_option maxRecDepth 100000
set_option maxHeartbeats 8000000
def qqm (l : List En) (i : Int) : En := l.getD i.toNat default
def qpF (l : List En) (a b : Int) : Bool := qac (qqm l a) (qqm l b)
def quH (names : List Str) (gs : List Gr) (l : List En) (src : Int) (n : Nat) : List Int := ((List.range n).filter fun i => decide (0 ≤ vIx names gs (l.getD i default) src)).map Int.ofNat
def qab (names : List Str) (gs : List Gr) (l : List En) (src : Int) (n : Nat) : List Int := (j6 (qpF l) [] (quH names gs l src n)).reverse
theorem qek {α : Type} (lt : α → α → Bool) : ∀ (a b acc : List α), j6 lt acc (a ++ b) = j6 lt (j6 lt acc a) b := by
 intro a
 induction a with
 | nil => intro b acc; rfl
 | cons x r ih => intro b acc; exact ih b _
theorem qbS (names : List Str) (gs : List Gr) (l : List En) (src : Int) (n : Nat) : qab names gs l src (n + 1) = if 0 ≤ vIx names gs (l.getD n default) src then (j5 (qpF l) (n : Int) (qab names gs l src n).reverse).reverse else qab names gs l src n := by
 unfold qab quH
 rw [List.range_succ, List.filter_append, List.map_append, qek, List.reverse_reverse]
 by_cases h : 0 ≤ vIx names gs (l.getD n default) src
 ·rw [if_pos h]
  have : List.map Int.ofNat (List.filter (fun i => decide (0 ≤ vIx names gs (l.getD i default) src)) [n]) = [(n : Int)] := by rw [List.filter_cons, if_pos (decide_eq_true h)]; rfl
  rw [this]
  rfl
 ·rw [if_neg h]
  have : List.map Int.ofNat (List.filter (fun i => decide (0 ≤ vIx names gs (l.getD i default) src)) [n]) = [] := by rw [List.filter_cons, if_neg (by simpa using h)]; rfl
  rw [this]
  rfl
theorem qnj {α : Type} {lt : α → α → Bool} {x : α} : ∀ l : List α, (j5 lt x l).length = l.length + 1 := by
 intro l
 induction l with
 | nil => rfl
 | cons y r ih =>
  unfold j5
  split
  ·rw [List.length_cons, ih, List.length_cons]
  ·rfl
theorem qc4 (names : List Str) (gs : List Gr) (l : List En) (src : Int) : ∀ n, (qab names gs l src n).length ≤ n := by
 intro n
 induction n with
 | zero => exact Nat.le_refl _
 | succ n ih =>
  rw [qbS]
  split
  ·rw [List.length_reverse, qnj, List.length_reverse]; omega
  ·omega
theorem qfU (names : List Str) (gs : List Gr) (l : List En) (src : Int) : ∀ n, ∀ x ∈ qab names gs l src n, 0 ≤ x ∧ x < n := by
 intro n
 induction n with
 | zero => intro x hx; simp [qab, quH, j6] at hx
 | succ n ih =>
  intro x hx
  rw [qbS] at hx
  split at hx
  ·rw [List.mem_reverse, qfM, List.mem_reverse] at hx
   rcases hx with rfl | hx
   ·omega
   ·have := ih x hx; omega
  ·have := ih x hx; omega
end RC
end
section
open Go Go.Proofs AF HY LN
namespace RC
set_option maxRecDepth 100000
set_option maxHeartbeats 8000000
theorem qcr {Z : List Int} {k : Nat} {a : Int} (h : k < Z.length) : List.take k (qw Z) ++ [AV.int .i64 a] ++ List.drop (k + 1) (qw Z) = qw (Z.set k a) := by
 rw [List.set_eq_take_append_cons_drop, if_pos h]
 unfold qw
 simp
theorem qn8 {Z M : List Int} {k : Nat} {i Y : Int} (hk : 0 < k) (hkm : k ≤ M.length) (h : Z.set k i = M.take k ++ i :: M.drop k) (hY : M.getD (k - 1) 0 = Y) : (Z.set k Y).set (k - 1) i = M.take (k - 1) ++ i :: M.drop (k - 1) := by
 have e1 : Z.set k Y = (Z.set k i).set k Y := by rw [List.set_set]
 have hl : k - 1 < M.length := by omega
 have hY' : M[k - 1] = Y := by rw [← hY, List.getD_eq_getElem?_getD, List.getElem?_eq_getElem hl]; rfl
 have e2 : M.take k = M.take (k - 1) ++ [Y] := by
  have := List.take_succ_eq_append_getElem hl
  rw [show k - 1 + 1 = k by omega] at this
  rw [this, hY']
 have e3 : M.drop (k - 1) = Y :: M.drop k := by
  rw [List.drop_eq_getElem_cons hl, hY', show k - 1 + 1 = k by omega]
 have l1 : (M.take k).length = k := by rw [List.length_take]; omega
 have l2 : (M.take (k - 1)).length = k - 1 := by rw [List.length_take]; omega
 rw [e1, h, List.set_append_right _ _ (by omega), l1, Nat.sub_self, List.set_cons_zero, e2, List.append_assoc, List.set_append_right _ _ (by omega), l2, Nat.sub_self, e3]
 rfl
theorem qvS (names : List Str) (gs : List Gr) (l : List En) (src : Int) (h : List AObj) (hz : Szs names gs) (hl : l.length ≤ 1000000) (hgm : ∀ i, (gs.getD i default).mem.length ≤ 1000) (hv : ∀ i, (l.getD i default).vars.length ≤ 1000000) (hsg : ∀ i j, ((l.getD i default).vars.getD j default).sigla.length ≤ 1000000) :
  ql Tryz.prog 47 [strs names, qt gs, qA l, .int .i64 src] h (qm (qab names gs l src l.length)) h := by
 refine acO qwN ?_
 simp (disch := omega) only [qx0, List.replicate, qA, go_sem]
 repeat' first
  | ((first | refine qc ?_ ?_ | refine qb ?_ ?_); (next => exact rvk); simp only [go_sem]; first | exact VLe.refl _ | refine qd ?_ | refine qa ?_ | refine qe ?_ | skip)
  | with_reducible first | refine And.intro ?_ ?_ | intro _
 all_goals try exact clz
 have eM : qP [AV.int .i64 0] 0 = qw (qab names gs l src 0) := rfl
 rw [eM]
 refine qo (T := fun i : Nat × Nat × Nat => qK 66 [(0, strs names), (1, qt gs), (2, qA l), (3, .int .i64 src), (9, .osl (h.length + 1) i.2.1 1 0 (qab names gs l src i.1).length), (10, .int .i64 i.1)]) (H := fun i => h ++ [.emp 1, .mem i.2.1 3 (qw (qab names gs l src i.1)), .emp i.2.2, .emp 0])
  (inv := fun i => i.1 ≤ l.length) (m := fun i => l.length - i.1) (0, 1, 0) (Nat.zero_le _) (Wk.temps ?_) ?_
 ·have e0 : (qab names gs l src 0).length = 0 := rfl
  (simp only [qA, e0, List.replicate, go_sem, qk, qh, qg, qj]; try (repeat' first | (with_reducible refine And.intro ?_ ?_) | (refine qd ?_; omega) | (refine qa ?_; rfl) | exact VLe.refl _))
 rintro ⟨i, v, w⟩ i1 K hK
 simp only at i1 hK
 have hst := qbS names gs l src i
 have hln := qc4 names gs l src i
 have hrg := qfU names gs l src i
 obtain ⟨M, hM⟩ : ∃ M, M = qab names gs l src i := ⟨_, rfl⟩
 have eM := hM.symm
 have eC := qV M
 rw [eM] at hst hln hrg
 by_cases hi : i < l.length
 ·have k1 : ((i : Int) < l.length) = True := eq_true (by omega)
  have c76 := fun h => vrR names gs (l.getD i default) src h hz (by have := hv i; omega) hgm (hsg i)
  obtain ⟨x, hx⟩ : ∃ x, x = l.getD i default := ⟨_, rfl⟩
  have ex := hx.symm
  simp only [ex] at c76 hst
  obtain ⟨q, hq⟩ : ∃ q, q = vIx names gs x src := ⟨_, rfl⟩
  rw [← hq] at c76 hst
  by_cases g : 0 ≤ q
  ·have k2 : (q < 0) = False := eq_false (by omega)
   rw [if_pos g] at hst
   have eT : List.take M.length (qw M) = qw M := List.take_of_length_le (by omega)
   simp only [enC] at c76
   simp (disch := omega) only [List.replicate, qA, enC, k1, eM, ex, Nat.mul_one, go_sem]
   repeat' first
    | ((first | refine cA (c76 _) ?_ ?_ | refine cG (fun e => c76 _) ?_ ?_ | refine cU (fun _ => c76 _) ?_ ?_); (next => exact flk); simp (disch := omega) only [qA, enC, k1, k2, eM, ex, eC, eT, Nat.mul_one, go_sem])
    | ((first | refine qc ?_ ?_ | refine qb ?_ ?_); (next => exact rvk); simp only [go_sem]; first | exact VLe.refl _ | refine qd ?_ | refine qa ?_ | refine qe ?_ | skip)
    | with_reducible first | refine And.intro ?_ ?_ | intro _
   all_goals try exact clz
   have eA : qw M ++ [AV.int .i64 (i : Int)] = qw (M ++ [(i : Int)]) := by rw [zG]; rfl
   rw [eA]
   refine qo (T := fun k : Nat × Nat × List Int => qK 66 [(0, strs names), (1, qt gs), (2, qA l), (3, .int .i64 src), (9, .osl (h.length + 1) (v + 1) 1 0 (M.length + 1)), (10, .int .i64 i), (11, .int .i64 k.1)])
    (H := fun k => h ++ [.emp 1, .mem (v + 1) 3 (qw k.2.2), .emp k.2.1, .emp 0])
    (inv := fun k => k.1 ≤ M.length ∧ k.2.2.length = M.length + 1 ∧ k.2.2.set k.1 (i : Int) = M.take k.1 ++ (i : Int) :: M.drop k.1 ∧ (∀ j, j < k.1 → k.2.2.getD j 0 = M.getD j 0) ∧ ∀ j, k.1 ≤ j → j < M.length → qpF l i (M.getD j 0) = true) (m := fun k => k.1) (M.length, w + 1 + 1, M ++ [(i : Int)]) ⟨Nat.le_refl _, by simp, by simp, fun j hj => by simp [List.getD_eq_getElem?_getD, List.getElem?_append_left hj], fun j h1 h2 => by omega⟩ (Wk.trans Wk.kill2 (Wk.temps ?_)) ?_
   ·(simp only [qA, enC, strs, qt, List.replicate, go_sem, qk, qh, qg, qj]; try (repeat' first | (with_reducible refine And.intro ?_ ?_) | (refine qd ?_; omega) | (refine qa ?_; rfl) | exact VLe.refl _))
   rintro ⟨k, w2, Z⟩ ⟨n1, n2, n3, n4, n5⟩ K2 hK2
   simp only at n1 n2 n3 n4 n5 hK2
   have eZ := qV Z
   by_cases hk : 0 < k
   ·have s1 : ((0 : Int) < k) = True := eq_true (by omega)
    have hy := n4 (k - 1) (by omega)
    have hyM : M.getD (k - 1) 0 ∈ M := by rw [List.getD_eq_getElem?_getD, List.getElem?_eq_getElem (by omega)]; exact List.getElem_mem (by omega)
    have hyr := hrg _ hyM
    obtain ⟨Y, hY⟩ : ∃ Y : Nat, M.getD (k - 1) 0 = (Y : Int) := ⟨(M.getD (k - 1) 0).toNat, by omega⟩
    rw [hY] at hy hyr
    have s2 : (0 ≤ (k : Int) - 1) = True := eq_true (by omega)
    have s3 : ((k : Int) - 1 < (M.length : Int) + 1) = True := eq_true (by omega)
    have s4 : ((k : Int) - 1).toNat = k - 1 := by omega
    have s5 : (0 ≤ (Y : Int)) = True := eq_true (by omega)
    have s6 : ((Y : Int) < l.length) = True := eq_true (by omega)
    have s7 : ((k : Int) < (M.length : Int) + 1) = True := eq_true (by omega)
    have s8 : (0 ≤ (k : Int)) = True := eq_true (by omega)
    have eY : (qw Z)[k - 1]?.getD AV.undef = .int .i64 (Y : Int) := by
     rw [List.getD_eq_getElem?_getD, List.getElem?_eq_getElem (by omega)] at hy
     unfold qw
     rw [List.getElem?_map, List.getElem?_eq_getElem (by omega)]
     show AV.int .i64 Z[k - 1] = _
     rw [show Z[k - 1] = (Y : Int) from hy]
    have c77 := fun h => qyI (l.getD i default) (l.getD Y default) h
    have hbI : qpF l (i : Int) (Y : Int) = qac (l.getD i default) (l.getD Y default) := rfl
    simp only [enC] at c77
    cases hb : qac (l.getD i default) (l.getD Y default) with
    | true =>
     rw [hb] at c77 hbI
     simp (disch := omega) only [List.replicate, qA, enC, s1, s2, s3, s4, s5, s6, s7, s8, k1, eZ, n2, eY, Int.toNat_natCast, go_sem]
     repeat' first
      | ((first | refine cA (c77 _) ?_ ?_ | refine cG (fun e => c77 _) ?_ ?_ | refine cU (fun _ => c77 _) ?_ ?_); (next => exact flk); simp (disch := omega) only [qA, enC, s1, s2, s3, s4, s5, s6, s7, s8, k1, eZ, n2, eY, Int.toNat_natCast, go_sem])
      | ((first | refine qc ?_ ?_ | refine qb ?_ ?_); (next => exact rvk); simp only [go_sem]; first | exact VLe.refl _ | refine qd ?_ | refine qa ?_ | refine qe ?_ | skip)
      | with_reducible first | refine And.intro ?_ ?_ | intro _
     all_goals try exact clz
     have e1 : (k : Int) - 1 = ((k - 1 : Nat) : Int) := by omega
     rw [qcr (by omega), e1]
     refine hK2 _ _ (k - 1, w2, Z.set k (Y : Int)) ⟨by simp only; omega, by rw [List.length_set]; exact n2, qn8 hk n1 n3 hY, fun j hj => ?_, fun j h1 h2 => ?_⟩ (by simp only; omega) (Wk.temps ?_)
     ·simp only at hj ⊢
      rw [List.getD_eq_getElem?_getD, List.getElem?_set_ne (by omega), ← List.getD_eq_getElem?_getD]
      exact n4 j (by omega)
     ·by_cases e' : j = k - 1
      ·subst e'; rw [hY]; exact hbI
      ·exact n5 j (by simp only at h1; omega) h2
     ·(simp only [qA, enC, strs, qt, List.replicate, go_sem, qk, qh, qg, qj]; try (repeat' first | (with_reducible refine And.intro ?_ ?_) | (refine qd ?_; omega) | (refine qa ?_; rfl) | exact VLe.refl _))
    | false =>
     rw [hb] at c77 hbI
     have hfin : (j5 (qpF l) (i : Int) M.reverse).reverse = M.take k ++ (i : Int) :: M.drop k := qjN (d := 0) n1 n5 (.inr (by rw [hY]; exact hbI))
     rw [hfin] at hst
     simp (disch := omega) only [List.replicate, qA, enC, s1, s2, s3, s4, s5, s6, s7, s8, k1, eZ, n2, eY, Int.toNat_natCast, go_sem]
     repeat' first
      | ((first | refine cA (c77 _) ?_ ?_ | refine cG (fun e => c77 _) ?_ ?_ | refine cU (fun _ => c77 _) ?_ ?_); (next => exact flk); simp (disch := omega) only [qA, enC, s1, s2, s3, s4, s5, s6, s7, s8, k1, eZ, n2, eY, Int.toNat_natCast, go_sem])
      | ((first | refine qc ?_ ?_ | refine qb ?_ ?_); (next => exact rvk); simp only [go_sem]; first | exact VLe.refl _ | refine qd ?_ | refine qa ?_ | refine qe ?_ | skip)
      | with_reducible first | refine And.intro ?_ ?_ | intro _
     all_goals try exact clz
     have eN : M.length + 1 = (qab names gs l src (i + 1)).length := by rw [hst]; simp; omega
     rw [qcr (by omega), n3, ← hst, eN]
     refine hK _ _ (i + 1, v + 1, w2) hi (by simp only; omega) (Wk.temps ?_)
     (simp only [qA, enC, strs, qt, List.replicate, go_sem, qk, qh, qg, qj]; try (repeat' first | (with_reducible refine And.intro ?_ ?_) | (refine qd ?_; omega) | (refine qa ?_; rfl) | exact VLe.refl _))
   ·have s1 : ((0 : Int) < k) = False := eq_false (by omega)
    obtain rfl : k = 0 := by omega
    have hfin : (j5 (qpF l) (i : Int) M.reverse).reverse = M.take 0 ++ (i : Int) :: M.drop 0 := qjN (d := 0) (Nat.zero_le _) n5 (.inl rfl)
    rw [hfin] at hst
    have s2 : ((0 : Int) < (M.length : Int) + 1) = True := eq_true (by omega)
    simp (disch := omega) only [List.replicate, qA, enC, s1, Int.natCast_zero, go_sem]
    repeat' first
     | (refine qn ( .bool false) ?_; simp (disch := omega) only [qA, enC, s1, s2, eZ, n2, Int.natCast_zero, go_sem])
     | ((first | refine qc ?_ ?_ | refine qb ?_ ?_); (next => exact rvk); simp only [go_sem]; first | exact VLe.refl _ | refine qd ?_ | refine qa ?_ | refine qe ?_ | skip)
     | with_reducible first | refine And.intro ?_ ?_ | intro _
    all_goals try exact clz
    have eF : AV.int .i64 (i : Int) :: List.drop 1 (qw Z) = qw (Z.set 0 (i : Int)) := by
     cases Z with
     | nil => simp at n2
     | cons a Z => rfl
    have eN : M.length + 1 = (qab names gs l src (i + 1)).length := by rw [hst]; simp
    rw [eF, n3, ← hst, eN]
    refine hK _ _ (i + 1, v + 1, w2) hi (by simp only; omega) (Wk.temps ?_)
    (simp only [qA, enC, strs, qt, List.replicate, go_sem, qk, qh, qg, qj]; try (repeat' first | (with_reducible refine And.intro ?_ ?_) | (refine qd ?_; omega) | (refine qa ?_; rfl) | exact VLe.refl _))
  ·have k2 : (q < 0) = True := eq_true (by omega)
   rw [if_neg g] at hst
   simp only [enC] at c76
   simp (disch := omega) only [List.replicate, qA, enC, k1, eM, ex, go_sem]
   repeat' first
    | ((first | refine cA (c76 _) ?_ ?_ | refine cG (fun e => c76 _) ?_ ?_ | refine cU (fun _ => c76 _) ?_ ?_); (next => exact flk); simp (disch := omega) only [qA, enC, k1, k2, eM, ex, go_sem])
    | ((first | refine qc ?_ ?_ | refine qb ?_ ?_); (next => exact rvk); simp only [go_sem]; first | exact VLe.refl _ | refine qd ?_ | refine qa ?_ | refine qe ?_ | skip)
    | with_reducible first | refine And.intro ?_ ?_ | intro _
   all_goals try exact clz
   refine hK _ _ (i + 1, v, w) hi (by simp only; omega) ?_
   simp only [hst]
   refine Wk.temps ?_
   (simp only [qA, enC, List.replicate, go_sem, qk, qh, qg, qj]; try (repeat' first | (with_reducible refine And.intro ?_ ?_) | (refine qd ?_; omega) | (refine qa ?_; rfl) | exact VLe.refl _))
 have k1 : ((i : Int) < l.length) = False := eq_false (by omega)
 obtain rfl : i = l.length := by omega
 rw [eM]
 simp (disch := omega) only [List.replicate, qA, k1, eM, go_sem]
 repeat' first
  | ((first | refine qc ?_ ?_ | refine qb ?_ ?_); (next => exact rvk); simp only [go_sem]; first | exact VLe.refl _ | refine qd ?_ | refine qa ?_ | refine qe ?_ | skip)
  | with_reducible first | refine And.intro ?_ ?_ | intro _
 all_goals try exact clz
 rw [if_pos (by omega)]
 exact zO _ (fun n => rfl) rfl
end RC
end
section
open Go Go.Proofs AF HY LN
namespace RC
set_option maxRecDepth 100000
set_option maxHeartbeats 4000000
theorem qad {a b : En} : qac a b = true ↔ a.frm < b.frm ∨ a.frm = b.frm ∧ a.to < b.to := by
 unfold qac
 simp [Bool.or_eq_true, Bool.and_eq_true]
theorem qaD {a b : En} : qac a b = false ↔ b.frm < a.frm ∨ a.frm = b.frm ∧ b.to ≤ a.to := by
 have := @qad a b
 cases h : qac a b with
 | true => rw [h] at this; simp only [true_iff] at this; simp only [Bool.true_eq_false, false_iff]; omega
 | false => rw [h] at this; simp only [Bool.false_eq_true, false_iff] at this; simp only [true_iff]; omega
theorem qfB : qsh qac := by
 intro a b c h1 h2
 rw [qaD] at *
 omega
theorem qfA : Asy qac := by
 intro a b h
 rw [qad] at h
 rw [qaD]
 omega
def zY (l : List En) : List En := (j6 qac [] l).reverse
def jY (names : List Str) (gs : List Gr) (src : Int) (e : En) : Bool := decide (0 ≤ vIx names gs e src)
def ofE (names : List Str) (gs : List Gr) (l : List En) (src : Int) : List En := (zY l).filter (jY names gs src)
theorem qq1 (names : List Str) (gs : List Gr) (l : List En) (src : Int) : (quH names gs l src l.length).map (qqm l) = l.filter (jY names gs src) := by
 unfold quH
 rw [List.map_map]
 have e : (qqm l ∘ Int.ofNat) = fun i => l.getD i default := by funext i; simp [qqm]
 rw [e]
 have e2 : (List.range l.length).map (fun i => l.getD i default) = l := by
  apply List.ext_getElem (by simp)
  intro i h1 h2
  simp at h1
  simp [List.getD_eq_getElem?_getD, h1]
 have e3 : l.filter (jY names gs src) = ((List.range l.length).map (fun i => l.getD i default)).filter (jY names gs src) := by rw [e2]
 rw [e3, List.filter_map]
 rfl
theorem qkq (names : List Str) (gs : List Gr) (l : List En) (src : Int) : (qab names gs l src l.length).map (qqm l) = ofE names gs l src := by
 unfold qab ofE zY
 rw [List.map_reverse, qjW (lt := qpF l) (lu := qac) (qqm l) (fun _ _ => rfl), qq1, List.filter_reverse, qdN qfB qfA _ _ _ List.Pairwise.nil]
 rfl
theorem qjM {α : Type} {lt : α → α → Bool} {x : α} : ∀ l : List α, (j5 lt x l).Perm (x :: l) := by
 intro l
 induction l with
 | nil => exact List.Perm.refl _
 | cons y r ih =>
  unfold j5
  split
  ·exact (List.Perm.cons y ih).trans (List.Perm.swap x y r)
  ·exact List.Perm.refl _
theorem qcB {α : Type} {lt : α → α → Bool} : ∀ l acc : List α, (j6 lt acc l).Perm (acc ++ l) := by
 intro l
 induction l with
 | nil => intro acc; rw [List.append_nil]; exact List.Perm.refl _
 | cons x r ih =>
  intro acc
  refine (ih _).trans ((List.Perm.append_right r (qjM acc)).trans ?_)
  exact (List.perm_middle (a := x) (l₁ := acc) (l₂ := r)).symm
theorem jp (l : List En) : (zY l).Perm l := (List.reverse_perm _).trans (by simpa using qcB (lt := qac) l [])
theorem jC (l : List En) : (zY l).length = l.length := (jp l).length_eq
theorem qfa (l : List En) : (zY l).Pairwise fun a b => qac b a = false := by
 unfold zY
 rw [List.pairwise_reverse]
 exact qel qfB qfA l [] List.Pairwise.nil
def j0 (a b : En) : Bool := decide (b.frm < a.to) || decide (a.frm = b.frm) && decide (a.to = b.to)
def jt : List En → Bool
 | a :: b :: r => j0 a b || jt (b :: r)
 | _ => false
theorem qbF (L : List En) : jt L = true ↔ ∃ i, i + 1 < L.length ∧ j0 (L.getD i default) (L.getD (i + 1) default) = true := by
 induction L with
 | nil => simp [jt]
 | cons a L ih =>
  cases L with
  | nil => simp [jt]
  | cons b r =>
   rw [jt, Bool.or_eq_true, ih]
   constructor
   ·rintro (h | ⟨i, h1, h2⟩)
    ·exact ⟨0, by simp, h⟩
    ·exact ⟨i + 1, by simpa using h1, h2⟩
   ·rintro ⟨i, h1, h2⟩
    cases i with
    | zero => exact .inl h2
    | succ i => exact .inr ⟨i, by simpa using h1, h2⟩
def zU (names : List Str) (gs : List Gr) (l : List En) : Bool := jr (fun s => jt (ofE names gs l (s : Int))) names.length
def rdE (names : List Str) (gs : List Gr) (t : List Str) (l : List En) : Int :=
 if sgE names gs ≠ 0 then 1 else if 4096 < l.length then 4 else
  if qaA (fun i => qaz names gs t (l.getD i default)) 0 l.length ≠ 0 then qaA (fun i => qaz names gs t (l.getD i default)) 0 l.length else
   if zU names gs l = true then 17 else 0
def qfp (names : List Str) (gs : List Gr) (e : En) (src : Int) : List Str := (e.vars.getD (vIx names gs e src).toNat default).words
def qhy (names : List Str) (gs : List Gr) (t : List Str) (src : Int) : List En → Nat → List Str
 | [], k => t.drop k
 | e :: r, k => zQ t k e.frm.toNat ++ (qfp names gs e src ++ qhy names gs t src r e.to.toNat)
def qb0 (names : List Str) (gs : List Gr) (t : List Str) (l : List En) (src : Int) : List Str := qhy names gs t src (ofE names gs l src) 0
end RC
end
section
open Go Go.Proofs AF HY LN
namespace RC
set_option maxRecDepth 100000
set_option maxHeartbeats 4000000
def zK (L : List En) : List AV := L.flatMap enC
theorem ki (e : En) : (enC e).length = 6 := rfl
theorem zM (L : List En) : (zK L).length = L.length * 6 := by
 unfold zK
 induction L with
 | nil => rfl
 | cons a L ih => rw [List.flatMap_cons, List.length_append, ih, List.length_cons, ki]; omega
theorem qcK (A B : List En) : zK (A ++ B) = zK A ++ zK B := by simp [zK]
theorem qmF (a : En) : zK [a] = enC a := by simp [zK]
theorem qjf (L : List En) : ∀ i, (zK L).take (i * 6) = zK (L.take i) := by
 induction L with
 | nil => intro i; simp [zK]
 | cons a L ih =>
  intro i
  cases i with
  | zero => simp [zK]
  | succ i =>
   have e : zK (a :: L) = enC a ++ zK L := rfl
   rw [List.take_succ_cons, e, List.take_append, ki, show (i + 1) * 6 - 6 = i * 6 by omega, ih]
   rw [List.take_of_length_le (by rw [ki]; omega)]
   rfl
theorem qdM (L : List En) : ∀ i, (zK L).drop (i * 6) = zK (L.drop i) := by
 induction L with
 | nil => intro i; simp [zK]
 | cons a L ih =>
  intro i
  cases i with
  | zero => simp
  | succ i =>
   have e : zK (a :: L) = enC a ++ zK L := rfl
   rw [List.drop_succ_cons, e, List.drop_append, ki, show (i + 1) * 6 - 6 = i * 6 by omega, ih]
   rw [List.drop_eq_nil_of_le (by rw [ki]; omega)]
   rfl
theorem kE {L : List En} {i : Nat} (hi : i < L.length) : ((zK L).drop (i * 6)).take 6 = enC (L.getD i default) := by
 rw [qdM, List.drop_eq_getElem_cons hi, List.getD_eq_getElem?_getD, List.getElem?_eq_getElem hi]
 rfl
theorem qbq {L : List En} {i : Nat} (e : En) (hi : i < L.length) : (zK L).take (i * 6) ++ enC e ++ (zK L).drop (i * 6 + 6) = zK (L.set i e) := by
 rw [List.set_eq_take_append_cons_drop, if_pos hi, show i * 6 + 6 = (i + 1) * 6 by omega, qjf, qdM, qcK]
 rw [show e :: List.drop (i + 1) L = [e] ++ List.drop (i + 1) L from rfl, qcK, qmF, List.append_assoc]
theorem qcO (L : List En) : ((List.range L.length).flatMap fun i => enC (L.getD i default)) = zK L := by
 unfold zK
 have e : L = (List.range L.length).map fun i => L.getD i default := by
  apply List.ext_getElem (by simp)
  intro i h1 h2
  simp [List.getD_eq_getElem?_getD, h1]
 conv => rhs; rw [e]
 rw [List.flatMap_map]
theorem qle (h : List AObj) (L : List En) : qr h (qA L) = some (L.length, zK L) := by
 show some (L.length, _) = _
 rw [qcO]
theorem qai (L : List En) (n : Nat) : ∀ c ∈ zK L, zI n c = true := by
 intro c hc
 unfold zK at hc
 obtain ⟨x, _, hx⟩ := List.mem_flatMap.1 hc
 unfold enC at hx
 simp only [List.mem_cons, List.not_mem_nil, or_false] at hx
 rcases hx with rfl | rfl | rfl | rfl | rfl | rfl <;> rfl
def jT (M : List En) (x : En) (j : Nat) (r : List En) : List En := M.take j ++ x :: (M.drop j ++ r)
theorem qjK {M : List En} {x : En} {j : Nat} {r : List En} (hj : j ≤ M.length) : (jT M x j r).length = M.length + 1 + r.length := by
 unfold jT; simp; omega
theorem qqT {M : List En} {x : En} {j : Nat} {r : List En} (hj : j ≤ M.length) : (jT M x j r).getD j default = x := by
 unfold jT
 have l1 : (M.take j).length = j := by rw [List.length_take]; omega
 rw [List.getD_eq_getElem?_getD, List.getElem?_append_right (by omega), l1, Nat.sub_self]
 rfl
theorem qqU {M : List En} {x : En} {j : Nat} {r : List En} (hj : j + 1 ≤ M.length) : (jT M x (j + 1) r).getD j default = M.getD j default := by
 unfold jT
 have l1 : (M.take (j + 1)).length = j + 1 := by rw [List.length_take]; omega
 rw [List.getD_eq_getElem?_getD, List.getElem?_append_left (by omega), List.getElem?_take, if_pos (by omega), ← List.getD_eq_getElem?_getD]
theorem qgN {M : List En} {x : En} {j : Nat} {r : List En} (hj : j + 1 ≤ M.length) : ((jT M x (j + 1) r).set (j + 1) (M.getD j default)).set j x = jT M x j r := by
 have l1 : (M.take (j + 1)).length = j + 1 := by rw [List.length_take]; omega
 have l2 : (M.take j).length = j := by rw [List.length_take]; omega
 have hl : j < M.length := by omega
 have hY : M.getD j default = M[j] := by rw [List.getD_eq_getElem?_getD, List.getElem?_eq_getElem hl]; rfl
 unfold jT
 rw [List.set_append_right _ _ (by omega), l1, Nat.sub_self, List.set_cons_zero, hY, List.take_succ_eq_append_getElem hl, List.append_assoc, List.set_append_right _ _ (by omega), l2, Nat.sub_self, List.singleton_append, List.set_cons_zero, List.drop_eq_getElem_cons hl]
 rfl
def qfV (l : List En) (i : Nat) : List En := (j6 qac [] (l.take i)).reverse
theorem qc8 {l : List En} {i : Nat} (hi : i ≤ l.length) : (qfV l i).length = i := by
 unfold qfV
 rw [List.length_reverse, (qcB (lt := qac) (l.take i) []).length_eq, List.nil_append, List.length_take]
 omega
theorem qkH {l : List En} {i : Nat} (hi : i < l.length) : qfV l (i + 1) = (j5 qac (l.getD i default) (qfV l i).reverse).reverse := by
 unfold qfV
 rw [List.take_succ_eq_append_getElem hi, qek, List.reverse_reverse, List.getD_eq_getElem?_getD, List.getElem?_eq_getElem hi]
 rfl
theorem qnS (l : List En) : qfV l l.length = zY l := by unfold qfV zY; rw [List.take_length]
def qnk (l : List En) (i : Nat) : List En := qfV l i ++ l.drop i
theorem qqV {l : List En} {i : Nat} (hi : i < l.length) : qnk l i = jT (qfV l i) (l.getD i default) i (l.drop (i + 1)) := by
 unfold qnk jT
 have h1 := qc8 (l := l) (i := i) (by omega)
 have h2 : List.drop i (qfV l i) = [] := List.drop_eq_nil_of_le (by omega)
 rw [List.take_of_length_le (by omega), h2, List.nil_append, List.drop_eq_getElem_cons hi, List.getD_eq_getElem?_getD, List.getElem?_eq_getElem hi]
 rfl
theorem qnl {l : List En} {i j : Nat} (hi : i < l.length) (hj : j ≤ i) (h1 : ∀ k, j ≤ k → k < i → qac (l.getD i default) ((qfV l i).getD k default) = true) (h2 : j = 0 ∨ qac (l.getD i default) ((qfV l i).getD (j - 1) default) = false) :
  jT (qfV l i) (l.getD i default) j (l.drop (i + 1)) = qnk l (i + 1) := by
 have hl := qc8 (l := l) (i := i) (by omega)
 unfold qnk
 rw [qkH hi, qjN (d := default) (k := j) (by omega) (fun k hk hk2 => h1 k hk (by omega)) h2]
 unfold jT
 simp
theorem qnm {l : List En} (h : 0 < l.length) : qnk l 1 = l := by
 cases l with
 | nil => simp at h
 | cons a l => rfl
theorem qi6 (a b : En) : qpW a b < 0 ↔ qac a b = true := by
 rw [qad]
 unfold qpW qhN
 by_cases h1 : a.frm < b.frm
 ·simp [h1]
 ·by_cases h2 : b.frm < a.frm
  ·simp [h1, h2]; omega
  ·by_cases h3 : a.to < b.to
   ·simp [h1, h2, h3]; omega
   ·by_cases h4 : b.to < a.to
    ·simp [h1, h2, h3, h4]
    ·simp [h1, h2, h3, h4]
end RC
end
section
open Go Go.Proofs AF HY LN
namespace RC
set_option maxRecDepth 100000
set_option maxHeartbeats 4000000
theorem qgr {a : En} {r : List En} (h : jt (a :: r) = false) : jt r = false := by
 cases r with
 | nil => rfl
 | cons b r => rw [jt, Bool.or_eq_false_iff] at h; exact h.2
theorem qli {L : List En} (hs : L.Pairwise fun a b => qac b a = false) (hc : jt L = false) : L.Pairwise fun a b => qac a b = true := by
 induction L with
 | nil => exact List.Pairwise.nil
 | cons a r ih =>
  obtain ⟨h1, h2⟩ := List.pairwise_cons.1 hs
  have h3 := ih h2 (qgr hc)
  refine List.pairwise_cons.2 ⟨?_, h3⟩
  cases r with
  | nil => intro z hz; cases hz
  | cons b r =>
   have hab : qac a b = true := by
    rw [jt, Bool.or_eq_false_iff] at hc
    have h5 := hc.1
    unfold j0 at h5
    rw [Bool.or_eq_false_iff, Bool.and_eq_false_imp, decide_eq_false_iff_not, decide_eq_true_iff, decide_eq_false_iff_not] at h5
    have h4 := h1 b (by simp)
    rw [qaD] at h4
    rw [qad]
    obtain ⟨h5, h6⟩ := h5
    by_cases e : a.frm = b.frm
    ·have := h6 e; omega
    ·omega
   intro z hz
   rcases List.mem_cons.1 hz with rfl | hz
   ·exact hab
   ·have h6 := (List.pairwise_cons.1 h3).1 z hz
    rw [qad] at *
    omega
theorem qms {L : List En} (hc : jt L = false) {i : Nat} (hi : i + 1 < L.length) : (L.getD i default).to ≤ (L.getD (i + 1) default).frm := by
 cases h : j0 (L.getD i default) (L.getD (i + 1) default) with
 | true => rw [(qbF L).2 ⟨i, hi, h⟩] at hc; cases hc
 | false =>
  unfold j0 at h
  rw [Bool.or_eq_false_iff, decide_eq_false_iff_not] at h
  omega
theorem qaK (names : List Str) (gs : List Gr) (l : List En) (src : Int) : (ofE names gs l src).Pairwise fun a b => qac b a = false := List.Pairwise.filter _ (qfa l)
theorem qnw {names : List Str} {gs : List Gr} {l m : List En} {src : Int} (h : l.Perm m) : (ofE names gs l src).Perm (ofE names gs m src) :=
 List.Perm.filter _ ((jp l).trans (h.trans (jp m).symm))
theorem qd3 {names : List Str} {gs : List Gr} {l m : List En} {src : Int} (h : l.Perm m) (hc : jt (ofE names gs l src) = false) : ofE names gs l src = ofE names gs m src := by
 have hp := qnw (names := names) (gs := gs) (src := src) h
 have hs := qli (qaK names gs l src) hc
 refine List.Perm.eq_of_pairwise (le := fun a b => qac b a = false) ?_ (qaK names gs l src) (qaK names gs m src) hp
 intro a b ha hb h1 h2
 have hb' : b ∈ ofE names gs l src := hp.symm.subset hb
 have key : ∀ (L : List En), (L.Pairwise fun a b => qac a b = true) → a ∈ L → b ∈ L → a = b := by
  intro L hL
  induction L with
  | nil => intro h; cases h
  | cons c r ih =>
   intro ma mb
   obtain ⟨g1, g2⟩ := List.pairwise_cons.1 hL
   rcases List.mem_cons.1 ma with ea | na
   ·rcases List.mem_cons.1 mb with eb | nb
    ·rw [ea, eb]
    ·have := g1 b nb
     rw [← ea, h2] at this; cases this
   ·rcases List.mem_cons.1 mb with eb | nb
    ·have := g1 a na
     rw [← eb, h1] at this; cases this
    ·exact ih g2 na nb
 exact key _ hs ha hb'
theorem jF {names : List Str} {gs : List Gr} {l : List En} (h : zU names gs l = false) {s : Nat} (hs : s < names.length) : jt (ofE names gs l (s : Int)) = false :=
 qF.1 h s hs
theorem qb8 {names : List Str} {gs : List Gr} {l m : List En} (h : l.Perm m) (hc : zU names gs l = false) : zU names gs m = false :=
 qF.2 fun s hs => by
  have := jF hc hs
  rwa [qd3 h this] at this
structure qpq (names : List Str) (gs : List Gr) (t : List Str) (l : List En) : Prop where
 sg : sgE names gs = 0
 n : l.length ≤ 4096
 ck : ∀ e ∈ l, qaz names gs t e = 0
 cl : zU names gs l = false
theorem jZ {names : List Str} {gs : List Gr} {t : List Str} {l : List En} : rdE names gs t l = 0 ↔ qpq names gs t l := by
 have key : (∀ e ∈ l, qaz names gs t e = 0) ↔ qaA (fun i => qaz names gs t (l.getD i default)) 0 l.length = 0 := by
  rw [kl]
  constructor
  ·intro h i hi
   refine h _ ?_
   rw [List.getD_eq_getElem?_getD, List.getElem?_eq_getElem hi]
   exact List.getElem_mem hi
  ·intro h e he
   obtain ⟨i, hi, rfl⟩ := List.getElem_of_mem he
   have := h i hi
   rw [List.getD_eq_getElem?_getD, List.getElem?_eq_getElem hi] at this
   exact this
 unfold rdE
 constructor
 ·intro h
  split at h
  ·cases h
  rename_i h1
  split at h
  ·cases h
  rename_i h2
  split at h
  ·rename_i h3; exact absurd h h3
  rename_i h3
  split at h
  ·cases h
  rename_i h4
  exact ⟨Classical.not_not.1 h1, by omega, key.2 (Classical.not_not.1 h3), by simpa using h4⟩
 ·rintro ⟨h1, h2, h3, h4⟩
  rw [if_neg (fun hc => hc h1), if_neg (by omega), if_neg (fun hc => hc (key.1 h3)), if_neg (by rw [h4]; simp)]
theorem qpq.perm {names : List Str} {gs : List Gr} {t : List Str} {l m : List En} (h : qpq names gs t l) (hp : l.Perm m) : qpq names gs t m :=
 ⟨h.sg, by rw [← hp.length_eq]; exact h.n, fun e he => h.ck e (hp.symm.subset he), qb8 hp h.cl⟩
theorem qlx {names : List Str} {gs : List Gr} {t : List Str} {l m : List En} (h : qpq names gs t l) (hp : l.Perm m) {s : Nat} (hs : s < names.length) : qb0 names gs t l (s : Int) = qb0 names gs t m (s : Int) := by
 unfold qb0
 rw [qd3 hp (jF h.cl hs)]
structure qvX (names : List Str) (gs : List Gr) (t : List Str) (e : En) : Prop where
 sg : sgE names gs = 0
 tn : t.length ≤ 4096
 tw : jD t = 0
 lay : 0 ≤ e.layer ∧ e.layer < 16
 rng : 0 ≤ e.frm ∧ e.frm ≤ e.to ∧ e.to ≤ t.length
 sp : 0 < e.sup.length → e.pos = true
 ne : e.vars.length ≠ 0
 va : ∀ i, i < e.vars.length → qbk t e i = 0
 es : kV names gs e.sup = 0
 ev : ∀ i, i < e.vars.length → kV names gs (e.vars.getD i default).sigla = 0
 tc : (kT names gs e e.vars.length).2 = false
theorem qcH {names : List Str} {gs : List Gr} {t : List Str} {e : En} : qaz names gs t e = 0 ↔ qvX names gs t e := by
 unfold qaz
 constructor
 ·intro h
  split at h
  ·cases h
  rename_i h1
  split at h
  ·cases h
  rename_i h2
  split at h
  ·cases h
  rename_i h3
  split at h
  ·cases h
  rename_i h4
  split at h
  ·cases h
  rename_i h5
  split at h
  ·cases h
  rename_i h6
  split at h
  ·rename_i h7; exact absurd h h7
  rename_i h7
  split at h
  ·rename_i h8; exact absurd h h8
  rename_i h8
  split at h
  ·rename_i h9; exact absurd h h9
  rename_i h9
  split at h
  ·cases h
  rename_i h10
  unfold qhO at h4
  refine ⟨Classical.not_not.1 h1, by omega, Classical.not_not.1 h3, by omega, by omega, fun h => ?_, h6, kl.1 (Classical.not_not.1 h7), Classical.not_not.1 h8, kl.1 (Classical.not_not.1 h9), ?_⟩
  ·cases hp : e.pos with
   | true => rfl
   | false => exact absurd ⟨h, hp⟩ h5
  ·rw [qbA] at h10
   simpa using h10
 ·rintro ⟨h1, h2, h3, h4, h5, h6, h7, h8, h9, h10, h11⟩
  have hr : ¬ qhO t e := by unfold qhO; omega
  rw [if_neg (fun hc => hc h1), if_neg (by omega), if_neg (fun hc => hc h3), if_neg hr, if_neg (by rintro ⟨a, b⟩; rw [h6 a] at b; cases b), if_neg h7, if_neg (fun hc => hc (qI (f := qbk t e) h8)), if_neg (fun hc => hc h9),
   if_neg (fun hc => hc (qI (f := fun i => kV names gs (e.vars.getD i default).sigla) h10)), if_neg (by rw [qbA, h11]; simp)]
theorem qpu (names : List Str) (gs : List Gr) (e : En) : ∀ i, (kT names gs e i).2 = false → ∀ x : Int, (x ∈ (kT names gs e i).1 ↔ x ∈ zJ names gs e.sup ∨ ∃ j, j < i ∧ x ∈ zJ names gs (e.vars.getD j default).sigla) := by
 intro i
 induction i with
 | zero => intro _ x; simp [kT]
 | succ i ih =>
  intro h x
  rw [kB] at h ⊢
  simp only [Bool.or_eq_false_iff] at h
  have hi := ih h.1 x
  have hb1 : x ∈ (kT names gs e i).1 → 0 ≤ x ∧ x < 64 := fun hx => jU (qdb (qhQ names gs e i).1).1 x hx
  have hb2 : x ∈ zJ names gs (e.vars.getD i default).sigla → 0 ≤ x ∧ x < 64 := fun hx => jU (qdb (kG names gs _).1).1 x hx
  have hm : x ∈ zr (fun k => decide ((k : Int) ∈ (kT names gs e i).1) || decide ((k : Int) ∈ zJ names gs (e.vars.getD i default).sigla)) 64 ↔ x ∈ (kT names gs e i).1 ∨ x ∈ zJ names gs (e.vars.getD i default).sigla := by
   unfold zr
   rw [List.mem_map]
   constructor
   ·rintro ⟨k, hk, rfl⟩
    have := (List.mem_filter.1 hk).2
    simpa [Bool.or_eq_true] using this
   ·intro hx
    have hb : 0 ≤ x ∧ x < 64 := hx.elim hb1 hb2
    refine ⟨x.toNat, List.mem_filter.2 ⟨List.mem_range.2 (by omega), ?_⟩, by simp; omega⟩
    rw [show ((x.toNat : Nat) : Int) = x by omega]
    simpa [Bool.or_eq_true] using hx
  simp only [hm, hi]
  constructor
  ·rintro ((h | ⟨j, hj, hx⟩) | hx)
   ·exact .inl h
   ·exact .inr ⟨j, by omega, hx⟩
   ·exact .inr ⟨i, by omega, hx⟩
  ·rintro (h | ⟨j, hj, hx⟩)
   ·exact .inl (.inl h)
   ·by_cases e' : j = i
    ·subst e'; exact .inr hx
    ·exact .inl (.inr ⟨j, by omega, hx⟩)
theorem qfw (names : List Str) (gs : List Gr) (e : En) {i k : Nat} (hik : i ≤ k) (h : (kT names gs e k).2 = false) : (kT names gs e i).2 = false := by
 induction hik with
 | refl => exact h
 | step _ ih => rw [kB] at h; simp only [Bool.or_eq_false_iff] at h; exact ih h.1
theorem qhP {names : List Str} {gs : List Gr} {e : En} {n : Nat} (h : (kT names gs e n).2 = false) {i k : Nat} (hik : i < k) (hk : k < n) {x : Int} (hx : x ∈ zJ names gs (e.vars.getD i default).sigla) : ¬ x ∈ zJ names gs (e.vars.getD k default).sigla := by
 have h1 := qfw names gs e (show k + 1 ≤ n from hk) h
 have h0 := qfw names gs e (show k ≤ n by omega) h
 rw [kB] at h1
 simp only [Bool.or_eq_false_iff, List.any_eq_false] at h1
 have := h1.2 x ((qpu names gs e k h0 x).2 (.inr ⟨i, hik, hx⟩))
 simpa using this
end RC
end
section
open Go Go.Proofs AF HY LN
namespace RC
set_option maxRecDepth 100000
set_option maxHeartbeats 8000000
section
variable {k v w : Nat} {h : List AObj} {o o' : AObj} {ty : TypeId} {cs : List AV}
theorem cellsOf_setm (hk : k < h.length) : cellsOf (qB k h (.mem w ty cs)) k v = if w = v then some cs else none := by
 have := qeH (l := []) (v := v) (w := w) (ty := ty) (cs := cs) hk
 simpa using this
theorem setO_setm : qB k (qB k h o) o' = qB k h o' := qeh
theorem tyOf_setm (hk : k < h.length) : qve (qy k (qB k h (.mem w ty cs))) = ty := by rw [zX hk]; rfl
end
attribute [go_sem] cellsOf_setm setO_setm tyOf_setm
theorem qbs {k v : Nat} {h : List AObj} {ty : TypeId} {cs : List AV} (hl : ∀ n, ∀ c ∈ cs, zI n c = true) : ∀ o ∈ qB k h (.mem v ty cs), o ∈ h ∨ qb7 h.length o := by
 intro o ho
 rcases qap ho with h1 | rfl
 ·exact .inl h1
 ·exact .inr (fun c hc => hl _ c hc)
theorem qy9 (l : List En) (k v : Nat) (ty : TypeId) (h : List AObj) (hk : qy k h = some (.mem v ty (zK l))) (hl : l.length ≤ 1000000) (h0 : 0 < l.length) :
  ql Tryz.prog 147 [.osl k v 6 0 l.length, .int .i64 0, .int .i64 l.length, .fn (.func 80) [] []] h (.tup []) (qB k h (.mem v ty (zK (zY l)))) := by
 have c80 := fun a b h => qwt a b h
 have hkl := zu hk
 have e0 : h = qB k h (.mem v ty (zK (qnk l 1))) := by rw [qnm h0]; exact (qbY hk).symm
 obtain ⟨n, hn⟩ : ∃ n, n = l.length := ⟨_, rfl⟩
 rw [← hn] at hl h0 ⊢
 refine acO qo0 ?_
 simp (disch := omega) only [qpM, List.replicate, go_sem]
 repeat' first
  | ((first | refine qc ?_ ?_ | refine qb ?_ ?_); (next => exact rvk); simp only [go_sem]; first | exact VLe.refl _ | refine qd ?_ | refine qa ?_ | refine qe ?_ | skip)
  | with_reducible first | refine And.intro ?_ ?_ | intro _
 all_goals try exact clz
 refine qo (T := fun i : Nat => qK 53 [(0, .osl k v 6 0 n), (1, .int .i64 0), (2, .int .i64 n), (3, .fn (.func 80) [] []), (8, .int .i64 i)]) (H := fun i => qB k h (.mem v ty (zK (qnk l i))))
  (inv := fun i => 1 ≤ i ∧ i ≤ n) (m := fun i => n - i) 1 ⟨by omega, by omega⟩ ?_ ?_
 ·rw [← e0]
  refine Wk.temps ?_
  (simp only [List.replicate, go_sem, qk, qh, qg, qj]; try (repeat' first | (with_reducible refine And.intro ?_ ?_) | (refine qd ?_; omega) | (refine qa ?_; rfl) | exact VLe.refl _))
 rintro i ⟨i1, i2⟩ K hK
 by_cases hi : i < n
 ·have q0 : ((i : Int) < n) = True := eq_true (by omega)
  simp (disch := omega) only [List.replicate, q0, go_sem]
  repeat' first
   | ((first | refine qc ?_ ?_ | refine qb ?_ ?_); (next => exact rvk); simp only [go_sem]; first | exact VLe.refl _ | refine qd ?_ | refine qa ?_ | refine qe ?_ | skip)
   | with_reducible first | refine And.intro ?_ ?_ | intro _
  all_goals try exact clz
  have hil : i < l.length := by omega
  have hst := qqV hil
  have hend := fun j => qnl (l := l) (i := i) (j := j) hil
  have hML := qc8 (l := l) (i := i) (by omega)
  obtain ⟨x, hx⟩ : ∃ x, x = l.getD i default := ⟨_, rfl⟩
  obtain ⟨M, hM⟩ : ∃ M, M = qfV l i := ⟨_, rfl⟩
  obtain ⟨r, hr⟩ : ∃ r, r = l.drop (i + 1) := ⟨_, rfl⟩
  have hrl : r.length = n - (i + 1) := by rw [hr, List.length_drop, hn]
  rw [← hx, ← hM, ← hr] at hst
  simp only [← hx, ← hM, ← hr] at hend
  rw [← hM] at hML
  refine qo (T := fun j : Nat => qK 53 [(0, .osl k v 6 0 n), (1, .int .i64 0), (2, .int .i64 n), (3, .fn (.func 80) [] []), (8, .int .i64 i), (9, .int .i64 j)]) (H := fun j => qB k h (.mem v ty (zK (jT M x j r))))
   (inv := fun j => j ≤ i ∧ ∀ u, j ≤ u → u < i → qac x (M.getD u default) = true) (m := fun j => j) i ⟨Nat.le_refl _, fun u h1 h2 => by omega⟩ ?_ ?_
  ·rw [hst]
   refine Wk.temps ?_
   (simp only [List.replicate, go_sem, qk, qh, qg, qj]; try (repeat' first | (with_reducible refine And.intro ?_ ?_) | (refine qd ?_; omega) | (refine qa ?_; rfl) | exact VLe.refl _))
  rintro j ⟨j1, j2⟩ K2 hK2
  have eL := qjK (M := M) (x := x) (j := j) (r := r) (by omega)
  have eC := zM (jT M x j r)
  rw [eL] at eC
  cases j with
  | zero =>
   have z0 : ((0 : Nat) : Int) = 0 := rfl
   have z1 : ((0 : Int) < 0) = False := eq_false (by omega)
   rw [z0]
   simp (disch := omega) only [List.replicate, z1, go_sem]
   repeat' first
    | (refine qn ( .bool false) ?_; simp (disch := omega) only [z1, go_sem])
    | ((first | refine qc ?_ ?_ | refine qb ?_ ?_); (next => exact rvk); simp only [go_sem]; first | exact VLe.refl _ | refine qd ?_ | refine qa ?_ | refine qe ?_ | skip)
    | with_reducible first | refine And.intro ?_ ?_ | intro _
   all_goals try exact clz
   refine hK _ _ (i + 1) ⟨by omega, by omega⟩ (by omega) ?_
   rw [hend 0 (Nat.zero_le _) j2 (.inl rfl)]
   refine Wk.temps ?_
   (simp only [List.replicate, go_sem, qk, qh, qg, qj]; try (repeat' first | (with_reducible refine And.intro ?_ ?_) | (refine qd ?_; omega) | (refine qa ?_; rfl) | exact VLe.refl _))
  | succ m =>
   have ec : ((m + 1 : Nat) : Int) = (m : Int) + 1 := by omega
   rw [ec]
   have q1 : (0 < (m : Int) + 1) = True := eq_true (by omega)
   have q2 : ((m : Int) + 1 < n) = True := eq_true (by omega)
   have q3 : ((m : Int) < n) = True := eq_true (by omega)
   have q4 : (0 ≤ (m : Int) + 1) = True := eq_true (by omega)
   have q5 : (0 ≤ (m : Int)) = True := eq_true (by omega)
   have rt1 : ((m : Int) + 1).toNat = m + 1 := by omega
   have g1 := kE (L := jT M x (m + 1) r) (i := m + 1) (by omega)
   have g2 := kE (L := jT M x (m + 1) r) (i := m) (by omega)
   rw [qqT (by omega)] at g1
   rw [qqU (by omega)] at g2
   have f1 : ((m + 1) * 6 + 6 ≤ (M.length + 1 + r.length) * 6) = True := eq_true (by omega)
   have f2 : (m * 6 + 6 ≤ (M.length + 1 + r.length) * 6) = True := eq_true (by omega)
   have f3 := ki
   obtain ⟨y, hy⟩ : ∃ y, y = M.getD m default := ⟨_, rfl⟩
   rw [← hy] at g2
   have es1 := qbq (L := jT M x (m + 1) r) (i := m + 1) y (by omega)
   have esw := qgN (M := M) (x := x) (j := m) (r := r) (by omega)
   rw [← hy] at esw
   obtain ⟨zs, hzs⟩ : ∃ zs, zs = (jT M x (m + 1) r).set (m + 1) y := ⟨_, rfl⟩
   rw [← hzs] at es1 esw
   have ezl : zs.length = M.length + 1 + r.length := by rw [hzs, List.length_set, eL]
   have eC2 := zM zs
   rw [ezl] at eC2
   have es2 := qbq (L := zs) (i := m) x (by omega)
   rw [esw] at es2
   cases hlt : qac x y with
   | true =>
    have hd : (qpW x y < 0) = True := eq_true ((qi6 x y).2 hlt)
    simp (disch := omega) only [List.replicate, q1, q2, q3, q4, q5, rt1, g1, g2, f1, f2, f3, Int.add_sub_cancel, Int.toNat_natCast, eC, go_sem]
    repeat' first
     | (refine jf (c80 _ _ _) ?_; simp (disch := omega) only [q1, q2, q3, q4, q5, rt1, g1, g2, f1, f2, f3, Int.add_sub_cancel, Int.toNat_natCast, eC, eC2, hd, es1, es2, go_sem])
     | ((first | refine qc ?_ ?_ | refine qb ?_ ?_); (next => exact rvk); simp only [go_sem]; first | exact VLe.refl _ | refine qd ?_ | refine qa ?_ | refine qe ?_ | skip)
     | with_reducible first | refine And.intro ?_ ?_ | intro _
    all_goals try exact clz
    refine hK2 _ _ m ⟨by omega, fun u h1 h2 => ?_⟩ (by omega) (Wk.temps ?_)
    ·by_cases e : u = m
     ·subst e; rw [← hy]; exact hlt
     ·exact j2 u (by omega) h2
    ·(simp only [List.replicate, go_sem, qk, qh, qg, qj]; try (repeat' first | (with_reducible refine And.intro ?_ ?_) | (refine qd ?_; omega) | (refine qa ?_; rfl) | exact VLe.refl _))
   | false =>
    have hd : (qpW x y < 0) = False := eq_false (fun hc => by rw [(qi6 x y).1 hc] at hlt; cases hlt)
    simp (disch := omega) only [List.replicate, q1, q2, q3, q4, q5, rt1, g1, g2, f1, f2, f3, Int.add_sub_cancel, Int.toNat_natCast, eC, go_sem]
    repeat' first
     | (refine jf (c80 _ _ _) ?_; simp (disch := omega) only [q1, q2, q3, q4, q5, rt1, g1, g2, f1, f2, f3, Int.add_sub_cancel, Int.toNat_natCast, eC, hd, go_sem])
     | ((first | refine qc ?_ ?_ | refine qb ?_ ?_); (next => exact rvk); simp only [go_sem]; first | exact VLe.refl _ | refine qd ?_ | refine qa ?_ | refine qe ?_ | skip)
     | with_reducible first | refine And.intro ?_ ?_ | intro _
    all_goals try exact clz
    refine hK _ _ (i + 1) ⟨by omega, by omega⟩ (by omega) ?_
    rw [hend (m + 1) j1 j2 (.inr (by rw [show m + 1 - 1 = m by omega, ← hy]; exact hlt))]
    refine Wk.temps ?_
    (simp only [List.replicate, go_sem, qk, qh, qg, qj]; try (repeat' first | (with_reducible refine And.intro ?_ ?_) | (refine qd ?_; omega) | (refine qa ?_; rfl) | exact VLe.refl _))
 ·have e : i = n := by omega
  subst e
  have q0 : ((i : Int) < i) = False := eq_false (by omega)
  simp (disch := omega) only [List.replicate, q0, go_sem]
  repeat' first
   | ((first | refine qc ?_ ?_ | refine qb ?_ ?_); (next => exact rvk); simp only [go_sem]; first | exact VLe.refl _ | refine qd ?_ | refine qa ?_ | refine qe ?_ | skip)
   | with_reducible first | refine And.intro ?_ ?_ | intro _
  all_goals try exact clz
  have e2 : qnk l i = zY l := by
   unfold qnk
   rw [hn, qnS, List.drop_length, List.append_nil]
  rw [e2]
  exact kk trivial qQ (qbs (qai _)) ⟨rfl, rfl⟩ (VLe.refl _)
end RC
end
section
open Go Go.Proofs AF HY LN
namespace AF
theorem jo {P : Program} {b : Nat} {x y z : C} {Q : Ex → Nx} {t : List AV} {h : List AObj} (H : qO P b ((x.seq y).seq z) Q t h) : qO P b (x.seq (y.seq z)) Q t h := by
 refine jJ (x := x) (fun e t h H => ?_) H
 cases e with
 | normal => exact H
 | ret => exact H
 | exit id => exact H
theorem qrx {P : Program} {b : Nat} {x y : C} {Q : Ex → Nx} {t : List AV} {h : List AObj} (I : List AV → List AObj → Prop) (hx : ∀ K : Nx, (∀ t h, I t h → K t h) → qO P b x (Ex.andThen K Q) t h)
  (hy : ∀ t h, I t h → qO P b y Q t h) : qO P b (x.seq y) Q t h := hx _ hy
theorem Wk.cells {t : List AV} {h : List AObj} {j v : Nat} {ty : TypeId} {cs cs' : List AV} (hj : qy j h = some (.mem v ty cs)) (hc : j8 cs cs') : Wk t h t (qB j h (.mem v ty cs')) := by
 intro N w σ a H
 have hjl : j < σ.length := by rw [H.hr.len]; exact zu hj
 have ho := List.getElem?_eq_getElem hjl
 obtain ⟨m1, m2, b, arr, m3, m4, m5, m6, m7, m8⟩ := H.hr.obj j _ _ hj ho
 have q := H.hr.recell (cs' := cs') hj ho m3 m4 m5 (by rw [hc.length]; exact m6) (fun i x hi hx => m7 i x (by rw [← hc.length]; exact hi) hx) (fun i c x hi hx => by
  obtain ⟨c0, h1, h2⟩ := hc.get i c hi
  exact h2 _ _ _ (m8 i c0 x h1 hx))
 exact ⟨σ, ⟨q, H.sz, H.tm, H.df⟩, Ext.refl _ _⟩
end AF
namespace RC
set_option maxRecDepth 100000
set_option maxHeartbeats 4000000
theorem qzy (l : List En) (k v : Nat) (ty : TypeId) (h : List AObj) (hk : qy k h = some (.mem v ty (zK l))) (hl : l.length < 20) (h0 : 0 < l.length) :
  ql Tryz.prog 120 [.osl k v 6 0 l.length, .int .i64 l.length, .fn (.func 80) [] []] h (.tup []) (qB k h (.mem v ty (zK (zY l)))) := by
 have c147 := qy9 l k v ty h hk (by omega) h0
 have q1 : ((20 : Int) ≤ l.length) = False := eq_false (by omega)
 have q2 : ((20 : Int) < l.length) = False := eq_false (by omega)
 refine acO qoW ?_
 simp (disch := omega) only [qpI, List.replicate, go_sem]
 repeat' first
  | ((first | refine qc ?_ ?_ | refine qb ?_ ?_); (next => exact rvk); simp only [go_sem]; first | exact VLe.refl _ | refine qd ?_ | refine qa ?_ | refine qe ?_ | skip)
  | with_reducible first | refine And.intro ?_ ?_ | intro _
 all_goals try exact clz
 refine qo (T := fun _ : Unit => qK 63 [(0, .osl k v 6 0 l.length), (1, .int .i64 l.length), (2, .fn (.func 80) [] []), (6, .int .i64 20), (7, .int .i64 0), (8, .int .i64 20)]) (H := fun _ => h) (inv := fun _ => True) (m := fun _ => 0) () trivial (Wk.temps ?_) ?_
 ·(simp only [List.replicate, go_sem, qk, qh, qg, qj]; try (repeat' first | (with_reducible refine And.intro ?_ ?_) | (refine qd ?_; omega) | (refine qa ?_; rfl) | exact VLe.refl _))
 rintro _ _ K hK
 simp (disch := omega) only [List.replicate, q1, go_sem]
 repeat' first
  | ((first | refine qc ?_ ?_ | refine qb ?_ ?_); (next => exact rvk); simp only [go_sem]; first | exact VLe.refl _ | refine qd ?_ | refine qa ?_ | refine qe ?_ | skip)
  | with_reducible first | refine And.intro ?_ ?_ | intro _
 all_goals try exact clz
 refine qS c147 (by exact flk) ?_
 simp (disch := omega) only [go_sem]
 repeat' first
  | ((first | refine qc ?_ ?_ | refine qb ?_ ?_); (next => exact rvk); simp only [go_sem]; first | exact VLe.refl _ | refine qd ?_ | refine qa ?_ | refine qe ?_ | skip)
  | with_reducible first | refine And.intro ?_ ?_ | intro _
 all_goals try exact clz
 refine qo (T := fun _ : Unit => qK 63 [(0, .osl k v 6 0 l.length), (1, .int .i64 l.length), (2, .fn (.func 80) [] []), (6, .int .i64 20)]) (H := fun _ => qB k h (.mem v ty (zK (zY l)))) (inv := fun _ => True) (m := fun _ => 0) () trivial (Wk.temps ?_) ?_
 ·(simp only [List.replicate, go_sem, qk, qh, qg, qj]; try (repeat' first | (with_reducible refine And.intro ?_ ?_) | (refine qd ?_; omega) | (refine qa ?_; rfl) | exact VLe.refl _))
 rintro _ _ K2 hK2
 simp (disch := omega) only [List.replicate, q2, go_sem]
 repeat' first
  | ((first | refine qc ?_ ?_ | refine qb ?_ ?_); (next => exact rvk); simp only [go_sem]; first | exact VLe.refl _ | refine qd ?_ | refine qa ?_ | refine qe ?_ | skip)
  | with_reducible first | refine And.intro ?_ ?_ | intro _
 all_goals try exact clz
 exact kk trivial qQ (qbs (qai _)) ⟨rfl, rfl⟩ (VLe.refl _)
theorem qzw (l : List En) (k v : Nat) (ty : TypeId) (h : List AObj) (hk : qy k h = some (.mem v ty (zK l))) (hl : l.length < 20) (h0 : 0 < l.length) :
  ql Tryz.prog 79 [.osl k v 6 0 l.length, .fn (.func 80) [] []] h (.tup []) (qB k h (.mem v ty (zK (zY l)))) := by
 have c120 := qzy l k v ty h hk hl h0
 have hv : qT h k v = true := by rw [qbN, hk]; simp [qd0]
 refine acO qug ?_
 simp (disch := omega) only [qwj, List.replicate, hv, go_sem]
 repeat' first
  | ((first | refine qc ?_ ?_ | refine qb ?_ ?_); (next => exact rvk); simp only [go_sem]; first | exact VLe.refl _ | refine qd ?_ | refine qa ?_ | refine qe ?_ | skip)
  | with_reducible first | refine And.intro ?_ ?_ | intro _
 all_goals try exact clz
 refine qS c120 (by exact flk) ?_
 simp (disch := omega) only [go_sem]
 repeat' first
  | ((first | refine qc ?_ ?_ | refine qb ?_ ?_); (next => exact rvk); simp only [go_sem]; first | exact VLe.refl _ | refine qd ?_ | refine qa ?_ | refine qe ?_ | skip)
  | with_reducible first | refine And.intro ?_ ?_ | intro _
 all_goals try exact clz
 exact kk trivial qQ (qbs (qai _)) ⟨rfl, rfl⟩ (VLe.refl _)
theorem qjR {L : List En} (h : L ≠ []) : valP (.isnil .slice false) [qA L] = .bool false := by
 unfold qA
 rw [qay, if_neg (by simpa using h)]
 rfl
theorem qyR (h : List AObj) : ql Tryz.prog 31 [qA []] h (qA []) h := by
 have s1 := fun h => qle h []
 have z0 : valP (.isnil .slice false) [qA []] = .anyb := rfl
 have z1 : okP (.isnil .slice false) [qA []] = True := eq_true trivial
 have e0 : zK [] = [] := rfl
 refine acO qt7 ?_
 simp (disch := omega) only [qwa, List.replicate, s1, z0, z1, e0, go_sem]
 repeat' first
  | ((first | refine qc ?_ ?_ | refine qb ?_ ?_); (next => exact rvk); simp only [go_sem]; first | exact VLe.refl _ | refine qd ?_ | refine qa ?_ | refine qe ?_ | skip)
  | with_reducible first | refine And.intro ?_ ?_ | intro _
 all_goals try exact clz
 ·exact zW
 ·rfl
 ·exact VLe.sl_eq rfl (fun i hi => absurd hi (by simp))
theorem qyj (L : List En) (h : List AObj) (k : Nat) (hk : qR h k = true) (h0 : L ≠ []) (hl : L.length ≤ 1000000) :
  ql Tryz.prog 31 [qA L] h (.osl k (qz (qy k h) + 1) 6 0 L.length) (qB k h (.mem (qz (qy k h) + 1) 49 (zK L))) := by
 have s1 := fun h => qle h L
 have eP := zM L
 have hp := List.length_pos_iff.2 h0
 have z0 := qjR h0
 have z1 : okP (.isnil .slice false) [qA L] = True := eq_true trivial
 refine qeu qt7 k (by simp) ?_
 simp only [List.length_cons, List.length_nil, Nat.reduceAdd, Nat.reduceSub, List.replicate, List.cons_append, List.nil_append, List.append_nil]
 simp (disch := omega) only [qwa, s1, z0, z1, go_sem]
 repeat' first
  | (with_reducible refine And.intro ?_ ?_)
  | (with_reducible intro _)
 all_goals first
  | omega
  | contradiction
  | skip
 ·rfl
 exact ⟨h.length + 1, 2, 6, 0, L.length, 49, zK L, _, ⟨trivial, trivial⟩, rfl, rfl, by omega, by simp only [go_sem], qai L _, hk, rfl, rfl⟩
end RC
end
section
open Go Go.Proofs AF HY LN
namespace RC
set_option maxRecDepth 100000
set_option maxHeartbeats 4000000
theorem qpz (L : List Int) (src : Int) : jr (fun j => decide (src = L.getD j 0)) L.length = decide (src ∈ L) := by
 by_cases h : src ∈ L
 ·rw [decide_eq_true h, zy]
  obtain ⟨j, hj, e⟩ := List.getElem_of_mem h
  exact ⟨j, hj, decide_eq_true (by rw [List.getD_eq_getElem?_getD, List.getElem?_eq_getElem hj]; exact e.symm)⟩
 ·rw [decide_eq_false h, qF]
  intro j hj
  refine decide_eq_false fun e => h ?_
  rw [e, List.getD_eq_getElem?_getD, List.getElem?_eq_getElem hj]
  exact List.getElem_mem hj
theorem qpZ (L : List Int) (x : Int) (h : List AObj) (hn : L.length ≤ 1000000000) : ql Tryz.prog 27 [qm L, .int .i64 x] h (.bool (decide (x ∈ L))) h := by
 have := quy qwP L.length (fun j => .i (L.getD j 0)) (.i x) h (fun _ _ => rfl) (by omega)
 simp only [At.v, At.i.injEq] at this
 have c := qs5 qwF ⟨rfl, rfl⟩ ⟨rfl, rfl⟩ this
 rw [← qpz]
 exact c
theorem qzm (L : List Int) (x : Int) (h : List AObj) (hn : L.length ≤ 1000000000) : ql Tryz.prog 115 [qm L, .ip [.int .i64 x]] h (.bool (decide (x ∈ L))) h := by
 have c27 := fun h => qpZ L x h hn
 refine acO qtv ?_
 simp (disch := omega) only [qsu, List.replicate, go_sem]
 repeat' first
  | ((first | refine cA (c27 _) ?_ ?_ | refine cG (fun e => c27 _) ?_ ?_ | refine cU (fun _ => c27 _) ?_ ?_); (next => exact flk); simp (disch := omega) only [go_sem])
  | ((first | refine qc ?_ ?_ | refine qb ?_ ?_); (next => exact rvk); simp only [go_sem]; first | exact VLe.refl _ | refine qd ?_ | refine qa ?_ | refine qe ?_ | skip)
  | with_reducible first | refine And.intro ?_ ?_ | intro _
 all_goals try exact clz
def stV (names : List Str) (gs : List Gr) (e : En) : AV := .sl e.vars.length fun j => [qm (zJ names gs (e.vars.getD j default).sigla)]
def msV (names : List Str) (gs : List Gr) (L : List En) : AV := .sl L.length fun i => [stV names gs (L.getD i default)]
def edL (names : List Str) (gs : List Gr) (t : List Str) (L : List En) : List AV := [strs names, qt gs, strs t, qA L, msV names gs L]
theorem qmT (names : List Str) (gs : List Gr) (e : En) : (stV names gs e).flag = true := rfl
theorem qlo (names : List Str) (gs : List Gr) (e : En) : (stV names gs e).strip = stV names gs e := rfl
theorem qmR (names : List Str) (gs : List Gr) (L : List En) : (msV names gs L).flag = true := rfl
theorem qlm (names : List Str) (gs : List Gr) (L : List En) : (msV names gs L).strip = msV names gs L := rfl
theorem qqF {fz : Nat → Bool} {h : List AObj} {n : Nat} (names : List Str) (gs : List Gr) (e : En) : frz fz h (n + 1) (stV names gs e) = stV names gs e := rfl
theorem qrt {fz : Nat → Bool} {h : List AObj} {n : Nat} (names : List Str) (gs : List Gr) (e : En) : rei fz h (n + 1) (stV names gs e) = stV names gs e := rfl
theorem qqE {fz : Nat → Bool} {h : List AObj} {n : Nat} (names : List Str) (gs : List Gr) (L : List En) : frz fz h (n + 1) (msV names gs L) = msV names gs L := rfl
theorem qrs {fz : Nat → Bool} {h : List AObj} {n : Nat} (names : List Str) (gs : List Gr) (L : List En) : rei fz h (n + 1) (msV names gs L) = msV names gs L := rfl
attribute [go_sem] qmT qlo qmR qlm qqF qrt qqE qrs
theorem qxh (names : List Str) (gs : List Gr) (e : En) (src : Int) (h : List AObj) (hl : e.vars.length ≤ 1000000000) :
  ql Tryz.prog 114 [stV names gs e, .fn (.func 115) [] [.ip [.int .i64 src]]] h (.int .i64 (vIx names gs e src)) h := by
 unfold stV vIx
 refine qjI qtu e.vars.length (fun j => [qm (zJ names gs (e.vars.getD j default).sigla)]) (fun j => qm (zJ names gs (e.vars.getD j default).sigla)) _ [] [.ip [.int .i64 src]] (inV names gs e src) h (fun i _ => ⟨rfl, by simp [j4], rfl, rfl, rfl⟩) (fun i _ => ?_) (by omega)
 exact qzm _ src h (by have := (kG names gs (e.vars.getD i default).sigla).2; omega)
def xsE (names : List Str) (gs : List Gr) (L : List En) (src : Int) : List (List AV) := (L.filter (jY names gs src)).map fun e => [.agg (enC e), strs (qfp names gs e src)]
theorem qqt {L : List En} {p : En → Bool} {i : Nat} (hi : i < L.length) (hp : p (L.getD i default) = true) : ∃ h : ((L.take i).filter p).length < (L.filter p).length, (L.filter p)[((L.take i).filter p).length] = L.getD i default := by
 have e1 : L.getD i default = L[i] := by rw [List.getD_eq_getElem?_getD, List.getElem?_eq_getElem hi]; rfl
 have e : L.filter p = (L.take i).filter p ++ L[i] :: (L.drop (i + 1)).filter p := by
  conv => lhs; rw [← List.take_append_drop i L, List.filter_append, List.drop_eq_getElem_cons hi, List.filter_cons, if_pos (by rw [← e1]; exact hp)]
 refine ⟨by rw [e]; simp, ?_⟩
 simp only [e]
 rw [List.getElem_append_right (Nat.le_refl _)]
 simp only [Nat.sub_self, List.getElem_cons_zero]
 exact e1.symm
theorem qjl {L : List En} {p : En → Bool} {i : Nat} (hi : i < L.length) : ((L.take (i + 1)).filter p).length = ((L.take i).filter p).length + if p (L.getD i default) = true then 1 else 0 := by
 have e1 : L.getD i default = L[i] := by rw [List.getD_eq_getElem?_getD, List.getElem?_eq_getElem hi]; rfl
 rw [List.take_succ_eq_append_getElem hi, List.filter_append, List.length_append, List.filter_cons, e1]
 split <;> rfl
theorem qpn (names : List Str) (gs : List Gr) (e : En) (src : Int) : vIx names gs e src < e.vars.length := by
 unfold vIx
 rcases jg (inV names gs e src) e.vars.length with ⟨i, h1, _, _, h4⟩ | ⟨_, h2⟩
 ·rw [h4]; omega
 ·rw [h2]; omega
set_option maxHeartbeats 8000000 in
theorem itO (names : List Str) (gs : List Gr) (t : List Str) (L : List En) (src : Int) (hl : L.length ≤ 1000000) (hv : ∀ i, (L.getD i default).vars.length ≤ 1000000000) :
  qvK Tryz.prog 113 [.ip (edL names gs t L), .ip [.int .i64 src]] (xsE names gs L src) := by
 intro h ts LI S E hS hE body start hts
 refine acQ qtt ?_
 simp (disch := omega) only [qst, List.replicate, edL, qA, go_sem]
 repeat' first
  | ((first | refine qc ?_ ?_ | refine qb ?_ ?_); (next => exact rvk); simp only [go_sem]; first | exact VLe.refl _ | refine qd ?_ | refine qa ?_ | refine qe ?_ | skip)
  | with_reducible first | refine And.intro ?_ ?_ | intro _
 all_goals try exact clz
 obtain ⟨p, hp⟩ : ∃ p, p = jY names gs src := ⟨_, rfl⟩
 have hxl : (xsE names gs L src).length = (L.filter p).length := by rw [hp]; simp [xsE]
 refine qo (T := fun i : Nat × List AObj × AObj => qK 37 [(0, .yld h.length), (1, .ip (edL names gs t L)), (2, .ip [.int .i64 src]), (8, qA L), (9, .int .i64 L.length), (10, .int .i64 i.1)])
  (H := fun i => i.2.1 ++ [.lp .ready ts LI] ++ [i.2.2])
  (inv := fun i => i.1 ≤ L.length ∧ S ((L.take i.1).filter p).length i.2.1 ∧ qR [i.2.2] 0 = true) (m := fun i => L.length - i.1) (0, h, .emp 0) ⟨Nat.zero_le _, start, rfl⟩ (Wk.temps ?_) ?_
 ·(simp only [edL, qA, List.replicate, go_sem, qk, qh, qg, qj]; try (repeat' first | (with_reducible refine And.intro ?_ ?_) | (refine qd ?_; omega) | (refine qa ?_; rfl) | exact VLe.refl _))
 rintro ⟨i, hh, O⟩ ⟨i1, i2, i3⟩ K hK
 simp only at i1 i2 i3 hK
 obtain ⟨hlen, hlow⟩ := hS _ _ i2
 have hb : (h ++ [AObj.lp LS.ready ts LI]).length = (hh ++ [AObj.lp LS.ready ts LI]).length := by simp [hlen]
 rw [hb]
 have i3' : ∀ m, qR (O :: m) 0 = true := fun _ => i3
 by_cases hi : i < L.length
 ·have q0 : ((i : Int) < L.length) = True := eq_true (by omega)
  have hst := qjl (p := p) hi
  have hfx := qqt (p := p) hi
  have hvl := hv i
  have c114 := fun h => qxh names gs (L.getD i default) src h hvl
  have hlt := qpn names gs (L.getD i default) src
  have hpe : p (L.getD i default) = decide (0 ≤ vIx names gs (L.getD i default) src) := by rw [hp]; rfl
  have hX : ∀ (hd : ((L.take i).filter p).length < (xsE names gs L src).length), p (L.getD i default) = true → (xsE names gs L src)[((L.take i).filter p).length] = [.agg (enC (L.getD i default)), strs (qfp names gs (L.getD i default) src)] := by
   intro hd hpp
   obtain ⟨h1, h2⟩ := hfx hpp
   unfold xsE
   simp only [List.getElem_map, ← hp]
   rw [h2]
  have hW : qfp names gs (L.getD i default) src = ((L.getD i default).vars.getD (vIx names gs (L.getD i default) src).toNat default).words := rfl
  obtain ⟨x, hx⟩ : ∃ x, x = L.getD i default := ⟨_, rfl⟩
  have ex := hx.symm
  simp only [ex] at c114 hst hlt hpe hX hvl hW hfx
  obtain ⟨d, hd⟩ : ∃ d, d = ((L.take i).filter p).length := ⟨_, rfl⟩
  rw [← hd] at i2 hst hfx
  simp only [← hd] at hX
  obtain ⟨k, hk⟩ : ∃ k, k = vIx names gs x src := ⟨_, rfl⟩
  rw [← hk] at c114 hlt hpe hW
  by_cases hk0 : 0 ≤ k
  ·obtain ⟨u, rfl⟩ : ∃ u : Nat, k = (u : Int) := ⟨k.toNat, by omega⟩
   rw [Int.toNat_natCast] at hW
   rw [decide_eq_true hk0] at hpe
   rw [hpe, if_pos rfl] at hst
   have q1 : ((0 : Int) ≤ u) = True := eq_true hk0
   have q2 : ((u : Int) < x.vars.length) = True := eq_true hlt
   have hdl : d < (xsE names gs L src).length := by rw [hxl]; exact (hfx hpe).1
   have hxx := hX hdl hpe
   obtain ⟨wd, hwd⟩ : ∃ wd, wd = x.vars.getD u default := ⟨_, rfl⟩
   have ewd := hwd.symm
   rw [ewd] at hW
   rw [hW] at hxx
   have hb' := fun O' => body d hh [O'] hdl i2
   rw [hxx] at hb'
   simp (disch := omega) only [List.replicate, edL, qA, msV, enC, i3', q0, ex, go_sem]
   unfold stV at c114
   repeat' first
    | ((first | refine cA (c114 _) ?_ ?_ | refine cG (fun e => c114 _) ?_ ?_ | refine cU (fun _ => c114 _) ?_ ?_); (next => exact flk); simp (disch := omega) only [edL, qA, msV, stV, enC, qC, vaC, i3', q0, q1, q2, ex, ewd, go_sem])
    | ((first | refine qc ?_ ?_ | refine qb ?_ ?_); (next => exact rvk); simp only [go_sem]; first | exact VLe.refl _ | refine qd ?_ | refine qa ?_ | refine qe ?_ | skip)
    | with_reducible first | refine And.intro ?_ ?_ | intro _
   all_goals try exact clz
   ·exact ⟨.ready, ts, LI, by rw [List.append_assoc]; exact kR hlen⟩
   ·rw [List.append_assoc]
    refine kN.mono ?_ (hb' _)
    rintro v h' ⟨hh', ⟨rfl, hn, rfl⟩ | ⟨st, rfl, hs', rfl⟩⟩
    ·simp (disch := omega) only [q1, go_sem]
     repeat' first
      | ((first | refine qc ?_ ?_ | refine qb ?_ ?_); (next => exact rvk); simp only [go_sem]; first | exact VLe.refl _ | refine qd ?_ | refine qa ?_ | refine qe ?_ | skip)
      | with_reducible first | refine And.intro ?_ ?_ | intro _
     all_goals try exact clz
     refine hK _ _ (i + 1, hh', .mem (qz (some O) + 1) 49 (enC x)) ⟨hi, by simp only; rw [hst]; exact hn, rfl⟩ (by simp only; omega) ?_
     simp only [List.append_assoc]
     refine Wk.temps ?_
     (simp only [edL, qA, List.replicate, go_sem, qk, qh, qg, qj]; try (repeat' first | (with_reducible refine And.intro ?_ ?_) | (refine qd ?_; omega) | (refine qa ?_; rfl) | exact VLe.refl _))
    ·simp (disch := omega) only [q1, go_sem]
     obtain ⟨r1, r2⟩ := (hE _ _ hs').ret (L := LI) st hts
     have eO : ∀ O', hh' ++ AObj.lp st ts LI :: [O'] = (hh' ++ [AObj.lp st ts LI]) ++ [O'] := fun _ => by simp
     rw [eO]
     exact qjA trivial r1 r2 ⟨_, .inr ⟨st, hs', rfl⟩⟩ (VLe.refl _)
  ·have q1 : (0 ≤ k) = False := eq_false hk0
   rw [decide_eq_false hk0] at hpe
   rw [hpe, if_neg (by simp), Nat.add_zero] at hst
   simp (disch := omega) only [List.replicate, edL, qA, msV, enC, i3', q0, ex, go_sem]
   unfold stV at c114
   repeat' first
    | ((first | refine cA (c114 _) ?_ ?_ | refine cG (fun e => c114 _) ?_ ?_ | refine cU (fun _ => c114 _) ?_ ?_); (next => exact flk); simp (disch := omega) only [edL, qA, msV, stV, enC, qC, vaC, i3', q0, q1, ex, go_sem])
    | ((first | refine qc ?_ ?_ | refine qb ?_ ?_); (next => exact rvk); simp only [go_sem]; first | exact VLe.refl _ | refine qd ?_ | refine qa ?_ | refine qe ?_ | skip)
    | with_reducible first | refine And.intro ?_ ?_ | intro _
   all_goals try exact clz
   refine hK _ _ (i + 1, hh, .mem (qz (some O) + 1) 49 (enC x)) ⟨hi, by simp only; rw [hst]; exact i2, rfl⟩ (by simp only; omega) ?_
   simp only
   refine Wk.temps ?_
   (simp only [edL, qA, List.replicate, go_sem, qk, qh, qg, qj]; try (repeat' first | (with_reducible refine And.intro ?_ ?_) | (refine qd ?_; omega) | (refine qa ?_; rfl) | exact VLe.refl _))
 ·have e : i = L.length := by omega
  subst e
  have q0 : ((L.length : Int) < L.length) = False := eq_false (by omega)
  rw [List.take_length] at i2
  simp (disch := omega) only [List.replicate, edL, qA, i3', q0, go_sem]
  repeat' first
   | ((first | refine qc ?_ ?_ | refine qb ?_ ?_); (next => exact rvk); simp only [go_sem]; first | exact VLe.refl _ | refine qd ?_ | refine qa ?_ | refine qe ?_ | skip)
   | with_reducible first | refine And.intro ?_ ?_ | intro _
  all_goals try exact clz
  obtain ⟨r1, r2⟩ := (hS _ _ i2).ret (L := LI) .ready hts
  exact qm6 trivial r1 r2 ⟨hh, .inl ⟨by rw [hxl]; exact i2, rfl⟩⟩ (VLe.refl _)
end RC
end
section
open Go Go.Proofs AF HY LN
namespace AF
theorem kZ {P : Program} {f : FuncId} {cap : List AV} {xs : List (List AV)} (hf : qvK P f cap xs) {ps : List Nat} {b : Nat} {x y : C} {Q : Ex → Nx} {ts : List AV} {h : List AObj} (hps : ∀ a ∈ xs, a.length = ps.length)
  (S : Nat → List AObj → Prop) (E : Ex → List AObj → Prop) (hS : ∀ i hh, S i hh → LowI h hh) (hE : ∀ s hh, E s hh → LowI h hh)
  (start : S 0 h) (hts : ∀ c ∈ ts, zI (h.length + 1) c = true)
  (body : ∀ i hh tl L TS, (hi : i < xs.length) → S i hh → hh.length = h.length → ∀ (K : Nx) (K2 : Ex → Nx),
   (∀ t2 X hm, X = hm ++ .lp .ready TS L :: tl → hm.length = h.length → qO P b y K2 t2 (hm ++ .lp .busy TS L :: tl) → K t2 X) →
   (∀ t3 X hh', X = hh' ++ .lp .busy TS L :: tl → hh'.length = h.length → S (i + 1) hh' → K2 .normal t3 X) →
   (∀ t3 X hh', X = hh' ++ .lp .busy TS L :: tl → hh'.length = h.length → E .ret hh' → K2 .ret t3 X) →
   (∀ id t3 X hh', X = hh' ++ .lp .busy TS L :: tl → hh'.length = h.length → E (.exit id) hh' → K2 (.exit id) t3 X) →
   qO P b x (Ex.andThen K (fun _ _ _ => False)) (qbi ts ps (xs[i])) (hh ++ .lp .ready TS L :: tl))
  (done : ∀ hh, S xs.length hh → Q .normal ts hh) (doneE : ∀ e hh, E e hh → match e with
   | .normal => False
   | e => Q e ts hh) :
  qea P (.fn (.func f) [] cap) ps (qO P b x) (qO P b y) Q ts h := by
 intro L hy
 show zZ _ _ _ _ _
 have key := hf h ts L S (fun s hh => match s with
  | .ret => E .ret hh
  | .exit id => E (.exit id) hh
  | _ => False) hS
  (by
   intro s hh hs
   cases s with
   | ret => exact hE _ _ hs
   | exit id => exact hE _ _ hs
   | ready => exact hs.elim
   | busy => exact hs.elim)
  (by
   intro i hh tl hi i4
   have hlen := (hS _ _ i4).1
   refine hy h.length ts _ _ _ (kR hlen) (hps _ (List.getElem_mem hi)) ?_
   refine jJ (Q := Ex.andThen (fun t2 h2 => ∃ hm, hm.length = h.length ∧ h2 = hm ++ .lp .ready ts L :: tl ∧
    qO P b y (fun e t3 h3 => ∃ hh', h3 = hh' ++ .lp .busy ts L :: tl ∧ hh'.length = h.length ∧ match e with
     | .normal => S (i + 1) hh'
     | .ret => E .ret hh'
     | .exit id => E (.exit id) hh') t2 (hm ++ .lp .busy ts L :: tl)) (fun _ _ _ => False)) ?_
    (body i hh tl L ts hi i4 hlen _ _ (fun t2 X hm e1 e2 e3 => ⟨hm, e2, e1, e3⟩) (fun t3 X hh' e1 e2 e3 => ⟨hh', e1, e2, e3⟩) (fun t3 X hh' e1 e2 e3 => ⟨hh', e1, e2, e3⟩) (fun id t3 X hh' e1 e2 e3 => ⟨hh', e1, e2, e3⟩))
   intro e t2 h2 hq
   cases e with
   | ret => exact hq.elim
   | exit id => exact hq.elim
   | normal =>
    obtain ⟨hm, hml, rfl, h3⟩ := hq
    refine ⟨rfl, ⟨ts, kR hml⟩, fun ts' hts' => ?_⟩
    rw [kR hml] at hts'
    cases hts'
    rw [qa9 hml]
    refine jJ ?_ h3
    rintro e t3 h3' ⟨hh', rfl, g1, g2⟩
    refine ⟨ts, kR g1, ?_⟩
    cases e with
    | normal => exact ⟨hh', .inl ⟨rfl, g2, qa9 g1⟩⟩
    | ret => exact ⟨hh', .inr ⟨.ret, rfl, g2, qa9 g1⟩⟩
    | exit id => exact ⟨hh', .inr ⟨.exit id, rfl, g2, qa9 g1⟩⟩)
  start hts
 refine key.le (j8.refl _) ?_
 rintro v h' ⟨hh, ⟨g1, rfl⟩ | ⟨s, g1, rfl⟩⟩
 ·have hl := hS _ _ g1
  exact ⟨v, VLe.refl _, hh, .ready, ts, L, rfl, hl.1, fun o ho => (hl.2 o ho).imp (fun h => h) And.left, done hh g1⟩
 ·cases s with
  | ready => exact g1.elim
  | busy => exact g1.elim
  | ret =>
   have hl := hE _ _ g1
   exact ⟨v, VLe.refl _, hh, .ret, ts, L, rfl, hl.1, fun o ho => (hl.2 o ho).imp (fun h => h) And.left, doneE _ _ g1⟩
  | exit id =>
   have hl := hE _ _ g1
   exact ⟨v, VLe.refl _, hh, .exit id, ts, L, rfl, hl.1, fun o ho => (hl.2 o ho).imp (fun h => h) And.left, doneE _ _ g1⟩
end AF
namespace RC
set_option maxRecDepth 100000
set_option maxHeartbeats 4000000
theorem ofP (names : List Str) (gs : List Gr) (t : List Str) (L : List En) (src : Int) (h : List AObj) :
  ql Tryz.prog 75 [.agg (edL names gs t L), .int .i64 src] h (.fn (.func 113) [] [.ip (edL names gs t L), .ip [.int .i64 src]]) h := by
 unfold edL
 refine acO qw0 ?_
 simp (disch := omega) only [qya, List.replicate, go_sem]
 repeat' first
  | ((first | refine qc ?_ ?_ | refine qb ?_ ?_); (next => exact rvk); simp only [go_sem]; first | exact VLe.refl _ | refine qd ?_ | refine qa ?_ | refine qe ?_ | skip)
  | with_reducible first | refine And.intro ?_ ?_ | intro _
 all_goals try exact clz
theorem qcZ (n : Nat) (L : List Str) : zI n (strs L) = true := rfl
theorem qcY (n : Nat) (L : List Gr) : zI n (qt L) = true := rfl
theorem qcX (n : Nat) (L : List En) : zI n (qA L) = true := rfl
theorem qeU (n : Nat) (names : List Str) (gs : List Gr) (L : List En) : zI n (msV names gs L) = true := rfl
theorem qaY (names : List Str) (gs : List Gr) (L : List En) (src : Int) : (xsE names gs L src).length = (L.filter (jY names gs src)).length := by simp [xsE]
theorem qft (names : List Str) (gs : List Gr) (L : List En) (src : Int) {i : Nat} (hi : i < (xsE names gs L src).length) :
  (xsE names gs L src)[i] = [.agg (enC ((L.filter (jY names gs src)).getD i default)), strs (qfp names gs ((L.filter (jY names gs src)).getD i default) src)] := by
 have hi' : i < (L.filter (jY names gs src)).length := by rw [qaY] at hi; exact hi
 simp only [xsE, List.getElem_map]
 rw [List.getD_eq_getElem?_getD, List.getElem?_eq_getElem hi']
 rfl
theorem qfu (names : List Str) (gs : List Gr) (L : List En) (src : Int) : ∀ a ∈ xsE names gs L src, a.length = 2 := by
 intro a ha
 unfold xsE at ha
 obtain ⟨_, _, rfl⟩ := List.mem_map.1 ha
 rfl
theorem qyo (names : List Str) (gs : List Gr) (t : List Str) (L : List En) (src : Int) (h : List AObj) (hl : L.length ≤ 1000000) (hv : ∀ i, (L.getD i default).vars.length ≤ 1000000000) :
  ql Tryz.prog 46 [.agg (edL names gs t L), .int .i64 src] h (.int .i64 (L.filter (jY names gs src)).length) h := by
 have c75 := fun h => ofP names gs t L src h
 have hle := List.length_filter_le (jY names gs src) L
 unfold edL at c75
 refine acO qwM ?_
 simp (disch := omega) only [qxZ, List.replicate, edL, go_sem]
 repeat' first
  | ((first | refine cA (c75 _) ?_ ?_ | refine cG (fun e => c75 _) ?_ ?_ | refine cU (fun _ => c75 _) ?_ ?_); (next => exact flk); simp (disch := omega) only [go_sem])
  | ((first | refine qc ?_ ?_ | refine qb ?_ ?_); (next => exact rvk); simp only [go_sem]; first | exact VLe.refl _ | refine qd ?_ | refine qa ?_ | refine qe ?_ | skip)
  | with_reducible first | refine And.intro ?_ ?_ | intro _
 all_goals try exact clz
 refine kZ (xs := xsE names gs L src) (itO names gs t L src hl hv) (qfu names gs L src)
  (S := fun i hh => hh = h ++ [.mem 1 71 (edL names gs t L), .mem 1 3 [.int .i64 i]]) (E := fun _ _ => False) ?_ (fun _ _ h => h.elim) ?_ ?_ ?_ ?_ (fun _ _ h => h.elim)
 ·rintro i hh rfl
  refine LowI.app rfl (fun o ho => ?_)
  simp only [List.mem_cons, List.not_mem_nil, or_false] at ho
  rcases ho with rfl | rfl
  ·left; simp [edL]
  ·right; constructor <;> (intro c hc; simp at hc; subst hc; rfl)
 ·rfl
 ·simp [zI, zI.lowVs, edL, qcZ, qcY, qcX, qeU]
  try omega
 ·rintro i hh tl LI TS hi rfl hlen K K2 hK hN hR hX
  rw [qft names gs L src hi]
  rw [qaY] at hi
  simp only [qbi]
  simp (disch := omega) only [List.append_assoc, go_sem]
  refine hK _ _ (h ++ [.mem 1 71 (edL names gs t L), .mem 1 3 [.int .i64 i]]) (by simp) (by simp) ?_
  simp (disch := omega) only [List.append_assoc, go_sem]
  repeat' first
   | ((first | refine qc ?_ ?_ | refine qb ?_ ?_); (next => exact rvk); simp only [go_sem]; first | exact VLe.refl _ | refine qd ?_ | refine qa ?_ | refine qe ?_ | skip)
   | with_reducible first | refine And.intro ?_ ?_ | intro _
  all_goals try exact clz
  refine hN _ _ (h ++ [.mem 1 71 (edL names gs t L), .mem 1 3 [.int .i64 ((i + 1 : Nat) : Int)]]) (by simp) (by simp) rfl
 ·rintro hh rfl
  rw [qaY]
  simp (disch := omega) only [go_sem]
  repeat' first
   | ((first | refine qc ?_ ?_ | refine qb ?_ ?_); (next => exact rvk); simp only [go_sem]; first | exact VLe.refl _ | refine qd ?_ | refine qa ?_ | refine qe ?_ | skip)
   | with_reducible first | refine And.intro ?_ ?_ | intro _
  all_goals try exact clz
end RC
end
section
open Go Go.Proofs AF HY LN
namespace AF
theorem Wk.ownNil {t : List AV} {h : List AObj} {j v i k ve sz : Nat} {ty : TypeId} {cs : List AV} (hj : qy j h = some (.mem v ty cs)) (hi : cs[i]? = some .nl) (hk : qy k h = some (.emp ve)) :
  Wk t h t (qB j h (.mem v ty (cs.set i (.osl k ve sz 0 0)))) := by
 intro N w σ a H
 have hjl : j < σ.length := by rw [H.hr.len]; exact zu hj
 have hkl : k < σ.length := by rw [H.hr.len]; exact zu hk
 have ho := List.getElem?_eq_getElem hjl
 have hok := List.getElem?_eq_getElem hkl
 obtain ⟨e1, e2⟩ := H.hr.obj k _ _ hk hok
 obtain ⟨m1, m2, b, arr, m3, m4, m5, m6, m7, m8⟩ := H.hr.obj j _ _ hj ho
 have q := H.hr.recell (cs' := cs.set i (.osl k ve sz 0 0)) hj ho m3 m4 m5 (by simpa using m6) (fun n x hn hx => m7 n x (by simpa using hn) hx) (fun n c x hn hx => by
  rw [List.getElem?_set] at hn
  split at hn
  ·rename_i e
   subst e
   split at hn
   ·cases hn
    have hv := m8 i _ x hi hx
    cases hv with
    | imm hv =>
     cases hv
     exact .osl _ hok ⟨none, 0, 0, rfl⟩ (Nat.le_of_eq e1.symm) (fun _ => .inl ⟨e2, rfl, rfl, rfl⟩)
   ·cases hn
  ·exact m8 n c x hn hx)
 exact ⟨σ, ⟨q, H.sz, H.tm, H.df⟩, Ext.refl _ _⟩
end AF
namespace RC
set_option maxRecDepth 100000
set_option maxHeartbeats 4000000
def j7 (names : List Str) (gs : List Gr) (t : List Str) (src : Int) (L : List En) : List Str × Nat :=
 L.foldl (fun o e => (o.1 ++ (zQ t o.2 e.frm.toNat ++ qfp names gs e src), e.to.toNat)) ([], 0)
theorem qlw (names : List Str) (gs : List Gr) (t : List Str) (src : Int) (L : List En) (e : En) :
  j7 names gs t src (L ++ [e]) = ((j7 names gs t src L).1 ++ (zQ t (j7 names gs t src L).2 e.frm.toNat ++ qfp names gs e src), e.to.toNat) := by
 unfold j7
 rw [List.foldl_append]
 rfl
theorem qrJ (names : List Str) (gs : List Gr) (t : List Str) (src : Int) (L : List En) : ∀ (o : List Str) (k : Nat),
  (L.foldl (fun o e => (o.1 ++ (zQ t o.2 e.frm.toNat ++ qfp names gs e src), e.to.toNat)) (o, k)).1 ++ zQ t (L.foldl (fun o e => (o.1 ++ (zQ t o.2 e.frm.toNat ++ qfp names gs e src), e.to.toNat)) (o, k)).2 t.length = o ++ qhy names gs t src L k := by
 induction L with
 | nil =>
  intro o k
  simp only [List.foldl_nil, qhy, zQ]
  rw [List.take_of_length_le (by simp)]
 | cons e r ih =>
  intro o k
  rw [List.foldl_cons, ih]
  simp [qhy]
theorem qdj (names : List Str) (gs : List Gr) (t : List Str) (src : Int) (L : List En) :
  (j7 names gs t src L).1 ++ zQ t (j7 names gs t src L).2 t.length = qhy names gs t src L 0 := by
 have := qrJ names gs t src L [] 0
 rw [List.nil_append] at this
 exact this
structure qsj (t : List Str) (L : List En) : Prop where
 rg : ∀ i, i < L.length → 0 ≤ (L.getD i default).frm ∧ (L.getD i default).frm ≤ (L.getD i default).to ∧ (L.getD i default).to ≤ t.length
 nx : ∀ i, i + 1 < L.length → (L.getD i default).to ≤ (L.getD (i + 1) default).frm
theorem qlt {L : List En} {i : Nat} (hi : i < L.length) : L.take (i + 1) = L.take i ++ [L.getD i default] := by
 rw [List.take_succ_eq_append_getElem hi, List.getD_eq_getElem?_getD, List.getElem?_eq_getElem hi]
 rfl
theorem kA {names : List Str} {gs : List Gr} {t : List Str} {src : Int} {L : List En} {i : Nat} (hi : i < L.length) :
  j7 names gs t src (L.take (i + 1)) = ((j7 names gs t src (L.take i)).1 ++ (zQ t (j7 names gs t src (L.take i)).2 (L.getD i default).frm.toNat ++ qfp names gs (L.getD i default) src), (L.getD i default).to.toNat) := by
 rw [qlt hi, qlw]
theorem qlu {names : List Str} {gs : List Gr} {t : List Str} {src : Int} {L : List En} (ok : qsj t L) : ∀ i, i < L.length → ((j7 names gs t src (L.take i)).2 : Int) ≤ (L.getD i default).frm := by
 intro i hi
 cases i with
 | zero => exact (ok.rg 0 hi).1
 | succ i =>
  rw [kA (by omega)]
  have := ok.nx i hi
  have h2 := ok.rg i (by omega)
  show (((L.getD i default).to.toNat : Nat) : Int) ≤ _
  omega
theorem qlv {names : List Str} {gs : List Gr} {t : List Str} {src : Int} {L : List En} (ok : qsj t L) : ∀ i, i ≤ L.length → (j7 names gs t src (L.take i)).2 ≤ t.length := by
 intro i hi
 cases i with
 | zero => exact Nat.zero_le _
 | succ i =>
  rw [kA (by omega)]
  have h2 := ok.rg i (by omega)
  show ((L.getD i default).to.toNat : Nat) ≤ _
  omega
theorem qlU {names : List Str} {gs : List Gr} {e : En} {src : Int} {W : Nat} (h : ∀ i, (e.vars.getD i default).words.length ≤ W) : (qfp names gs e src).length ≤ W := h _
theorem qdk {names : List Str} {gs : List Gr} {t : List Str} {src : Int} {W : Nat} {L : List En} (h : ∀ i, i < L.length → ∀ k, ((L.getD i default).vars.getD k default).words.length ≤ W) :
  ∀ i, i ≤ L.length → (j7 names gs t src (L.take i)).1.length ≤ i * (t.length + W) := by
 intro i
 induction i with
 | zero => intro _; exact Nat.zero_le _
 | succ i ih =>
  intro hi
  rw [kA (by omega)]
  have h1 := ih (by omega)
  have h2 := qlU (names := names) (gs := gs) (src := src) (h i (by omega))
  have h3 : (zQ t (j7 names gs t src (L.take i)).2 (L.getD i default).frm.toNat).length ≤ t.length := by unfold zQ; simp; omega
  simp only [List.length_append, Nat.add_mul, Nat.one_mul]
  omega
theorem qc1 {names : List Str} {gs : List Gr} {l : List En} {src : Int} {e : En} (h : e ∈ ofE names gs l src) : e ∈ l := (jp l).subset (List.mem_filter.1 h).1
theorem zf {L : List En} {i : Nat} (hi : i < L.length) : L.getD i default ∈ L := by
 rw [List.getD_eq_getElem?_getD, List.getElem?_eq_getElem hi]
 exact List.getElem_mem hi
theorem qpq.tx {names : List Str} {gs : List Gr} {t : List Str} {l : List En} (h : qpq names gs t l) {s : Nat} (hs : s < names.length) : qsj t (ofE names gs l (s : Int)) :=
 ⟨fun i hi => (qcH.1 (h.ck _ (qc1 (zf hi)))).rng, fun i hi => qms (jF h.cl hs) hi⟩
end RC
end
section
open Go Go.Proofs AF HY LN
namespace RC
set_option maxRecDepth 100000
set_option maxHeartbeats 4000000
structure CSz (names : List Str) (gs : List Gr) (t : List Str) (l : List En) : Prop where
 hz : Szs names gs
 ht : TSz t
 tn : t.length ≤ 1000
 ln : l.length ≤ 10
 nn : names.length ≤ 1000
 gm : ∀ i, (gs.getD i default).mem.length ≤ 1000
 he : ∀ i, ESz (l.getD i default)
 vl : ∀ i, (l.getD i default).vars.length ≤ 1000
 sg : ∀ i j, ((l.getD i default).vars.getD j default).sigla.length ≤ 1000
 wl : ∀ i j, ((l.getD i default).vars.getD j default).words.length ≤ 1000
 sp : ∀ i, (l.getD i default).sup.length ≤ 1000
def inR (names : List Str) (src : Int) : Bool := decide (0 ≤ src) && decide (src < names.length)
def opE (e : Int) : Int := if e = 0 then 0 else 1
def qcC (names : List Str) (gs : List Gr) (t : List Str) (l : List En) (src : Int) : Int := if rdE names gs t l = 0 then (if inR names src = true then 0 else 2) else 1
def qol (names : List Str) (gs : List Gr) (t : List Str) (l : List En) (src : Int) : List Str := if qcC names gs t l src = 0 then qb0 names gs t l src else []
def kL (names : List Str) (gs : List Gr) (t : List Str) (l : List En) (n : Nat) : List (List Str) := (List.range n).map fun (s : Nat) => qb0 names gs t l (s : Int)
def qex (names : List Str) (gs : List Gr) (t : List Str) (l : List En) : List (List Str) := if rdE names gs t l = 0 then kL names gs t l names.length else []
def qsb (names : List Str) (gs : List Gr) (t : List Str) (l : List En) (src : Int) : Int := if qcC names gs t l src = 0 then (ofE names gs l src).length else 0
def noE (names : List Str) (gs : List Gr) (l : List En) (s : Nat) : Bool := decide ((ofE names gs l (s : Int)).length = 0)
def qmb (names : List Str) (gs : List Gr) (t : List Str) (l : List En) : List Int := if rdE names gs t l = 0 then zr (noE names gs l) names.length else []
def zc (L : List (List Str)) : AV := .sl L.length fun i => [strs (L.getD i [])]
def qby (L : List (List Str)) : List AV := L.map strs
theorem qbz (L : List (List Str)) : (qby L).length = L.length := by simp [qby]
theorem qf6 (L M : List (List Str)) : qby (L ++ M) = qby L ++ qby M := by simp [qby]
theorem qox {L : List (List Str)} {i : Nat} (hi : i < L.length) : ((qby L).drop i).take 1 = [strs (L.getD i [])] := by
 unfold qby
 rw [← List.map_drop, List.drop_eq_getElem_cons hi, List.map_cons, List.take_succ_cons, List.take_zero, List.getD_eq_getElem?_getD, List.getElem?_eq_getElem hi]
 rfl
theorem qdv (names : List Str) (gs : List Gr) (t : List Str) (l : List En) (n : Nat) : kL names gs t l (n + 1) = kL names gs t l n ++ [qb0 names gs t l (n : Int)] := by
 unfold kL; rw [List.range_succ, List.map_append]; rfl
theorem kC (names : List Str) (gs : List Gr) (t : List Str) (l : List En) (n : Nat) : (kL names gs t l n).length = n := by simp [kL]
theorem qgG (L : List (List Str)) : (zc L).flag = true := rfl
theorem qfh (L : List (List Str)) : (zc L).strip = zc L := rfl
attribute [go_sem] qgG qfh
theorem qZ (L : List Str) : (zH L).length = L.length := by simp [zH]
theorem kJ (L M : List Str) : zH (L ++ M) = zH L ++ zH M := by simp [zH]
theorem qoq {L : List Str} : zH L = [] ↔ L = [] := by simp [zH]
theorem qdi {L : List Str} {n : Nat} (g : AV → AV) (hg : ∀ s, g (.str s) = .str s) (hn : n = L.length) : VLe (.sl n fun i => (((zH L).drop i).take 1).map g) (strs L) := by
 subst hn
 refine VLe.sl_eq rfl (fun i hi => ?_)
 unfold zH
 rw [← List.map_drop, List.drop_eq_getElem_cons hi, List.map_cons, List.take_succ_cons, List.take_zero, List.map_cons, List.map_nil, hg, List.getD_eq_getElem?_getD, List.getElem?_eq_getElem hi]
 rfl
theorem qf7 {L : List (List Str)} {n : Nat} (g : AV → AV) (hg : ∀ s, g (strs s) = strs s) (hn : n = L.length) : VLe (.sl n fun i => (((qby L).drop i).take 1).map g) (zc L) := by
 subst hn
 refine VLe.sl_eq rfl (fun i hi => ?_)
 rw [qox hi, List.map_cons, List.map_nil, hg]
theorem qmY {α β : Type} (f : α → β) (L : List α) : L.flatMap (fun i => [f i]) = L.map f := by
 induction L with
 | nil => rfl
 | cons a L ih => rw [List.flatMap_cons, ih]; rfl
theorem qbZ (h : List AObj) {t : List Str} {a b : Nat} (h1 : a ≤ b) (h2 : b ≤ t.length) : qr h (.sl (b - a) fun i => [.str (t.getD (a + i) [])]) = some (b - a, zH (zQ t a b)) := by
 show some (b - a, (List.range (b - a)).flatMap fun i => [AV.str (t.getD (a + i) [])]) = _
 rw [qmY (fun i => AV.str (t.getD (a + i) []))]
 congr 2
 unfold zH zQ
 apply List.ext_getElem
 ·simp; omega
 ·intro i g1 g2
  have hi : i < b - a := by simpa using g1
  have hl : a + i < t.length := by omega
  simp [List.getD_eq_getElem?_getD, hl]
theorem qdg (h : List AObj) (t : List Str) : qr h (strs t) = some (t.length, zH t) := by
 have := qbZ h (t := t) (a := 0) (b := t.length) (Nat.zero_le _) (Nat.le_refl _)
 simp only [Nat.sub_zero, Nat.zero_add] at this
 have e : zQ t 0 t.length = t := by simp [zQ]
 rw [e] at this
 exact this
end RC
end
section
open Go Go.Proofs AF HY LN
namespace RC
set_option maxRecDepth 100000
set_option maxHeartbeats 8000000
def gwB (ws : List Str) (n : Nat) : Bool := jr (fun i => decide (20 < (ws.getD i []).length)) ws.length || decide (n < ws.length)
theorem kD {p : Nat → Bool} {i : Nat} (h : ∀ j, j < i → p j = false) (hp : p i = false) : ∀ j, j < i + 1 → p j = false := by
 intro j hj
 by_cases e : j = i
 ·subst e; exact hp
 ·exact h j (by omega)
theorem gwP (ws : List Str) (n : Nat) (h : List AObj) (hn : ws.length ≤ 9223372036854775807) : ql Tryz.prog 144 [strs ws, .int .i64 n] h (.bool (gwB ws n)) h := by
 obtain ⟨R, hR⟩ : ∃ R, R = gwB ws n := ⟨_, rfl⟩
 rw [← hR]
 unfold gwB at hR
 refine acO qtG ?_
 simp (disch := omega) only [qsF, List.replicate, strs, go_sem]
 repeat' first
  | ((first | refine qc ?_ ?_ | refine qb ?_ ?_); (next => exact rvk); simp only [go_sem]; first | exact VLe.refl _ | refine qd ?_ | refine qa ?_ | refine qe ?_ | skip)
  | with_reducible first | refine And.intro ?_ ?_ | intro _
 all_goals try exact clz
 refine qo (T := fun i : Nat => qK 22 [(0, strs ws), (1, .int .i64 n), (5, .int .i64 i)]) (H := fun _ => h) (inv := fun i => i ≤ ws.length ∧ ∀ j, j < i → (fun i => decide (20 < (ws.getD i []).length)) j = false) (m := fun i => ws.length - i) 0 ⟨Nat.zero_le _, fun j hj => by omega⟩ (Wk.temps ?_) ?_
 ·(simp only [strs, List.replicate, go_sem, qk, qh, qg, qj]; try (repeat' first | (with_reducible refine And.intro ?_ ?_) | (refine qd ?_; omega) | (refine qa ?_; rfl) | exact VLe.refl _))
 rintro i ⟨i1, i2⟩ K hK
 by_cases hi : i < ws.length
 ·have k1 : ((i : Int) < ws.length) = True := eq_true (by omega)
  by_cases g : 20 < (ws.getD i []).length
  ·have hV : R = true := by rw [hR, zy.2 ⟨i, hi, decide_eq_true g⟩]; rfl
   obtain ⟨s, hs⟩ : ∃ s, s = ws.getD i [] := ⟨_, rfl⟩
   have es := hs.symm
   rw [es] at g
   have k2 : ((20 : Int) < s.length) = True := eq_true (by omega)
   rw [hV]
   simp (disch := omega) only [List.replicate, strs, k1, k2, es, go_sem]
   repeat' first
    | ((first | refine qc ?_ ?_ | refine qb ?_ ?_); (next => exact rvk); simp only [go_sem]; first | exact VLe.refl _ | refine qd ?_ | refine qa ?_ | refine qe ?_ | skip)
    | with_reducible first | refine And.intro ?_ ?_ | intro _
   all_goals try exact clz
  ·have i3 := kD i2 (decide_eq_false g)
   obtain ⟨s, hs⟩ : ∃ s, s = ws.getD i [] := ⟨_, rfl⟩
   have es := hs.symm
   rw [es] at g
   have k2 : ((20 : Int) < s.length) = False := eq_false (by omega)
   simp (disch := omega) only [List.replicate, strs, k1, k2, es, go_sem]
   repeat' first
    | ((first | refine qc ?_ ?_ | refine qb ?_ ?_); (next => exact rvk); simp only [go_sem]; first | exact VLe.refl _ | refine qd ?_ | refine qa ?_ | refine qe ?_ | skip)
    | with_reducible first | refine And.intro ?_ ?_ | intro _
   all_goals try exact clz
   refine hK _ _ (i + 1) ⟨hi, i3⟩ (by omega) (Wk.temps ?_)
   (simp only [strs, List.replicate, go_sem, qk, qh, qg, qj]; try (repeat' first | (with_reducible refine And.intro ?_ ?_) | (refine qd ?_; omega) | (refine qa ?_; rfl) | exact VLe.refl _))
 ·have k1 : ((i : Int) < ws.length) = False := eq_false (by omega)
  rw [qF.2 (fun j hj => i2 j (by omega)), Bool.false_or] at hR
  have e : decide ((n : Int) < ws.length) = R := by rw [hR]; exact decide_eq_decide.2 (by omega)
  simp (disch := omega) only [List.replicate, strs, k1, go_sem]
  repeat' first
   | ((first | refine qc ?_ ?_ | refine qb ?_ ?_); (next => exact rvk); simp only [go_sem]; first | exact VLe.refl _ | refine qd ?_ | refine qa ?_ | refine qe ?_ | skip)
   | with_reducible first | refine And.intro ?_ ?_ | intro _
  all_goals try exact clz
structure EnB (e : En) : Prop where
 v : e.vars.length ≤ 9223372036854775807
 s : e.sup.length ≤ 9223372036854775807
 w : ∀ i, (e.vars.getD i default).words.length ≤ 9223372036854775807
 g : ∀ i, (e.vars.getD i default).sigla.length ≤ 9223372036854775807
def geB (e : En) : Bool := (decide (6 < e.vars.length) || gwB e.sup 8) || jr (fun i => gwB (e.vars.getD i default).words 8 || gwB (e.vars.getD i default).sigla 8) e.vars.length
theorem geP (e : En) (h : List AObj) (hb : EnB e) : ql Tryz.prog 112 [.agg (enC e)] h (.bool (geB e)) h := by
 have cs := fun h => gwP e.sup 8 h hb.s
 have cw := fun i h => gwP (e.vars.getD i default).words 8 h (hb.w i)
 have cg := fun i h => gwP (e.vars.getD i default).sigla 8 h (hb.g i)
 have hv := hb.v
 have z8 : ((8 : Nat) : Int) = 8 := rfl
 simp only [z8] at cs cw cg
 obtain ⟨R, hR⟩ : ∃ R, R = geB e := ⟨_, rfl⟩
 rw [← hR]
 unfold geB at hR
 by_cases g1 : 6 < e.vars.length
 ·have k1 : ((6 : Int) < e.vars.length) = True := eq_true (by omega)
  rw [decide_eq_true g1] at hR
  rw [hR]
  refine acO qjw ?_
  simp (disch := omega) only [qmh, List.replicate, enC, qC, k1, go_sem]
  repeat' first
   | (refine qn (.bool true) ?_; simp (disch := omega) only [enC, qC, k1, go_sem])
   | ((first | refine qc ?_ ?_ | refine qb ?_ ?_); (next => exact rvk); simp only [go_sem]; first | exact VLe.refl _ | refine qd ?_ | refine qa ?_ | refine qe ?_ | skip)
   | with_reducible first | refine And.intro ?_ ?_ | intro _
  all_goals try exact clz
 have k1 : ((6 : Int) < e.vars.length) = False := eq_false (by omega)
 rw [decide_eq_false g1, Bool.false_or] at hR
 cases g2 : gwB e.sup 8 with
 | true =>
  rw [g2] at hR cs
  rw [hR]
  refine acO qjw ?_
  simp (disch := omega) only [qmh, List.replicate, enC, qC, k1, go_sem]
  repeat' first
   | ((first | refine cA (cs _) ?_ ?_ | refine cG (fun e => cs _) ?_ ?_ | refine cU (fun _ => cs _) ?_ ?_); (next => exact flk); simp (disch := omega) only [enC, qC, k1, go_sem])
   | ((first | refine qc ?_ ?_ | refine qb ?_ ?_); (next => exact rvk); simp only [go_sem]; first | exact VLe.refl _ | refine qd ?_ | refine qa ?_ | refine qe ?_ | skip)
   | with_reducible first | refine And.intro ?_ ?_ | intro _
  all_goals try exact clz
 | false =>
 rw [g2, Bool.false_or] at hR
 rw [g2] at cs
 refine acO qjw ?_
 simp (disch := omega) only [qmh, List.replicate, enC, qC, k1, go_sem]
 repeat' first
  | ((first | refine cA (cs _) ?_ ?_ | refine cG (fun e => cs _) ?_ ?_ | refine cU (fun _ => cs _) ?_ ?_); (next => exact flk); simp (disch := omega) only [enC, qC, k1, go_sem])
  | ((first | refine qc ?_ ?_ | refine qb ?_ ?_); (next => exact rvk); simp only [go_sem]; first | exact VLe.refl _ | refine qd ?_ | refine qa ?_ | refine qe ?_ | skip)
  | with_reducible first | refine And.intro ?_ ?_ | intro _
 all_goals try exact clz
 refine qo (T := fun i : Nat => qK 36 [(1, .op h.length 1 0), (3, .int .i64 i)]) (H := fun _ => h ++ [.mem 1 49 (enC e)]) (inv := fun i => i ≤ e.vars.length ∧ ∀ j, j < i → (fun i => gwB (e.vars.getD i default).words 8 || gwB (e.vars.getD i default).sigla 8) j = false) (m := fun i => e.vars.length - i) 0 ⟨Nat.zero_le _, fun j hj => by omega⟩ ?_ ?_
 ·refine Wk.temps ?_
  (simp only [List.replicate, go_sem, qk, qh, qg, qj]; try (repeat' first | (with_reducible refine And.intro ?_ ?_) | (refine qd ?_; omega) | (refine qa ?_; rfl) | exact VLe.refl _))
 rintro i ⟨i1, i2⟩ K hK
 by_cases hi : i < e.vars.length
 ·have k2 : ((i : Int) < e.vars.length) = True := eq_true (by omega)
  have cw := cw i
  have cg := cg i
  have hit : (gwB (e.vars.getD i default).words 8 || gwB (e.vars.getD i default).sigla 8) = true → R = true := fun hc => by rw [hR]; exact zy.2 ⟨i, hi, hc⟩
  have i3 := fun hc => kD (p := fun i => gwB (e.vars.getD i default).words 8 || gwB (e.vars.getD i default).sigla 8) i2 hc
  obtain ⟨v, hv⟩ : ∃ v, v = e.vars.getD i default := ⟨_, rfl⟩
  have ev := hv.symm
  simp only [ev] at cw cg hit i3
  cases g3 : gwB v.words 8 with
  | true =>
   rw [g3] at cw hit
   rw [hit rfl]
   simp (disch := omega) only [List.replicate, enC, qC, vaC, k2, ev, go_sem]
   repeat' first
    | (refine qn (.bool true) ?_; simp (disch := omega) only [enC, qC, vaC, k2, ev, go_sem])
    | ((first | refine cA (cw _) ?_ ?_ | refine cG (fun e => cw _) ?_ ?_ | refine cU (fun _ => cw _) ?_ ?_); (next => exact flk); simp (disch := omega) only [enC, qC, vaC, k2, ev, go_sem])
    | ((first | refine qc ?_ ?_ | refine qb ?_ ?_); (next => exact rvk); simp only [go_sem]; first | exact VLe.refl _ | refine qd ?_ | refine qa ?_ | refine qe ?_ | skip)
    | with_reducible first | refine And.intro ?_ ?_ | intro _
   all_goals try exact clz
  | false =>
   rw [g3] at cw hit
   cases g4 : gwB v.sigla 8 with
   | true =>
    rw [g4] at cg hit
    rw [hit rfl]
    simp (disch := omega) only [List.replicate, enC, qC, vaC, k2, ev, go_sem]
    repeat' first
     | ((first | refine cA (cw _) ?_ ?_ | refine cG (fun e => cw _) ?_ ?_ | refine cA (cg _) ?_ ?_ | refine cG (fun e => cg _) ?_ ?_ | refine cU (fun _ => cw _) ?_ ?_ | refine cU (fun _ => cg _) ?_ ?_); (next => exact flk); simp (disch := omega) only [enC, qC, vaC, k2, ev, go_sem])
     | ((first | refine qc ?_ ?_ | refine qb ?_ ?_); (next => exact rvk); simp only [go_sem]; first | exact VLe.refl _ | refine qd ?_ | refine qa ?_ | refine qe ?_ | skip)
     | with_reducible first | refine And.intro ?_ ?_ | intro _
    all_goals try exact clz
   | false =>
    rw [g4] at cg
    simp (disch := omega) only [List.replicate, enC, qC, vaC, k2, ev, go_sem]
    repeat' first
     | ((first | refine cA (cw _) ?_ ?_ | refine cG (fun e => cw _) ?_ ?_ | refine cA (cg _) ?_ ?_ | refine cG (fun e => cg _) ?_ ?_ | refine cU (fun _ => cw _) ?_ ?_ | refine cU (fun _ => cg _) ?_ ?_); (next => exact flk); simp (disch := omega) only [enC, qC, vaC, k2, ev, go_sem])
     | ((first | refine qc ?_ ?_ | refine qb ?_ ?_); (next => exact rvk); simp only [go_sem]; first | exact VLe.refl _ | refine qd ?_ | refine qa ?_ | refine qe ?_ | skip)
     | with_reducible first | refine And.intro ?_ ?_ | intro _
    all_goals try exact clz
    refine hK _ _ (i + 1) ⟨hi, i3 (by rw [g3, g4]; rfl)⟩ (by omega) (Wk.temps ?_)
    (simp only [List.replicate, go_sem, qk, qh, qg, qj]; try (repeat' first | (with_reducible refine And.intro ?_ ?_) | (refine qd ?_; omega) | (refine qa ?_; rfl) | exact VLe.refl _))
 ·have k2 : ((i : Int) < e.vars.length) = False := eq_false (by omega)
  rw [qF.2 (fun j hj => i2 j (by omega))] at hR
  rw [hR]
  simp (disch := omega) only [List.replicate, enC, qC, k2, go_sem]
  repeat' first
   | ((first | refine qc ?_ ?_ | refine qb ?_ ?_); (next => exact rvk); simp only [go_sem]; first | exact VLe.refl _ | refine qd ?_ | refine qa ?_ | refine qe ?_ | skip)
   | with_reducible first | refine And.intro ?_ ?_ | intro _
  all_goals try exact clz
def qsc (l : List En) : Bool := decide (10 < l.length) || jr (fun i => geB (l.getD i default)) l.length
theorem qy0 (l : List En) (h : List AObj) (hb : ∀ i, EnB (l.getD i default)) (hn : l.length ≤ 9223372036854775807) : ql Tryz.prog 73 [qA l] h (.bool (qsc l)) h := by
 have c := fun i h => geP (l.getD i default) h (hb i)
 obtain ⟨R, hR⟩ : ∃ R, R = qsc l := ⟨_, rfl⟩
 rw [← hR]
 unfold qsc at hR
 by_cases g1 : 10 < l.length
 ·have k1 : ((10 : Int) < l.length) = True := eq_true (by omega)
  have k2 : ((l.length : Int) ≤ 10) = False := eq_false (by omega)
  have k3 : ((0 : Int) < l.length) = True := eq_true (by omega)
  rw [decide_eq_true g1] at hR
  rw [hR]
  refine acO quf ?_
  simp (disch := omega) only [qwi, List.replicate, qA, k1, k2, k3, go_sem]
  repeat' first
   | ((first | refine qc ?_ ?_ | refine qb ?_ ?_); (next => exact rvk); simp only [go_sem]; first | exact VLe.refl _ | refine qd ?_ | refine qa ?_ | refine qe ?_ | skip)
   | with_reducible first | refine And.intro ?_ ?_ | intro _
  all_goals try exact clz
  refine qo (T := fun _ : Unit => qK 23 [(0, qA l), (3, .int .i64 0)]) (H := fun _ => h) (inv := fun _ => True) (m := fun _ => 0) () trivial (Wk.temps ?_) ?_
  ·(simp only [qA, List.replicate, go_sem, qk, qh, qg, qj]; try (repeat' first | (with_reducible refine And.intro ?_ ?_) | (refine qd ?_; omega) | (refine qa ?_; rfl) | exact VLe.refl _))
  rintro _ _ K hK
  simp (disch := omega) only [List.replicate, qA, k1, k2, k3, go_sem]
  repeat' first
   | ((first | refine qc ?_ ?_ | refine qb ?_ ?_); (next => exact rvk); simp only [go_sem]; first | exact VLe.refl _ | refine qd ?_ | refine qa ?_ | refine qe ?_ | skip)
   | with_reducible first | refine And.intro ?_ ?_ | intro _
  all_goals try exact clz
 have k1 : ((10 : Int) < l.length) = False := eq_false (by omega)
 have k2 : ((l.length : Int) ≤ 10) = True := eq_true (by omega)
 rw [decide_eq_false g1, Bool.false_or] at hR
 refine acO quf ?_
 simp (disch := omega) only [qwi, List.replicate, qA, k1, k2, go_sem]
 repeat' first
  | ((first | refine qc ?_ ?_ | refine qb ?_ ?_); (next => exact rvk); simp only [go_sem]; first | exact VLe.refl _ | refine qd ?_ | refine qa ?_ | refine qe ?_ | skip)
  | with_reducible first | refine And.intro ?_ ?_ | intro _
 all_goals try exact clz
 refine qo (T := fun i : Nat => qK 23 [(0, qA l), (3, .int .i64 i)]) (H := fun _ => h) (inv := fun i => i ≤ l.length ∧ ∀ j, j < i → (fun i => geB (l.getD i default)) j = false) (m := fun i => l.length - i) 0 ⟨Nat.zero_le _, fun j hj => by omega⟩ (Wk.temps ?_) ?_
 ·(simp only [qA, List.replicate, go_sem, qk, qh, qg, qj]; try (repeat' first | (with_reducible refine And.intro ?_ ?_) | (refine qd ?_; omega) | (refine qa ?_; rfl) | exact VLe.refl _))
 rintro i ⟨i1, i2⟩ K hK
 by_cases hi : i < l.length
 ·have k3 : ((i : Int) < l.length) = True := eq_true (by omega)
  have c := c i
  have hit : geB (l.getD i default) = true → R = true := fun hc => by rw [hR]; exact zy.2 ⟨i, hi, hc⟩
  have i3 := fun hc => kD (p := fun i => geB (l.getD i default)) i2 hc
  obtain ⟨x, hx⟩ : ∃ x, x = l.getD i default := ⟨_, rfl⟩
  have ex := hx.symm
  simp only [ex] at c hit i3
  simp only [enC] at c
  cases g3 : geB x with
  | true =>
   rw [g3] at c
   rw [hit g3]
   simp (disch := omega) only [List.replicate, qA, enC, k2, k3, ex, go_sem]
   repeat' first
    | ((first | refine cA (c _) ?_ ?_ | refine cG (fun e => c _) ?_ ?_ | refine cU (fun _ => c _) ?_ ?_); (next => exact flk); simp (disch := omega) only [qA, enC, k2, k3, ex, go_sem])
    | ((first | refine qc ?_ ?_ | refine qb ?_ ?_); (next => exact rvk); simp only [go_sem]; first | exact VLe.refl _ | refine qd ?_ | refine qa ?_ | refine qe ?_ | skip)
    | with_reducible first | refine And.intro ?_ ?_ | intro _
   all_goals try exact clz
  | false =>
   rw [g3] at c
   simp (disch := omega) only [List.replicate, qA, enC, k2, k3, ex, go_sem]
   repeat' first
    | ((first | refine cA (c _) ?_ ?_ | refine cG (fun e => c _) ?_ ?_ | refine cU (fun _ => c _) ?_ ?_); (next => exact flk); simp (disch := omega) only [qA, enC, k2, k3, ex, go_sem])
    | ((first | refine qc ?_ ?_ | refine qb ?_ ?_); (next => exact rvk); simp only [go_sem]; first | exact VLe.refl _ | refine qd ?_ | refine qa ?_ | refine qe ?_ | skip)
    | with_reducible first | refine And.intro ?_ ?_ | intro _
   all_goals try exact clz
   refine hK _ _ (i + 1) ⟨hi, i3 g3⟩ (by omega) (Wk.temps ?_)
   (simp only [qA, List.replicate, go_sem, qk, qh, qg, qj]; try (repeat' first | (with_reducible refine And.intro ?_ ?_) | (refine qd ?_; omega) | (refine qa ?_; rfl) | exact VLe.refl _))
 ·have k3 : ((i : Int) < l.length) = False := eq_false (by omega)
  rw [qF.2 (fun j hj => i2 j (by omega))] at hR
  rw [hR]
  simp (disch := omega) only [List.replicate, qA, k1, k2, k3, go_sem]
  repeat' first
   | ((first | refine qc ?_ ?_ | refine qb ?_ ?_); (next => exact rvk); simp only [go_sem]; first | exact VLe.refl _ | refine qd ?_ | refine qa ?_ | refine qe ?_ | skip)
   | with_reducible first | refine And.intro ?_ ?_ | intro _
  all_goals try exact clz
end RC
end

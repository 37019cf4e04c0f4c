import Derived.Test.YthlgfjbghnildaaGreatDoorK13
import Derived.Test.YthlgfjbghnildaaGreatDoorK2
import Derived.Test.YthlgfjbghnildaaGreatDoorK4
import Derived.Test.YthlgfjbghnildaaGreatDoorK7
import Derived.Test.YthlgfjbghnildaaGreatDoorProg
set_option linter.all false
set_option linter.unusedSimpArgs false
set_option linter.unusedVariables false
set_option linter.unusedSectionVars false
section
open Go Go.Proofs AF HY LN
namespace RC
set_option maxRecDepth 100000
set_option maxHeartbeats 8000000
def qe0 (l : List En) (i : Nat) : List En := (List.range l.length).map fun p => if p < i ∨ l.length - i ≤ p then l.getD (l.length - 1 - p) default else l.getD p default
theorem zB (l : List En) (i : Nat) : (qe0 l i).length = l.length := by simp [qe0]
theorem qav {l : List En} {i p : Nat} (hp : p < l.length) : (qe0 l i).getD p default = if p < i ∨ l.length - i ≤ p then l.getD (l.length - 1 - p) default else l.getD p default := by
 unfold qe0
 rw [List.getD_eq_getElem?_getD, List.getElem?_map, List.getElem?_range hp]
 rfl
theorem qeP {A B : List En} (h : A.length = B.length) (hp : ∀ p, p < A.length → A.getD p default = B.getD p default) : A = B := by
 refine List.ext_getElem h fun p h1 h2 => ?_
 have := hp p h1
 rw [List.getD_eq_getElem?_getD, List.getElem?_eq_getElem h1, List.getD_eq_getElem?_getD, List.getElem?_eq_getElem h2] at this
 exact this
theorem qkR (l : List En) : qe0 l 0 = l := qeP (zB l 0) fun p hp => by
 rw [zB] at hp
 rw [qav hp, if_neg (by omega)]
theorem qf2 {A : List En} {i p : Nat} {e : En} (hp : p < A.length) : (A.set i e).getD p default = if i = p then e else A.getD p default := by
 rw [List.getD_eq_getElem?_getD, List.getElem?_set]
 split
 ·rename_i h
  subst h
  rw [if_pos hp]
  rfl
 ·rw [List.getD_eq_getElem?_getD]
theorem qkQ {l : List En} {i : Nat} (hi : i < l.length - 1 - i) : ((qe0 l i).set i (l.getD (l.length - 1 - i) default)).set (l.length - 1 - i) (l.getD i default) = qe0 l (i + 1) := by
 refine qeP (by simp [zB]) fun p hp => ?_
 simp only [List.length_set, zB] at hp
 rw [qf2 (by simp [zB]; exact hp), qf2 (by rw [zB]; exact hp), qav hp, qav hp]
 by_cases h1 : l.length - 1 - i = p
 ·subst h1
  rw [if_pos rfl, if_pos (by omega), show l.length - 1 - (l.length - 1 - i) = i by omega]
 ·rw [if_neg h1]
  by_cases h2 : i = p
  ·subst h2
   rw [if_pos rfl, if_pos (by omega)]
  ·rw [if_neg h2]
   by_cases h3 : p < i ∨ l.length - i ≤ p
   ·rw [if_pos h3, if_pos (by omega)]
   ·rw [if_neg h3, if_neg (by omega)]
theorem qn4 {l : List En} {i : Nat} (h1 : l.length - 1 ≤ 2 * i) : qe0 l i = l.reverse := by
 refine qeP (by simp [zB]) fun p hp => ?_
 rw [zB] at hp
 rw [qav hp]
 have e : l.reverse.getD p default = l.getD (l.length - 1 - p) default := by
  rw [List.getD_eq_getElem?_getD, List.getElem?_reverse hp, List.getD_eq_getElem?_getD]
 rw [e]
 split
 ·rfl
 ·rename_i h
  rw [show l.length - 1 - p = p by omega]
theorem qzo (l : List En) (k v : Nat) (ty : TypeId) (h : List AObj) (hk : qy k h = some (.mem v ty (zK l))) (hl : l.length ≤ 1000000) :
  ql Tryz.prog 32 [.osl k v 6 0 l.length] h (.tup []) (qB k h (.mem v ty (zK l.reverse))) := by
 have hkl := zu hk
 have hv : qT h k v = true := by rw [qbN, hk]; simp [qd0]
 have e0 : h = qB k h (.mem v ty (zK (qe0 l 0))) := by rw [qkR]; exact (qbY hk).symm
 obtain ⟨n, hn⟩ : ∃ n, n = l.length := ⟨_, rfl⟩
 rw [← hn] at hl ⊢
 refine acO qwH ?_
 simp (disch := omega) only [qxU, List.replicate, hv, go_sem]
 repeat' first
  | ((first | refine qc ?_ ?_ | refine qb ?_ ?_); (next => exact rvk); simp only [go_sem]; first | exact VLe.refl _ | refine qd ?_ | refine qa ?_ | refine qe ?_ | skip)
  | with_reducible first | refine And.intro ?_ ?_ | intro _
 all_goals try exact clz
 refine qo (T := fun i : Nat => qK 28 [(0, .osl k v 6 0 n), (2, .int .i64 i), (3, .int .i64 ((n : Int) - 1 - i))]) (H := fun i => qB k h (.mem v ty (zK (qe0 l i))))
  (inv := fun i => 2 * i ≤ n + 1) (m := fun i => n + 1 - i) 0 (by omega) ?_ ?_
 ·rw [← e0]
  refine Wk.temps ?_
  (simp only [List.replicate, go_sem, qk, qh, qg, qj]; try (repeat' first | (with_reducible refine And.intro ?_ ?_) | (refine qd ?_; omega) | (refine qa ?_; rfl) | exact VLe.refl _))
 rintro i i1 K hK
 have eC := zM (qe0 l i)
 rw [zB, ← hn] at eC
 by_cases hi : i < n - 1 - i
 ·have q0 : ((i : Int) < (n : Int) - 1 - i) = True := eq_true (by omega)
  have hst := qkQ (l := l) (i := i) (by omega)
  obtain ⟨m, hm⟩ : ∃ m, m = n - 1 - i := ⟨_, rfl⟩
  have ej : (n : Int) - 1 - i = (m : Int) := by omega
  rw [← hn, ← hm] at hst
  have g1 := kE (L := qe0 l i) (i := m) (by rw [zB]; omega)
  have g2 := kE (L := qe0 l i) (i := i) (by rw [zB]; omega)
  rw [qav (by omega), if_neg (by omega)] at g1 g2
  obtain ⟨A, hA⟩ : ∃ A, A = l.getD m default := ⟨_, rfl⟩
  obtain ⟨B, hB⟩ : ∃ B, B = l.getD i default := ⟨_, rfl⟩
  rw [← hA] at g1 hst
  rw [← hB] at g2 hst
  have es1 := qbq (L := qe0 l i) (i := i) A (by rw [zB]; omega)
  obtain ⟨zs, hzs⟩ : ∃ zs, zs = (qe0 l i).set i A := ⟨_, rfl⟩
  rw [← hzs] at es1 hst
  have ezl : zs.length = n := by rw [hzs, List.length_set, zB, hn]
  have eC2 := zM zs
  rw [ezl] at eC2
  have es2 := qbq (L := zs) (i := m) B (by omega)
  rw [hst] at es2
  have q1 : ((m : Int) < n) = True := eq_true (by omega)
  have q2 : ((i : Int) < n) = True := eq_true (by omega)
  have q3 : (0 ≤ (m : Int)) = True := eq_true (by omega)
  have q4 : (0 ≤ (i : Int)) = True := eq_true (by omega)
  have f1 : (m * 6 + 6 ≤ n * 6) = True := eq_true (by omega)
  have f2 : (i * 6 + 6 ≤ n * 6) = True := eq_true (by omega)
  have f3 := ki
  have q5 : ((i : Int) < (m : Int)) = True := eq_true (by omega)
  rw [ej]
  simp (disch := omega) only [List.replicate, q5, q1, q2, q3, q4, g1, g2, f1, f2, f3, Int.toNat_natCast, eC, eC2, es1, es2, go_sem]
  repeat' first
   | ((first | refine qc ?_ ?_ | refine qb ?_ ?_); (next => exact rvk); simp only [go_sem]; first | exact VLe.refl _ | refine qd ?_ | refine qa ?_ | refine qe ?_ | skip)
   | with_reducible first | refine And.intro ?_ ?_ | intro _
  all_goals try exact clz
  refine hK _ _ (i + 1) (by omega) (by omega) (Wk.temps ?_)
  have ej2 : (m : Int) - 1 = (n : Int) - 1 - ((i + 1 : Nat) : Int) := by omega
  rw [ej2]
  (simp only [List.replicate, go_sem, qk, qh, qg, qj]; try (repeat' first | (with_reducible refine And.intro ?_ ?_) | (refine qd ?_; omega) | (refine qa ?_; rfl) | exact VLe.refl _))
 ·have q0 : ((i : Int) < (n : Int) - 1 - i) = False := eq_false (by omega)
  rw [qn4 (l := l) (i := i) (by omega)]
  simp (disch := omega) only [List.replicate, q0, go_sem]
  repeat' first
   | ((first | refine qc ?_ ?_ | refine qb ?_ ?_); (next => exact rvk); simp only [go_sem]; first | exact VLe.refl _ | refine qd ?_ | refine qa ?_ | refine qe ?_ | skip)
   | with_reducible first | refine And.intro ?_ ?_ | intro _
  all_goals try exact clz
  exact kk trivial qQ (qbs (qai _)) ⟨rfl, rfl⟩ (VLe.refl _)
end RC
end
section
open Go Go.Proofs AF
set_option maxRecDepth 100000
def quC : List Nat := [93, 74, 79, 120, 147, 148, 161, 170, 63, 105, 131, 64, 31, 32, 57, 58, 29, 30]
def c6u : C :=
 ((C.ops [O1 2 (.box 0 26) 0, MC 4 (.bool false)]).seq (((C.ops [O1 14 (.load (some 4)) 2, O1 15 (.call 25 true) 14, O1 16 (.un UnOp.not) 15, MV 17 16, P1 18 17 false (.fldA 3) 2,
 P1 19 17 false (.load none) 18, P1 20 17 false .len 19, PC 21 17 false (.bin .eql) 20 (i6 0), PT 22 17 21]).seq (C.cond (.t 22) ((C.ops [ON 23 (.call 11 true) [], MV 4 23]).seq
 C.ret) C.skip)).seq ((C.ops [MV 24 1, O1 25 (.conv .i64) 24, O1 26 (.fldA 3) 2, LD 27 26, O1 28 .len 27, BI 29 .rem 25 28, MV 5 29]).seq ((C.ops [O1 30 (.fldA 3) 2, LD 31 30, MV 32
 5, O2 33 (.slc 6 true false) 31 32, O1 34 (.fldA 3) 2, LD 35 34, MV 36 5, O2 37 (.slc 6 false true) 35 36, ⟨some 38, none, .bslc 1 1 2 24 [.nl] [(0, 1), (1, 1)], [.t 33, .t 37]⟩,
 O1 39 (.call 30 false) 38, MV 6 39]).seq ((C.ops [O1 40 (.fldA 3) 2, LD 41 40, O1 42 (.call 31 false) 41, MV 7 42]).seq ((C.ops [MV 43 7, O1 44 (.call 32 false) 43]).seq ((C.wk.seq
 (C.ops [O1 46 (.fldA 0) 2, LD 47 46, O1 48 (.fldA 1) 2, LD 49 48, O1 50 (.fldA 2) 2, LD 51 50, O1 52 (.fldA 3) 2, LD 53 52, ON 54 (.call 14 true) [.t 47, .t 49, .t 51, .t 53], MV
 45 54, O1 55 (.ext 0) 45, O1 56 (.ext 1) 45, MV 8 55, MV 9 56])).seq ((C.ops [O1 58 (.fldA 0) 2, LD 59 58, O1 60 (.fldA 1) 2, LD 61 60, O1 62 (.fldA 2) 2, LD 63 62, MV 64 6, ON 65
 (.call 14 true) [.t 59, .t 61, .t 63, .t 64], MV 57 65, O1 66 (.ext 0) 57, O1 67 (.ext 1) 57, MV 10 66, MV 11 67]).seq ((C.ops [O1 69 (.fldA 0) 2, LD 70 69, O1 71 (.fldA 1) 2, LD
 72 71, O1 73 (.fldA 2) 2, LD 74 73, MV 75 7, ON 76 (.call 14 true) [.t 70, .t 72, .t 74, .t 75], MV 68 76, O1 77 (.ext 0) 68, O1 78 (.ext 1) 68, MV 12 77, MV 13 78]).seq ((C.ops
 [MV 79 9, MV 80 11, MV 81 13, ON 82 (.mm true) [.t 79, .t 80, .t 81], BC 83 .eql 82 (i6 0), MV 84 83, MG 85 84 true 8, MG 86 84 true 10, P2 87 84 true (.call 23 true) 85 86, PF 88
 84 87, MV 89 88, MG 90 89 true 8, MG 91 89 true 12, P2 92 89 true (.call 23 true) 90 91, PF 93 89 92, MV 94 93, PN 95 94 true (.call 11 true) [], PF 96 94 95, MV 4 96]).seq
 C.ret))))))))))
theorem qwV : qH Tryz.prog 6 97 2 [RV.tmp 4] c6u := fi Tryz.f6 [2, 38] quC [7] (by kernel_rfl) (by kernel_rfl) (by kernel_rfl) (by kernel_rfl)
end
section
open Go Go.Proofs AF HY LN
namespace RC
set_option maxRecDepth 100000
set_option maxHeartbeats 16000000
theorem qkt {names : List Str} {gs : List Gr} {t : List Str} {l m : List En} (h : CSz names gs t l) (hp : l.Perm m) : CSz names gs t m := by
 have key : ∀ {P : En → Prop}, P default → (∀ i, P (l.getD i default)) → ∀ i, P (m.getD i default) := fun {P} h0 h1 i => by
  by_cases hi : i < m.length
  ·obtain ⟨j, hj, e⟩ := List.getElem_of_mem (hp.symm.subset (zf hi))
   have := h1 j
   rw [List.getD_eq_getElem?_getD (l := l), List.getElem?_eq_getElem hj] at this
   rw [← e]
   exact this
  ·rw [List.getD_eq_getElem?_getD, List.getElem?_eq_none (by omega)]
   exact h0
 exact ⟨h.hz, h.ht, h.tn, by rw [← hp.length_eq]; exact h.ln, h.nn, h.gm, key (P := fun e => ESz e) ⟨Nat.zero_le _, Nat.zero_le _, fun j => ⟨Nat.zero_le _, fun k => Nat.zero_le _⟩, fun j => Nat.zero_le _⟩ h.he, key (P := fun e => e.vars.length ≤ 1000) (Nat.zero_le _) h.vl,
  key (P := fun e => ∀ j, (e.vars.getD j default).sigla.length ≤ 1000) (fun _ => Nat.zero_le _) h.sg, key (P := fun e => ∀ j, (e.vars.getD j default).words.length ≤ 1000) (fun _ => Nat.zero_le _) h.wl, key (P := fun e => e.sup.length ≤ 1000) (Nat.zero_le _) h.sp⟩
theorem qfz {names : List Str} {gs : List Gr} {t : List Str} {l m : List En} (g : rdE names gs t l = 0) (hp : l.Perm m) : rdE names gs t m = 0 ∧ qex names gs t m = qex names gs t l := by
 have h := jZ.1 g
 have g2 := jZ.2 (h.perm hp)
 refine ⟨g2, ?_⟩
 unfold qex
 rw [if_pos g, if_pos g2]
 unfold kL
 refine List.map_congr_left fun s hs => ?_
 exact (qlx h hp (List.mem_range.1 hs)).symm
theorem qb5.edrop {l : List En} {k : Nat} : qb5 (.sl (l.length - k) fun i => enC (l.getD (k + i) default)) (l.drop k).length (zK (l.drop k)) := by
 have e : (List.range (l.length - k)).flatMap (fun i => enC (l.getD (k + i) default)) = zK (l.drop k) := by
  rw [← qcO, List.length_drop]
  congr 1
  funext i
  simp [List.getD_eq_getElem?_getD]
 have := qb5.sl (l.length - k) fun i => enC (l.getD (k + i) default)
 rw [e] at this
 rw [List.length_drop]
 exact this
theorem qb5.etake {l : List En} {k : Nat} (hk : k ≤ l.length) : qb5 (.sl k fun i => enC (l.getD i default)) (l.take k).length (zK (l.take k)) := by
 have e : (List.range k).flatMap (fun i => enC (l.getD i default)) = zK (l.take k) := by
  rw [← qcO, List.length_take, Nat.min_eq_left hk]
  simp only [List.flatMap]
  congr 1
  refine List.map_congr_left fun i hi => ?_
  have hi := List.mem_range.1 hi
  rw [List.getD_eq_getElem?_getD, List.getD_eq_getElem?_getD, List.getElem?_take, if_pos hi]
 have := qb5.sl k fun i => enC (l.getD i default)
 rw [e] at this
 rw [List.length_take, Nat.min_eq_left hk]
 exact this
theorem qzg (names : List Str) (gs : List Gr) (t : List Str) (l : List En) (at0 : Int) (h : List AObj) (hb : CB names gs t l) (ha : 0 ≤ at0 ∧ at0 ≤ 255) (hp : jv SG h) : ql Tryz.prog 6 [.agg (qE names gs t l), .int .u8 at0] h (.bool true) h := by
 have c25 := fun l' => fnP names gs t l (h ++ l') hb (hp.app l')
 have c11 := fun l' => qvM (h ++ l') (hp.app l')
 have z5 : ∀ g, valL g .len [qA l] = .int .i64 l.length := fun _ => rfl
 have z6 : ∀ g, okL g .len [qA l] = True := fun _ => eq_true trivial
 unfold qE at c25
 by_cases hf : qb6 names gs t l = false ∧ rdE names gs t l = 0
 case neg =>
  have e : (!qb6 names gs t l && decide (rdE names gs t l = 0)) = false := by
   cases h1 : qb6 names gs t l with
   | true => rfl
   | false =>
    have : ¬ rdE names gs t l = 0 := fun h2 => hf ⟨h1, h2⟩
    simp [this]
  simp only [e] at c25
  refine acO qwV ?_
  simp (disch := omega) only [c6u, List.replicate, qE, go_sem]
  repeat' first
   | ((first | refine cA (c25 _) ?_ ?_ | refine cG (fun e => c25 _) ?_ ?_ | refine cA (c11 _) ?_ ?_ | refine cG (fun e => c11 _) ?_ ?_ | refine cU (fun _ => c25 _) ?_ ?_ | refine cU (fun _ => c11 _) ?_ ?_); (next => exact flk); simp (disch := omega) only [qE, go_sem])
   | ((first | refine qc ?_ ?_ | refine qb ?_ ?_); (next => exact rvk); simp only [go_sem]; first | exact VLe.refl _ | refine qd ?_ | refine qa ?_ | refine qe ?_ | skip)
   | with_reducible first | refine And.intro ?_ ?_ | intro _
  all_goals try exact clz
 obtain ⟨hg, g⟩ := hf
 have e : (!qb6 names gs t l && decide (rdE names gs t l = 0)) = true := by rw [hg, decide_eq_true g]; rfl
 simp only [e] at c25
 by_cases hl0 : l.length = 0
 ·have k0 : ((l.length : Int) = 0) = True := eq_true (by omega)
  refine acO qwV ?_
  simp (disch := omega) only [c6u, List.replicate, qE, go_sem]
  repeat' first
   | ((first | refine cA (c25 _) ?_ ?_ | refine cG (fun e => c25 _) ?_ ?_ | refine cA (c11 _) ?_ ?_ | refine cG (fun e => c11 _) ?_ ?_ | refine cU (fun _ => c25 _) ?_ ?_ | refine cU (fun _ => c11 _) ?_ ?_); (next => exact flk); simp (disch := omega) only [qE, z5, z6, k0, go_sem])
   | ((first | refine qc ?_ ?_ | refine qb ?_ ?_); (next => exact rvk); simp only [go_sem]; first | exact VLe.refl _ | refine qd ?_ | refine qa ?_ | refine qe ?_ | skip)
   | with_reducible first | refine And.intro ?_ ?_ | intro _
  all_goals try exact clz
 have k0 : ((l.length : Int) = 0) = False := eq_false (by omega)
 have hc := qaG hg
 have hln := hc.ln
 obtain ⟨a, rfl⟩ : ∃ a : Nat, at0 = (a : Int) := ⟨at0.toNat, by omega⟩
 have hil : a % l.length < l.length := Nat.mod_lt _ (by omega)
 have hmod : (a : Int) % (l.length : Int) = ((a % l.length : Nat) : Int) := by omega
 obtain ⟨k, hk⟩ : ∃ k, k = a % l.length := ⟨_, rfl⟩
 rw [← hk] at hil hmod
 have k1 : (0 ≤ (k : Int)) = True := eq_true (by omega)
 have k2 : ((k : Int) ≤ l.length) = True := eq_true (by omega)
 have rt : ((l.length : Int) - k).toNat = l.length - k := by omega
 have hp1 : l.Perm (l.drop k ++ l.take k) := by
  conv => lhs; rw [← List.take_append_drop k l]
  exact List.perm_append_comm
 have hp2 : l.Perm l.reverse := (List.reverse_perm l).symm
 obtain ⟨g1, a1⟩ := qfz g hp1
 obtain ⟨g2, a2⟩ := qfz g hp2
 have c14a := fun l' => qey names gs t l (h ++ l') hc (hp.app l')
 have c14b := fun l' => qey names gs t (l.drop k ++ l.take k) (h ++ l') (qkt hc hp1) (hp.app l')
 have c14c := fun l' => qey names gs t l.reverse (h ++ l') (qkt hc hp2) (hp.app l')
 have e0 : opE 0 = 0 := rfl
 simp only [g, e0] at c14a
 simp only [g1, a1, e0] at c14b
 simp only [g2, a2, e0] at c14c
 have c23 := fun h => qxr (qex names gs t l) h (by have := (qbn hc).1; omega) (fun i => by have := (qbn hc).2 i; omega)
 refine acO qwV ?_
 simp (disch := omega) only [c6u, List.replicate, qE, go_sem]
 repeat' first
  | ((first | refine cA (c25 _) ?_ ?_ | refine cG (fun e => c25 _) ?_ ?_ | refine cA (c11 _) ?_ ?_ | refine cG (fun e => c11 _) ?_ ?_ | refine cU (fun _ => c25 _) ?_ ?_ | refine cU (fun _ => c11 _) ?_ ?_); (next => exact flk); simp (disch := omega) only [qE, qA, k0, k1, k2, hmod, rt, ki, Int.toNat_natCast, go_sem])
  | ((first | refine qc ?_ ?_ | refine qb ?_ ?_); (next => exact rvk); simp only [go_sem]; first | exact VLe.refl _ | refine qd ?_ | refine qa ?_ | refine qe ?_ | skip)
  | with_reducible first | refine And.intro ?_ ?_ | intro _
 all_goals try exact clz
 have hfl : ([l.drop k, l.take k] : List (List En)).flatten = l.drop k ++ l.take k := by simp
 refine qS (r := qA (l.drop k ++ l.take k)) (h' := h ++ [.mem 1 26 (qE names gs t l), .mem 1 24 [.sl (l.length - k) fun i => enC (l.getD (k + i) default), .sl (k - 0) fun i => enC (l.getD i default)]]) ?cc (by exact flk) ?_
 case cc =>
  rw [← hfl]
  refine qyJ [l.drop k, l.take k] (fun n => if n = 0 then .sl (l.length - k) fun i => enC (l.getD (k + i) default) else .sl (k - 0) fun i => enC (l.getD i default)) _ (h.length + 1) 1 _ (getO_app.trans rfl) rfl ?hE (by rw [hfl, ← hp1.length_eq]; omega) (by rw [hfl, ← hp1.length_eq]; omega) (by simp)
  case hE =>
   intro n hn
   match n, hn with
   | 0, _ => exact ⟨rfl, qb5.edrop⟩
   | 1, _ => exact ⟨rfl, qb5.etake (by omega)⟩
   | n + 2, hn => simp at hn; omega
 simp (disch := omega) only [qE, go_sem]
 repeat' first
  | ((first | refine qc ?_ ?_ | refine qb ?_ ?_); (next => exact rvk); simp only [go_sem]; first | exact VLe.refl _ | refine qd ?_ | refine qa ?_ | refine qe ?_ | skip)
  | with_reducible first | refine And.intro ?_ ?_ | intro _
 all_goals try exact clz
 have l0 : l ≠ [] := fun e => hl0 (by rw [e]; rfl)
 refine qS (qyj l _ (h.length + 1) (by simp only [go_sem]) l0 (by omega)) (by exact flk) ?_
 simp (disch := omega) only [go_sem]
 repeat' first
  | ((first | refine qc ?_ ?_ | refine qb ?_ ?_); (next => exact rvk); simp only [go_sem]; first | exact VLe.refl _ | refine qd ?_ | refine qa ?_ | refine qe ?_ | skip)
  | with_reducible first | refine And.intro ?_ ?_ | intro _
 all_goals try exact clz
 refine qS (qzo l (h.length + 1) 2 49 _ (by simp only [go_sem]) (by omega)) (by exact flk) ?_
 simp (disch := omega) only [go_sem]
 repeat' first
  | ((first | refine qc ?_ ?_ | refine qb ?_ ?_); (next => exact rvk); simp only [go_sem]; first | exact VLe.refl _ | refine qd ?_ | refine qa ?_ | refine qe ?_ | skip)
  | with_reducible first | refine And.intro ?_ ?_ | intro _
 all_goals try exact clz
 refine ⟨qK 97 [(2, .op h.length 1 0), (6, qA (l.drop k ++ l.take k)), (7, qA l.reverse)], h ++ [.mem 1 26 (qE names gs t l), .emp 3], Wk.trans (Wk.freeze [h.length + 1] (by simp only [jV, go_sem])) ?_, ?_⟩
 ·simp only [qcV, List.map, go_sem]
  refine Wk.temps ?_
  (simp only [List.replicate, go_sem, qk, qh, qg, qj]; try (repeat' first | (with_reducible refine And.intro ?_ ?_) | (refine qd ?_; omega) | (refine qa ?_; rfl) | exact VLe.refl _))
  ·rw [if_neg (by simp)]
   exact VLe.refl _
  ·rw [if_pos (by simp), if_pos (by simp), if_pos (by rw [zM, List.length_reverse]; omega)]
   exact qfE (by rw [List.length_reverse])
 have zm : valP (.mm true) [.int .i64 0, .int .i64 0, .int .i64 0] = .int .i64 0 := rfl
 have zn : okP (.mm true) [.int .i64 0, .int .i64 0, .int .i64 0] = True := eq_true (by simp [okP, kq])
 simp (disch := omega) only [List.replicate, qE, zm, zn, go_sem]
 repeat' first
  | ((first | refine cA (c14a _) ?_ ?_ | refine cG (fun e => c14a _) ?_ ?_ | refine cA (c14b _) ?_ ?_ | refine cG (fun e => c14b _) ?_ ?_ | refine cA (c14c _) ?_ ?_ | refine cG (fun e => c14c _) ?_ ?_ | refine cA (c23 _) ?_ ?_ | refine cG (fun e => c23 _) ?_ ?_ | refine cA (c11 _) ?_ ?_ | refine cG (fun e => c11 _) ?_ ?_ | refine cU (fun _ => c14a _) ?_ ?_ | refine cU (fun _ => c14b _) ?_ ?_ | refine cU (fun _ => c14c _) ?_ ?_ | refine cU (fun _ => c23 _) ?_ ?_ | refine cU (fun _ => c11 _) ?_ ?_); (next => exact flk); simp (disch := omega) only [qE, zm, zn, go_sem])
  | ((first | refine qc ?_ ?_ | refine qb ?_ ?_); (next => exact rvk); simp only [go_sem]; first | exact VLe.refl _ | refine qd ?_ | refine qa ?_ | refine qe ?_ | skip)
  | with_reducible first | refine And.intro ?_ ?_ | intro _
 all_goals try exact clz
end RC
end

import Derived.Test.YthlgfjbghnildaaGreatDoorK13
import Derived.Test.YthlgfjbghnildaaGreatDoorK2
import Derived.Test.YthlgfjbghnildaaGreatDoorK4
import Derived.Test.YthlgfjbghnildaaGreatDoorK7
import Derived.Test.YthlgfjbghnildaaGreatDoorProg
set_option linter.all false
set_option linter.unusedSimpArgs false
set_option linter.unusedVariables false
set_option linter.unusedSectionVars false
section
open Go Go.Proofs AF HY LN
namespace RC
set_option maxRecDepth 100000
set_option maxHeartbeats 8000000
theorem qrF (e : En) : zY [e] = [e] := rfl
theorem qj3 (names : List Str) (gs : List Gr) (e : En) (src : Int) : ofE names gs [e] src = if jY names gs src e = true then [e] else [] := by
 unfold ofE
 rw [qrF, List.filter_cons]
 rfl
theorem qi1 {L : List En} (h : L.length ≤ 1) : jt L = false := by
 match L, h with
 | [], _ => rfl
 | [a], _ => rfl
 | a :: b :: r, h => simp at h
theorem quM {names : List Str} {gs : List Gr} {t : List Str} {l : List En} {i : Nat} (h : rdE names gs t l = 0) (hi : i < l.length) : rdE names gs t [l.getD i default] = 0 := by
 have h := jZ.1 h
 refine jZ.2 ⟨h.sg, by simp, fun e he => ?_, qF.2 fun s hs => ?_⟩
 ·rw [List.mem_singleton] at he
  rw [he]
  exact h.ck _ (zf hi)
 ·refine qi1 ?_
  rw [qj3]
  split <;> simp
theorem quN {names : List Str} {gs : List Gr} {t : List Str} {l : List En} (h : CSz names gs t l) (i : Nat) : CSz names gs t [l.getD i default] := by
 have key : ∀ {P : En → Prop}, P default → P (l.getD i default) → ∀ j, P (([l.getD i default] : List En).getD j default) := fun h0 h1 j => by
  cases j with
  | zero => exact h1
  | succ j => exact h0
 exact ⟨h.hz, h.ht, h.tn, by simp, h.nn, h.gm, key (P := fun e => ESz e) ⟨Nat.zero_le _, Nat.zero_le _, fun j => ⟨Nat.zero_le _, fun k => Nat.zero_le _⟩, fun j => Nat.zero_le _⟩ (h.he i), key (P := fun e => e.vars.length ≤ 1000) (Nat.zero_le _) (h.vl i),
  key (P := fun e => ∀ j, (e.vars.getD j default).sigla.length ≤ 1000) (fun _ => Nat.zero_le _) (h.sg i), key (P := fun e => ∀ j, (e.vars.getD j default).words.length ≤ 1000) (fun _ => Nat.zero_le _) (h.wl i), key (P := fun e => e.sup.length ≤ 1000) (Nat.zero_le _) (h.sp i)⟩
def qpT (t : List Str) (e : En) (k : Nat) : List Str := zQ t 0 e.frm.toNat ++ ((e.vars.getD k default).words ++ t.drop e.to.toNat)
def qb4 (names : List Str) (gs : List Gr) (t : List Str) (e : En) (src : Int) : Nat → List Str
 | 0 => t
 | j + 1 => if src ∈ zJ names gs (e.vars.getD j default).sigla then qpT t e j else qb4 names gs t e src j
theorem qrW {names : List Str} {gs : List Gr} {t : List Str} {e : En} {src : Int} : ∀ j, (∀ k, k < j → ¬ src ∈ zJ names gs (e.vars.getD k default).sigla) → qb4 names gs t e src j = t := by
 intro j
 induction j with
 | zero => intro _; rfl
 | succ j ih =>
  intro h
  unfold qb4
  rw [if_neg (h j (by omega))]
  exact ih fun k hk => h k (by omega)
theorem qrV {names : List Str} {gs : List Gr} {t : List Str} {e : En} {src : Int} {k : Nat} (hk : src ∈ zJ names gs (e.vars.getD k default).sigla) : ∀ j, k < j → (∀ i, k < i → i < j → ¬ src ∈ zJ names gs (e.vars.getD i default).sigla) → qb4 names gs t e src j = qpT t e k := by
 intro j
 induction j with
 | zero => intro h; omega
 | succ j ih =>
  intro h1 h2
  unfold qb4
  by_cases e' : j = k
  ·subst e'; rw [if_pos hk]
  ·rw [if_neg (h2 j (by omega) (by omega))]
   exact ih (by omega) fun i g1 g2 => h2 i g1 (by omega)
theorem qkj {names : List Str} {gs : List Gr} {t : List Str} {e : En} {src : Int} (hc : (kT names gs e e.vars.length).2 = false) : qb0 names gs t [e] src = qb4 names gs t e src e.vars.length := by
 unfold qb0
 rw [qj3]
 rcases jg (inV names gs e src) e.vars.length with ⟨k, k1, k2, _, k4⟩ | ⟨k1, k2⟩
 ·have hv : vIx names gs e src = (k : Int) := k4
  have hh : jY names gs src e = true := by unfold jY; rw [hv]; exact decide_eq_true (by omega)
  have hm : src ∈ zJ names gs (e.vars.getD k default).sigla := of_decide_eq_true k2
  rw [if_pos hh, qrV hm _ k1 fun i g1 g2 => qhP hc g1 g2 hm]
  unfold qhy qhy qpT qfp
  rw [hv]
  rfl
 ·have hv : vIx names gs e src = -1 := k2
  have hh : jY names gs src e = false := by unfold jY; rw [hv]; rfl
  rw [hh, if_neg (by simp), qrW _ fun k hk => of_decide_eq_false (k1 k hk)]
  rfl
end RC
end
section
open Go Go.Proofs AF
set_option maxRecDepth 100000
def quB : List Nat := [93, 74, 79, 120, 147, 148, 161, 170, 63, 105, 131, 64, 31, 32, 57, 58, 29, 30, 14, 1000032, 1000033]
def c5u : C :=
 ((C.ops [O1 2 (.box 0 26) 0, MC 4 (.bool false)]).seq (((C.ops [O1 14 (.load (some 4)) 2, O1 15 (.call 25 true) 14, O1 16 (.un UnOp.not) 15, MV 17 16, P1 18 17 false (.fldA 3) 2,
 P1 19 17 false (.load none) 18, P1 20 17 false .len 19, PC 21 17 false (.bin .eql) 20 (i6 0), PT 22 17 21]).seq (C.cond (.t 22) ((C.ops [ON 23 (.call 11 true) [], MV 4 23]).seq
 C.ret) C.skip)).seq ((C.draw (DT.one ⟨some 26, none, .mv, [.t 1]⟩ (DT.one ⟨some 27, none, .conv .i64, [.t 26]⟩ ((DT.one ⟨some 24, none, .fldA 3, [.t 2]⟩ ((DT.one ⟨some 25, none,
 .load none, [.t 24]⟩ ((DT.one ⟨some 28, none, .fldA 3, [.t 2]⟩ ((DT.one ⟨some 29, none, .load none, [.t 28]⟩ ((DT.one ⟨some 30, none, .len, [.t 29]⟩ (DT.one ⟨some 31, none, .bin
 .rem, [.t 27, .t 30]⟩ (DT.one ⟨some 32, none, .idxI 6, [.t 25, .t 31]⟩ (DT.one ⟨some 33, none, .loadI (some 6), [.t 32]⟩ (DT.one ⟨some 5, none, .alloc 1 49 [i6 0, i6 0, i6 0, .bool
 false, .nl, .nl], []⟩ (DT.one ⟨none, none, .store 6, [.t 5, .t 33]⟩ DT.nil)))))).two (DT.one ⟨some 5, none, .alloc 1 49 [i6 0, i6 0, i6 0, .bool false, .nl, .nl], []⟩ (DT.one ⟨some
 30, none, .len, [.t 29]⟩ (DT.one ⟨some 31, none, .bin .rem, [.t 27, .t 30]⟩ (DT.one ⟨some 32, none, .idxI 6, [.t 25, .t 31]⟩ (DT.one ⟨some 33, none, .loadI (some 6), [.t 32]⟩
 (DT.one ⟨none, none, .store 6, [.t 5, .t 33]⟩ DT.nil)))))))).two (DT.one ⟨some 5, none, .alloc 1 49 [i6 0, i6 0, i6 0, .bool false, .nl, .nl], []⟩ (DT.one ⟨some 29, none, .load
 none, [.t 28]⟩ (DT.one ⟨some 30, none, .len, [.t 29]⟩ (DT.one ⟨some 31, none, .bin .rem, [.t 27, .t 30]⟩ (DT.one ⟨some 32, none, .idxI 6, [.t 25, .t 31]⟩ (DT.one ⟨some 33, none,
 .loadI (some 6), [.t 32]⟩ (DT.one ⟨none, none, .store 6, [.t 5, .t 33]⟩ DT.nil))))))))).two (DT.one ⟨some 5, none, .alloc 1 49 [i6 0, i6 0, i6 0, .bool false, .nl, .nl], []⟩
 (DT.one ⟨some 28, none, .fldA 3, [.t 2]⟩ (DT.one ⟨some 29, none, .load none, [.t 28]⟩ (DT.one ⟨some 30, none, .len, [.t 29]⟩ (DT.one ⟨some 31, none, .bin .rem, [.t 27, .t 30]⟩
 (DT.one ⟨some 32, none, .idxI 6, [.t 25, .t 31]⟩ (DT.one ⟨some 33, none, .loadI (some 6), [.t 32]⟩ (DT.one ⟨none, none, .store 6, [.t 5, .t 33]⟩ DT.nil)))))))))).two ((DT.one ⟨some
 28, none, .fldA 3, [.t 2]⟩ ((DT.one ⟨some 25, none, .load none, [.t 24]⟩ ((DT.one ⟨some 29, none, .load none, [.t 28]⟩ ((DT.one ⟨some 30, none, .len, [.t 29]⟩ (DT.one ⟨some 31,
 none, .bin .rem, [.t 27, .t 30]⟩ (DT.one ⟨some 32, none, .idxI 6, [.t 25, .t 31]⟩ (DT.one ⟨some 33, none, .loadI (some 6), [.t 32]⟩ (DT.one ⟨some 5, none, .alloc 1 49 [i6 0, i6 0,
 i6 0, .bool false, .nl, .nl], []⟩ (DT.one ⟨none, none, .store 6, [.t 5, .t 33]⟩ DT.nil)))))).two (DT.one ⟨some 5, none, .alloc 1 49 [i6 0, i6 0, i6 0, .bool false, .nl, .nl], []⟩
 (DT.one ⟨some 30, none, .len, [.t 29]⟩ (DT.one ⟨some 31, none, .bin .rem, [.t 27, .t 30]⟩ (DT.one ⟨some 32, none, .idxI 6, [.t 25, .t 31]⟩ (DT.one ⟨some 33, none, .loadI (some 6),
 [.t 32]⟩ (DT.one ⟨none, none, .store 6, [.t 5, .t 33]⟩ DT.nil)))))))).two (DT.one ⟨some 5, none, .alloc 1 49 [i6 0, i6 0, i6 0, .bool false, .nl, .nl], []⟩ (DT.one ⟨some 29, none,
 .load none, [.t 28]⟩ (DT.one ⟨some 30, none, .len, [.t 29]⟩ (DT.one ⟨some 31, none, .bin .rem, [.t 27, .t 30]⟩ (DT.one ⟨some 32, none, .idxI 6, [.t 25, .t 31]⟩ (DT.one ⟨some 33,
 none, .loadI (some 6), [.t 32]⟩ (DT.one ⟨none, none, .store 6, [.t 5, .t 33]⟩ DT.nil))))))))).two ((DT.one ⟨some 29, none, .load none, [.t 28]⟩ ((DT.one ⟨some 25, none, .load none,
 [.t 24]⟩ ((DT.one ⟨some 30, none, .len, [.t 29]⟩ (DT.one ⟨some 31, none, .bin .rem, [.t 27, .t 30]⟩ (DT.one ⟨some 32, none, .idxI 6, [.t 25, .t 31]⟩ (DT.one ⟨some 33, none, .loadI
 (some 6), [.t 32]⟩ (DT.one ⟨some 5, none, .alloc 1 49 [i6 0, i6 0, i6 0, .bool false, .nl, .nl], []⟩ (DT.one ⟨none, none, .store 6, [.t 5, .t 33]⟩ DT.nil)))))).two (DT.one ⟨some 5,
 none, .alloc 1 49 [i6 0, i6 0, i6 0, .bool false, .nl, .nl], []⟩ (DT.one ⟨some 30, none, .len, [.t 29]⟩ (DT.one ⟨some 31, none, .bin .rem, [.t 27, .t 30]⟩ (DT.one ⟨some 32, none,
 .idxI 6, [.t 25, .t 31]⟩ (DT.one ⟨some 33, none, .loadI (some 6), [.t 32]⟩ (DT.one ⟨none, none, .store 6, [.t 5, .t 33]⟩ DT.nil)))))))).two ((DT.one ⟨some 30, none, .len, [.t 29]⟩
 (DT.one ⟨some 31, none, .bin .rem, [.t 27, .t 30]⟩ ((DT.one ⟨some 25, none, .load none, [.t 24]⟩ (DT.one ⟨some 32, none, .idxI 6, [.t 25, .t 31]⟩ (DT.one ⟨some 33, none, .loadI
 (some 6), [.t 32]⟩ (DT.one ⟨some 5, none, .alloc 1 49 [i6 0, i6 0, i6 0, .bool false, .nl, .nl], []⟩ (DT.one ⟨none, none, .store 6, [.t 5, .t 33]⟩ DT.nil))))).two (DT.one ⟨some 5,
 none, .alloc 1 49 [i6 0, i6 0, i6 0, .bool false, .nl, .nl], []⟩ (DT.one ⟨some 25, none, .load none, [.t 24]⟩ (DT.one ⟨some 32, none, .idxI 6, [.t 25, .t 31]⟩ (DT.one ⟨some 33,
 none, .loadI (some 6), [.t 32]⟩ (DT.one ⟨none, none, .store 6, [.t 5, .t 33]⟩ DT.nil)))))))).two (DT.one ⟨some 5, none, .alloc 1 49 [i6 0, i6 0, i6 0, .bool false, .nl, .nl], []⟩
 (DT.one ⟨some 25, none, .load none, [.t 24]⟩ (DT.one ⟨some 30, none, .len, [.t 29]⟩ (DT.one ⟨some 31, none, .bin .rem, [.t 27, .t 30]⟩ (DT.one ⟨some 32, none, .idxI 6, [.t 25, .t
 31]⟩ (DT.one ⟨some 33, none, .loadI (some 6), [.t 32]⟩ (DT.one ⟨none, none, .store 6, [.t 5, .t 33]⟩ DT.nil)))))))))).two (DT.one ⟨some 5, none, .alloc 1 49 [i6 0, i6 0, i6 0,
 .bool false, .nl, .nl], []⟩ (DT.one ⟨some 25, none, .load none, [.t 24]⟩ (DT.one ⟨some 29, none, .load none, [.t 28]⟩ (DT.one ⟨some 30, none, .len, [.t 29]⟩ (DT.one ⟨some 31, none,
 .bin .rem, [.t 27, .t 30]⟩ (DT.one ⟨some 32, none, .idxI 6, [.t 25, .t 31]⟩ (DT.one ⟨some 33, none, .loadI (some 6), [.t 32]⟩ (DT.one ⟨none, none, .store 6, [.t 5, .t 33]⟩
 DT.nil))))))))))).two (DT.one ⟨some 5, none, .alloc 1 49 [i6 0, i6 0, i6 0, .bool false, .nl, .nl], []⟩ (DT.one ⟨some 25, none, .load none, [.t 24]⟩ (DT.one ⟨some 28, none, .fldA
 3, [.t 2]⟩ (DT.one ⟨some 29, none, .load none, [.t 28]⟩ (DT.one ⟨some 30, none, .len, [.t 29]⟩ (DT.one ⟨some 31, none, .bin .rem, [.t 27, .t 30]⟩ (DT.one ⟨some 32, none, .idxI 6,
 [.t 25, .t 31]⟩ (DT.one ⟨some 33, none, .loadI (some 6), [.t 32]⟩ (DT.one ⟨none, none, .store 6, [.t 5, .t 33]⟩ DT.nil)))))))))))).two ((DT.one ⟨some 28, none, .fldA 3, [.t 2]⟩
 ((DT.one ⟨some 24, none, .fldA 3, [.t 2]⟩ ((DT.one ⟨some 25, none, .load none, [.t 24]⟩ ((DT.one ⟨some 29, none, .load none, [.t 28]⟩ ((DT.one ⟨some 30, none, .len, [.t 29]⟩
 (DT.one ⟨some 31, none, .bin .rem, [.t 27, .t 30]⟩ (DT.one ⟨some 32, none, .idxI 6, [.t 25, .t 31]⟩ (DT.one ⟨some 33, none, .loadI (some 6), [.t 32]⟩ (DT.one ⟨some 5, none, .alloc
 1 49 [i6 0, i6 0, i6 0, .bool false, .nl, .nl], []⟩ (DT.one ⟨none, none, .store 6, [.t 5, .t 33]⟩ DT.nil)))))).two (DT.one ⟨some 5, none, .alloc 1 49 [i6 0, i6 0, i6 0, .bool
 false, .nl, .nl], []⟩ (DT.one ⟨some 30, none, .len, [.t 29]⟩ (DT.one ⟨some 31, none, .bin .rem, [.t 27, .t 30]⟩ (DT.one ⟨some 32, none, .idxI 6, [.t 25, .t 31]⟩ (DT.one ⟨some 33,
 none, .loadI (some 6), [.t 32]⟩ (DT.one ⟨none, none, .store 6, [.t 5, .t 33]⟩ DT.nil)))))))).two (DT.one ⟨some 5, none, .alloc 1 49 [i6 0, i6 0, i6 0, .bool false, .nl, .nl], []⟩
 (DT.one ⟨some 29, none, .load none, [.t 28]⟩ (DT.one ⟨some 30, none, .len, [.t 29]⟩ (DT.one ⟨some 31, none, .bin .rem, [.t 27, .t 30]⟩ (DT.one ⟨some 32, none, .idxI 6, [.t 25, .t
 31]⟩ (DT.one ⟨some 33, none, .loadI (some 6), [.t 32]⟩ (DT.one ⟨none, none, .store 6, [.t 5, .t 33]⟩ DT.nil))))))))).two ((DT.one ⟨some 29, none, .load none, [.t 28]⟩ ((DT.one
 ⟨some 25, none, .load none, [.t 24]⟩ ((DT.one ⟨some 30, none, .len, [.t 29]⟩ (DT.one ⟨some 31, none, .bin .rem, [.t 27, .t 30]⟩ (DT.one ⟨some 32, none, .idxI 6, [.t 25, .t 31]⟩
 (DT.one ⟨some 33, none, .loadI (some 6), [.t 32]⟩ (DT.one ⟨some 5, none, .alloc 1 49 [i6 0, i6 0, i6 0, .bool false, .nl, .nl], []⟩ (DT.one ⟨none, none, .store 6, [.t 5, .t 33]⟩
 DT.nil)))))).two (DT.one ⟨some 5, none, .alloc 1 49 [i6 0, i6 0, i6 0, .bool false, .nl, .nl], []⟩ (DT.one ⟨some 30, none, .len, [.t 29]⟩ (DT.one ⟨some 31, none, .bin .rem, [.t 27,
 .t 30]⟩ (DT.one ⟨some 32, none, .idxI 6, [.t 25, .t 31]⟩ (DT.one ⟨some 33, none, .loadI (some 6), [.t 32]⟩ (DT.one ⟨none, none, .store 6, [.t 5, .t 33]⟩ DT.nil)))))))).two ((DT.one
 ⟨some 30, none, .len, [.t 29]⟩ (DT.one ⟨some 31, none, .bin .rem, [.t 27, .t 30]⟩ ((DT.one ⟨some 25, none, .load none, [.t 24]⟩ (DT.one ⟨some 32, none, .idxI 6, [.t 25, .t 31]⟩
 (DT.one ⟨some 33, none, .loadI (some 6), [.t 32]⟩ (DT.one ⟨some 5, none, .alloc 1 49 [i6 0, i6 0, i6 0, .bool false, .nl, .nl], []⟩ (DT.one ⟨none, none, .store 6, [.t 5, .t 33]⟩
 DT.nil))))).two (DT.one ⟨some 5, none, .alloc 1 49 [i6 0, i6 0, i6 0, .bool false, .nl, .nl], []⟩ (DT.one ⟨some 25, none, .load none, [.t 24]⟩ (DT.one ⟨some 32, none, .idxI 6, [.t
 25, .t 31]⟩ (DT.one ⟨some 33, none, .loadI (some 6), [.t 32]⟩ (DT.one ⟨none, none, .store 6, [.t 5, .t 33]⟩ DT.nil)))))))).two (DT.one ⟨some 5, none, .alloc 1 49 [i6 0, i6 0, i6 0,
 .bool false, .nl, .nl], []⟩ (DT.one ⟨some 25, none, .load none, [.t 24]⟩ (DT.one ⟨some 30, none, .len, [.t 29]⟩ (DT.one ⟨some 31, none, .bin .rem, [.t 27, .t 30]⟩ (DT.one ⟨some 32,
 none, .idxI 6, [.t 25, .t 31]⟩ (DT.one ⟨some 33, none, .loadI (some 6), [.t 32]⟩ (DT.one ⟨none, none, .store 6, [.t 5, .t 33]⟩ DT.nil)))))))))).two (DT.one ⟨some 5, none, .alloc 1
 49 [i6 0, i6 0, i6 0, .bool false, .nl, .nl], []⟩ (DT.one ⟨some 25, none, .load none, [.t 24]⟩ (DT.one ⟨some 29, none, .load none, [.t 28]⟩ (DT.one ⟨some 30, none, .len, [.t 29]⟩
 (DT.one ⟨some 31, none, .bin .rem, [.t 27, .t 30]⟩ (DT.one ⟨some 32, none, .idxI 6, [.t 25, .t 31]⟩ (DT.one ⟨some 33, none, .loadI (some 6), [.t 32]⟩ (DT.one ⟨none, none, .store 6,
 [.t 5, .t 33]⟩ DT.nil))))))))))).two ((DT.one ⟨some 29, none, .load none, [.t 28]⟩ ((DT.one ⟨some 24, none, .fldA 3, [.t 2]⟩ ((DT.one ⟨some 25, none, .load none, [.t 24]⟩ ((DT.one
 ⟨some 30, none, .len, [.t 29]⟩ (DT.one ⟨some 31, none, .bin .rem, [.t 27, .t 30]⟩ (DT.one ⟨some 32, none, .idxI 6, [.t 25, .t 31]⟩ (DT.one ⟨some 33, none, .loadI (some 6), [.t 32]⟩
 (DT.one ⟨some 5, none, .alloc 1 49 [i6 0, i6 0, i6 0, .bool false, .nl, .nl], []⟩ (DT.one ⟨none, none, .store 6, [.t 5, .t 33]⟩ DT.nil)))))).two (DT.one ⟨some 5, none, .alloc 1 49
 [i6 0, i6 0, i6 0, .bool false, .nl, .nl], []⟩ (DT.one ⟨some 30, none, .len, [.t 29]⟩ (DT.one ⟨some 31, none, .bin .rem, [.t 27, .t 30]⟩ (DT.one ⟨some 32, none, .idxI 6, [.t 25, .t
 31]⟩ (DT.one ⟨some 33, none, .loadI (some 6), [.t 32]⟩ (DT.one ⟨none, none, .store 6, [.t 5, .t 33]⟩ DT.nil)))))))).two ((DT.one ⟨some 30, none, .len, [.t 29]⟩ (DT.one ⟨some 31,
 none, .bin .rem, [.t 27, .t 30]⟩ ((DT.one ⟨some 25, none, .load none, [.t 24]⟩ (DT.one ⟨some 32, none, .idxI 6, [.t 25, .t 31]⟩ (DT.one ⟨some 33, none, .loadI (some 6), [.t 32]⟩
 (DT.one ⟨some 5, none, .alloc 1 49 [i6 0, i6 0, i6 0, .bool false, .nl, .nl], []⟩ (DT.one ⟨none, none, .store 6, [.t 5, .t 33]⟩ DT.nil))))).two (DT.one ⟨some 5, none, .alloc 1 49
 [i6 0, i6 0, i6 0, .bool false, .nl, .nl], []⟩ (DT.one ⟨some 25, none, .load none, [.t 24]⟩ (DT.one ⟨some 32, none, .idxI 6, [.t 25, .t 31]⟩ (DT.one ⟨some 33, none, .loadI (some
 6), [.t 32]⟩ (DT.one ⟨none, none, .store 6, [.t 5, .t 33]⟩ DT.nil)))))))).two (DT.one ⟨some 5, none, .alloc 1 49 [i6 0, i6 0, i6 0, .bool false, .nl, .nl], []⟩ (DT.one ⟨some 25,
 none, .load none, [.t 24]⟩ (DT.one ⟨some 30, none, .len, [.t 29]⟩ (DT.one ⟨some 31, none, .bin .rem, [.t 27, .t 30]⟩ (DT.one ⟨some 32, none, .idxI 6, [.t 25, .t 31]⟩ (DT.one ⟨some
 33, none, .loadI (some 6), [.t 32]⟩ (DT.one ⟨none, none, .store 6, [.t 5, .t 33]⟩ DT.nil)))))))))).two ((DT.one ⟨some 30, none, .len, [.t 29]⟩ (DT.one ⟨some 31, none, .bin .rem,
 [.t 27, .t 30]⟩ ((DT.one ⟨some 24, none, .fldA 3, [.t 2]⟩ ((DT.one ⟨some 25, none, .load none, [.t 24]⟩ (DT.one ⟨some 32, none, .idxI 6, [.t 25, .t 31]⟩ (DT.one ⟨some 33, none,
 .loadI (some 6), [.t 32]⟩ (DT.one ⟨some 5, none, .alloc 1 49 [i6 0, i6 0, i6 0, .bool false, .nl, .nl], []⟩ (DT.one ⟨none, none, .store 6, [.t 5, .t 33]⟩ DT.nil))))).two (DT.one
 ⟨some 5, none, .alloc 1 49 [i6 0, i6 0, i6 0, .bool false, .nl, .nl], []⟩ (DT.one ⟨some 25, none, .load none, [.t 24]⟩ (DT.one ⟨some 32, none, .idxI 6, [.t 25, .t 31]⟩ (DT.one
 ⟨some 33, none, .loadI (some 6), [.t 32]⟩ (DT.one ⟨none, none, .store 6, [.t 5, .t 33]⟩ DT.nil))))))).two (DT.one ⟨some 5, none, .alloc 1 49 [i6 0, i6 0, i6 0, .bool false, .nl,
 .nl], []⟩ (DT.one ⟨some 24, none, .fldA 3, [.t 2]⟩ (DT.one ⟨some 25, none, .load none, [.t 24]⟩ (DT.one ⟨some 32, none, .idxI 6, [.t 25, .t 31]⟩ (DT.one ⟨some 33, none, .loadI
 (some 6), [.t 32]⟩ (DT.one ⟨none, none, .store 6, [.t 5, .t 33]⟩ DT.nil))))))))).two (DT.one ⟨some 5, none, .alloc 1 49 [i6 0, i6 0, i6 0, .bool false, .nl, .nl], []⟩ (DT.one ⟨some
 24, none, .fldA 3, [.t 2]⟩ (DT.one ⟨some 25, none, .load none, [.t 24]⟩ (DT.one ⟨some 30, none, .len, [.t 29]⟩ (DT.one ⟨some 31, none, .bin .rem, [.t 27, .t 30]⟩ (DT.one ⟨some 32,
 none, .idxI 6, [.t 25, .t 31]⟩ (DT.one ⟨some 33, none, .loadI (some 6), [.t 32]⟩ (DT.one ⟨none, none, .store 6, [.t 5, .t 33]⟩ DT.nil))))))))))).two (DT.one ⟨some 5, none, .alloc 1
 49 [i6 0, i6 0, i6 0, .bool false, .nl, .nl], []⟩ (DT.one ⟨some 24, none, .fldA 3, [.t 2]⟩ (DT.one ⟨some 25, none, .load none, [.t 24]⟩ (DT.one ⟨some 29, none, .load none, [.t 28]⟩
 (DT.one ⟨some 30, none, .len, [.t 29]⟩ (DT.one ⟨some 31, none, .bin .rem, [.t 27, .t 30]⟩ (DT.one ⟨some 32, none, .idxI 6, [.t 25, .t 31]⟩ (DT.one ⟨some 33, none, .loadI (some 6),
 [.t 32]⟩ (DT.one ⟨none, none, .store 6, [.t 5, .t 33]⟩ DT.nil)))))))))))).two (DT.one ⟨some 5, none, .alloc 1 49 [i6 0, i6 0, i6 0, .bool false, .nl, .nl], []⟩ (DT.one ⟨some 24,
 none, .fldA 3, [.t 2]⟩ (DT.one ⟨some 25, none, .load none, [.t 24]⟩ (DT.one ⟨some 28, none, .fldA 3, [.t 2]⟩ (DT.one ⟨some 29, none, .load none, [.t 28]⟩ (DT.one ⟨some 30, none,
 .len, [.t 29]⟩ (DT.one ⟨some 31, none, .bin .rem, [.t 27, .t 30]⟩ (DT.one ⟨some 32, none, .idxI 6, [.t 25, .t 31]⟩ (DT.one ⟨some 33, none, .loadI (some 6), [.t 32]⟩ (DT.one ⟨none,
 none, .store 6, [.t 5, .t 33]⟩ DT.nil))))))))))))))).seq ((C.ops [O1 35 (.fldA 0) 2, LD 36 35, O1 37 (.fldA 1) 2, LD 38 37, O1 39 (.fldA 2) 2, LD 40 39, O1 41 (.load (some 6)) 5,
 ⟨some 42, none, .bslc 2 6 1 49 [i6 0, i6 0, i6 0, .bool false, .nl, .nl] [(0, 6)], [.t 41]⟩, ON 43 (.call 14 false) [.t 36, .t 38, .t 40, .t 42], MV 34 43, O1 44 (.ext 0) 34, O1 45
 (.ext 1) 34, MV 6 44, MV 7 45]).seq (((C.ops [MV 46 7, BC 47 .neq 46 (i6 0), MV 48 47, MG 49 48 false 6, P1 50 48 false .len 49, P1 51 48 false (.fldA 0) 2, P1 52 48 false (.load
 none) 51, P1 53 48 false .len 52, P2 54 48 false (.bin .neq) 50 53, PT 55 48 54]).seq (C.cond (.t 55) ((C.ops [MC 4 (.bool false)]).seq C.ret) C.skip)).seq (((C.ops [O1 56 (.fldA
 0) 2, LD 57 56, O1 58 .len 57, MC 59 (i6 0)]).seq (C.block 0 ((C.ops [BI 60 .lss 59 58]).seq ((C.cond (.t 60) C.skip (C.exit 0)).seq ((C.block 1 ((C.ops [MV 61 59, MV 8 61]).seq
 ((C.ops [O1 62 (.fldA 2) 2, LD 63 62, MV 9 63]).seq (((C.ops [O1 64 (.fldA 5) 5, LD 65 64, O1 66 .len 65, MC 67 (i6 0)]).seq (C.block 2 ((C.ops [BI 68 .lss 67 66]).seq ((C.cond (.t
 68) C.skip (C.exit 2)).seq ((C.block 3 ((C.ops [O2 69 (.idxA 2) 65 67, O1 70 (.load (some 2)) 69, ⟨some 11, none, .alloc 3 51 [.nl, .nl], []⟩, ST 2 11 70]).seq ((C.ops [O1 72
 (.fldA 0) 2, LD 73 72, O1 74 (.fldA 1) 2, LD 75 74, O1 76 (.fldA 1) 11, LD 77 76, ON 78 (.call 28 true) [.t 73, .t 75, .t 77], MV 71 78, O1 79 (.ext 0) 71, O1 80 (.ext 1) 71, MV 12
 79, MV 13 80]).seq (((C.ops [MV 81 13, BC 82 .neq 81 (i6 0)]).seq (C.cond (.t 82) ((C.ops [MC 4 (.bool false)]).seq C.ret) C.skip)).seq ((C.ops [MV 83 12, MV 84 8, O2 85 (.call 27
 true) 83 84]).seq (C.cond (.t 85) (C.ops [O1 86 (.fldA 2) 2, LD 87 86, O1 88 (.fldA 1) 5, LD 89 88, O2 90 (.slc 1 false true) 87 89, O1 91 (.fldA 0) 11, LD 92 91, O1 93 (.fldA 2)
 2, LD 94 93, O1 95 (.fldA 2) 5, LD 96 95, O2 97 (.slc 1 true false) 94 96, ⟨some 98, none, .bslc 4 1 3 22 [.nl] [(0, 1), (1, 1), (2, 1)], [.t 90, .t 92, .t 97]⟩, O1 99 (.call 29
 false) 98, MV 9 99]) C.skip)))))).seq (C.ops [BC 100 .add 67 (i6 1), MV 67 100])))).loop)).seq ((C.ops [MV 101 6, MV 102 8, O2 103 (.idxA 1) 101 102, LD 104 103, MV 105 9, O2 106
 (.call 22 true) 104 105, O1 107 (.un UnOp.not) 106]).seq (C.cond (.t 107) ((C.ops [MC 4 (.bool false)]).seq C.ret) C.skip)))))).seq (C.ops [BC 108 .add 59 (i6 1), MV 59
 108])))).loop)).seq ((C.ops [ON 109 (.call 11 true) [], MV 4 109]).seq
 C.ret)))))))
theorem qwU : qH Tryz.prog 5 110 5 [RV.tmp 4] c5u := fi Tryz.f5 [2, 5, 42, 11, 98] quB [] (by kernel_rfl) (by kernel_rfl) (by kernel_rfl) (by kernel_rfl)
end
section
open Go Go.Proofs AF HY LN
namespace RC
set_option maxRecDepth 100000
set_option maxHeartbeats 16000000
theorem qzf (names : List Str) (gs : List Gr) (t : List Str) (l : List En) (at0 : Int) (h : List AObj) (hb : CB names gs t l) (ha : 0 ≤ at0 ∧ at0 ≤ 255) (hp : jv SG h) : ql Tryz.prog 5 [.agg (qE names gs t l), .int .u8 at0] h (.bool true) h := by
 have c25 := fun l' => fnP names gs t l (h ++ l') hb (hp.app l')
 have c11 := fun l' => qvM (h ++ l') (hp.app l')
 have z5 : ∀ g, valL g .len [qA l] = .int .i64 l.length := fun _ => rfl
 have z6 : ∀ g, okL g .len [qA l] = True := fun _ => eq_true trivial
 unfold qE at c25
 by_cases hf : qb6 names gs t l = false ∧ rdE names gs t l = 0
 case neg =>
  have e : (!qb6 names gs t l && decide (rdE names gs t l = 0)) = false := by
   cases h1 : qb6 names gs t l with
   | true => rfl
   | false =>
    have : ¬ rdE names gs t l = 0 := fun h2 => hf ⟨h1, h2⟩
    simp [this]
  simp only [e] at c25
  refine acO qwU ?_
  simp (disch := omega) only [c5u, List.replicate, qE, go_sem]
  repeat' first
   | ((first | refine cA (c25 _) ?_ ?_ | refine cG (fun e => c25 _) ?_ ?_ | refine cA (c11 _) ?_ ?_ | refine cG (fun e => c11 _) ?_ ?_ | refine cU (fun _ => c25 _) ?_ ?_ | refine cU (fun _ => c11 _) ?_ ?_); (next => exact flk); simp (disch := omega) only [qE, go_sem])
   | ((first | refine qc ?_ ?_ | refine qb ?_ ?_); (next => exact rvk); simp only [go_sem]; first | exact VLe.refl _ | refine qd ?_ | refine qa ?_ | refine qe ?_ | skip)
   | with_reducible first | refine And.intro ?_ ?_ | intro _
  all_goals try exact clz
 obtain ⟨hg, g⟩ := hf
 have e : (!qb6 names gs t l && decide (rdE names gs t l = 0)) = true := by rw [hg, decide_eq_true g]; rfl
 simp only [e] at c25
 by_cases hl0 : l.length = 0
 ·have k0 : ((l.length : Int) = 0) = True := eq_true (by omega)
  refine acO qwU ?_
  simp (disch := omega) only [c5u, List.replicate, qE, go_sem]
  repeat' first
   | ((first | refine cA (c25 _) ?_ ?_ | refine cG (fun e => c25 _) ?_ ?_ | refine cA (c11 _) ?_ ?_ | refine cG (fun e => c11 _) ?_ ?_ | refine cU (fun _ => c25 _) ?_ ?_ | refine cU (fun _ => c11 _) ?_ ?_); (next => exact flk); simp (disch := omega) only [qE, z5, z6, k0, go_sem])
   | ((first | refine qc ?_ ?_ | refine qb ?_ ?_); (next => exact rvk); simp only [go_sem]; first | exact VLe.refl _ | refine qd ?_ | refine qa ?_ | refine qe ?_ | skip)
   | with_reducible first | refine And.intro ?_ ?_ | intro _
  all_goals try exact clz
 have k0 : ((l.length : Int) = 0) = False := eq_false (by omega)
 have hc := qaG hg
 have hln := hc.ln
 have hnn := hc.nn
 have htn := hc.tn
 obtain ⟨a, rfl⟩ : ∃ a : Nat, at0 = (a : Int) := ⟨at0.toNat, by omega⟩
 have hil : a % l.length < l.length := Nat.mod_lt _ (by omega)
 have hmod : (a : Int) % (l.length : Int) = ((a % l.length : Nat) : Int) := by omega
 have hrd := quM g hil
 have hsz := quN hc (a % l.length)
 obtain ⟨i0, hi0⟩ : ∃ i0, i0 = a % l.length := ⟨_, rfl⟩
 rw [← hi0] at hil hmod hrd hsz
 have hck := qcH.1 ((jZ.1 g).ck _ (zf hil))
 have hvl := hc.vl i0
 have hsgl := hc.sg i0
 have hwl := hc.wl i0
 have k1 : ((i0 : Int) < l.length) = True := eq_true (by omega)
 obtain ⟨x, hx⟩ : ∃ x, x = l.getD i0 default := ⟨_, rfl⟩
 have ex := hx.symm
 simp only [ex] at hrd hsz hck hvl hsgl hwl
 refine acO qwU ?_
 simp (disch := omega) only [c5u, List.replicate, qE, go_sem]
 repeat' first
  | ((first | refine cA (c25 _) ?_ ?_ | refine cG (fun e => c25 _) ?_ ?_ | refine cA (c11 _) ?_ ?_ | refine cG (fun e => c11 _) ?_ ?_ | refine cU (fun _ => c25 _) ?_ ?_ | refine cU (fun _ => c11 _) ?_ ?_); (next => exact flk); simp (disch := omega) only [qE, z5, z6, k0, go_sem])
  | ((first | refine qc ?_ ?_ | refine qb ?_ ?_); (next => exact rvk); simp only [go_sem]; first | exact VLe.refl _ | refine qd ?_ | refine qa ?_ | refine qe ?_ | skip)
  | with_reducible first | refine And.intro ?_ ?_ | intro _
 all_goals try exact clz
 refine qjd ?T ?H ?h1 ?h2
 case h1 =>
  simp (disch := omega) only [qE, qA, enC, k0, k1, hmod, ex, z5, z6, Int.toNat_natCast, go_sem]
  repeat' first
   | ((first | refine qc ?_ ?_ | refine qb ?_ ?_); (next => exact rvk); simp only [go_sem]; first | exact VLe.refl _ | refine qd ?_ | refine qa ?_ | refine qe ?_ | skip)
   | with_reducible first | refine And.intro ?_ ?_ | intro _
  all_goals first
   | omega
   | rfl
   | skip
 case h2 =>
 have c14 := fun l' => qey names gs t [x] (h ++ l') hsz (hp.app l')
 have e0 : opE 0 = 0 := rfl
 have eA : qex names gs t [x] = kL names gs t [x] names.length := if_pos hrd
 have hal := kC names gs t [x] names.length
 simp only [hrd, e0, eA] at c14
 have eS : List.drop 6 (qP [i6 0, i6 0, i6 0, AV.bool false, AV.nl, AV.nl] 1) = [] := rfl
 simp (disch := omega) only [qE, enC, ex, eS, go_sem]
 repeat' first
  | ((first | refine qc ?_ ?_ | refine qb ?_ ?_); (next => exact rvk); simp only [go_sem]; first | exact VLe.refl _ | refine qd ?_ | refine qa ?_ | refine qe ?_ | skip)
  | with_reducible first | refine And.intro ?_ ?_ | intro _
 all_goals try exact clz
 refine qS (r := .tup [zc (kL names gs t [x] names.length), .int .i64 0]) (h' := h ++ [.mem 1 26 (qE names gs t l), .mem 1 49 (enC x), .emp 2, .emp 0, .emp 0]) (qy3 [h.length + 2] (by simp only [jV, go_sem]) ?a1) (by exact flk) ?_
 case a1 =>
  simp only [qcV, go_sem]
  refine ql.le (c14 _) ?_ (VLe.refl _)
  refine ⟨VLe.refl _, VLe.refl _, VLe.refl _, ?_, trivial⟩
  rw [if_pos (by simp), if_pos (by simp)]
  refine VLe.sl_eq rfl (fun i hi => ?_)
  obtain rfl : i = 0 := by omega
  rfl
 have z1 : ∀ g, valL g .len [strs names] = .int .i64 names.length := fun _ => rfl
 have z2 : ∀ g, okL g .len [strs names] = True := fun _ => eq_true trivial
 have z3 : ∀ g, valL g .len [zc (kL names gs t [x] names.length)] = .int .i64 names.length := fun g => (show valL g .len [zc (kL names gs t [x] names.length)] = .int .i64 (kL names gs t [x] names.length).length from rfl).trans (by rw [hal])
 have z4 : ∀ g, okL g .len [zc (kL names gs t [x] names.length)] = True := fun _ => eq_true trivial
 have z7 : ∀ g, valL g .len [qC x.vars] = .int .i64 x.vars.length := fun _ => rfl
 have z8 : ∀ g, okL g .len [qC x.vars] = True := fun _ => eq_true trivial
 simp (disch := omega) only [qE, z1, z2, z3, z4, go_sem]
 repeat' first
  | ((first | refine qc ?_ ?_ | refine qb ?_ ?_); (next => exact rvk); simp only [go_sem]; first | exact VLe.refl _ | refine qd ?_ | refine qa ?_ | refine qe ?_ | skip)
  | with_reducible first | refine And.intro ?_ ?_ | intro _
 all_goals try exact clz
 refine qo (T := fun i : Nat × AObj × AObj => qK 110 [(2, .op h.length 1 0), (5, .op (h.length + 1) 1 0), (6, zc (kL names gs t [x] names.length)), (58, .int .i64 names.length), (59, .int .i64 i.1)])
  (H := fun i => h ++ [.mem 1 26 (qE names gs t l), .mem 1 49 (enC x), .emp 2, i.2.1, i.2.2])
  (inv := fun i => i.1 ≤ names.length ∧ qR [i.2.1] 0 = true ∧ qR [i.2.2] 0 = true) (m := fun i => names.length - i.1) (0, .emp 0, .emp 0) ⟨Nat.zero_le _, rfl, rfl⟩ (Wk.temps ?_) ?_
 ·(simp only [List.replicate, go_sem, qk, qh, qg, qj]; try (repeat' first | (with_reducible refine And.intro ?_ ?_) | (refine qd ?_; omega) | (refine qa ?_; rfl) | exact VLe.refl _))
 rintro ⟨i, O3, O4⟩ ⟨i1, i2, i3⟩ K hK
 simp only at i1 i2 i3 hK
 have i2' : ∀ m, qR (O3 :: m) 0 = true := fun _ => i2
 have i3' : ∀ m, qR (O4 :: m) 0 = true := fun _ => i3
 by_cases hi : i < names.length
 ·have k2 : ((i : Int) < names.length) = True := eq_true (by omega)
  have hax : (kL names gs t [x] names.length).getD i [] = qb0 names gs t [x] (i : Int) := qcD hi
  rw [qkj hck.tc] at hax
  simp (disch := omega) only [List.replicate, qE, enC, k2, z7, z8, go_sem]
  repeat' first
   | ((first | refine qc ?_ ?_ | refine qb ?_ ?_); (next => exact rvk); simp only [go_sem]; first | exact VLe.refl _ | refine qd ?_ | refine qa ?_ | refine qe ?_ | skip)
   | with_reducible first | refine And.intro ?_ ?_ | intro _
  all_goals try exact clz
  refine qo (T := fun j : Nat × AObj × AObj => qK 110 [(2, .op h.length 1 0), (5, .op (h.length + 1) 1 0), (6, zc (kL names gs t [x] names.length)), (8, .int .i64 i), (9, strs (qb4 names gs t x (i : Int) j.1)), (58, .int .i64 names.length), (59, .int .i64 i), (65, qC x.vars), (66, .int .i64 x.vars.length), (67, .int .i64 j.1)])
   (H := fun j => h ++ [.mem 1 26 (qE names gs t l), .mem 1 49 (enC x), .emp 2, j.2.1, j.2.2])
   (inv := fun j => j.1 ≤ x.vars.length ∧ qR [j.2.1] 0 = true ∧ qR [j.2.2] 0 = true) (m := fun j => x.vars.length - j.1) (0, O3, O4) ⟨Nat.zero_le _, i2, i3⟩ (Wk.temps ?_) ?_
  ·(simp only [List.replicate, qb4, go_sem, qk, qh, qg, qj]; try (repeat' first | (with_reducible refine And.intro ?_ ?_) | (refine qd ?_; omega) | (refine qa ?_; rfl) | exact VLe.refl _))
  rintro ⟨j, O3, O4⟩ ⟨j1, j2, j3⟩ K2 hK2
  simp only at j1 j2 j3 hK2
  have j2' : ∀ m, qR (O3 :: m) 0 = true := fun _ => j2
  have j3' : ∀ m, qR (O4 :: m) 0 = true := fun _ => j3
  by_cases hj : j < x.vars.length
  ·have k3 : ((j : Int) < x.vars.length) = True := eq_true (by omega)
   have c28 := fun h => qmL names gs (x.vars.getD j default).sigla h hc.hz (by have := hsgl j; omega) hc.gm
   rw [hck.ev j hj] at c28
   have hwj := hwl j
   have hW : qb4 names gs t x (i : Int) (j + 1) = if (i : Int) ∈ zJ names gs (x.vars.getD j default).sigla then qpT t x j else qb4 names gs t x (i : Int) j := rfl
   have hcat : qpT t x j = zQ t 0 x.frm.toNat ++ ((x.vars.getD j default).words ++ t.drop x.to.toNat) := rfl
   obtain ⟨va, hva⟩ : ∃ va, va = x.vars.getD j default := ⟨_, rfl⟩
   have eva := hva.symm
   simp only [eva] at c28 hwj hW hcat
   have c27 := fun h => qpZ (zJ names gs va.sigla) (i : Int) h (by have := (kG names gs va.sigla).2; omega)
   by_cases hm : (i : Int) ∈ zJ names gs va.sigla
   ·rw [if_pos hm] at hW
    simp only [decide_eq_true hm] at c27
    obtain ⟨r1, r2, r3⟩ := hck.rng
    obtain ⟨f, hf⟩ : ∃ f : Nat, x.frm = (f : Int) := ⟨x.frm.toNat, by omega⟩
    obtain ⟨gg, hgg⟩ : ∃ gg : Nat, x.to = (gg : Int) := ⟨x.to.toNat, by omega⟩
    rw [hf, hgg] at hcat
    rw [hf] at r1 r2
    rw [hgg] at r2 r3
    simp only [Int.toNat_natCast] at hcat
    have q1 : (0 ≤ (f : Int)) = True := eq_true (by omega)
    have q2 : ((f : Int) ≤ t.length) = True := eq_true (by omega)
    have q3 : (0 ≤ (gg : Int)) = True := eq_true (by omega)
    have q4 : ((gg : Int) ≤ t.length) = True := eq_true (by omega)
    have rt : ((t.length : Int) - gg).toNat = t.length - gg := by omega
    simp (disch := omega) only [List.replicate, qE, enC, qC, vaC, k3, eva, j2', strs, go_sem]
    repeat' first
     | ((first | refine cA (c28 _) ?_ ?_ | refine cG (fun e => c28 _) ?_ ?_ | refine cA (c27 _) ?_ ?_ | refine cG (fun e => c27 _) ?_ ?_ | refine cU (fun _ => c28 _) ?_ ?_ | refine cU (fun _ => c27 _) ?_ ?_); (next => exact flk); simp (disch := omega) only [qE, enC, qC, vaC, k3, eva, j2', j3', q1, q2, q3, q4, rt, hf, hgg, Int.toNat_natCast, strs, go_sem])
     | ((first | refine qc ?_ ?_ | refine qb ?_ ?_); (next => exact rvk); simp only [go_sem]; first | exact VLe.refl _ | refine qd ?_ | refine qa ?_ | refine qe ?_ | skip)
     | with_reducible first | refine And.intro ?_ ?_ | intro _
    all_goals try exact clz
    have hLs : ([zQ t 0 f, va.words, zQ t gg t.length] : List (List Str)).flatten = qpT t x j := by
     rw [hcat]
     have e1 : zQ t gg t.length = t.drop gg := by unfold zQ; exact List.take_of_length_le (by simp)
     simp [e1]
    have s0 : qb5 (.sl (f - 0) fun i => [.str (t.getD i [])]) (zQ t 0 f).length (zH (zQ t 0 f)) := by
     have := qb5.sub (t := t) (a := 0) (b := f) (Nat.zero_le _) (by omega)
     simpa only [Nat.zero_add] using this
    have s1 := qb5.strs va.words
    have s2 := qb5.sub (t := t) (a := gg) (b := t.length) (by omega) (Nat.le_refl _)
    have hlc : (qpT t x j).length ≤ 5000 := by
     rw [hcat]
     simp only [List.length_append, List.length_drop]
     unfold zQ
     simp only [List.length_take, List.length_drop]
     omega
    refine qS (qwp [zQ t 0 f, va.words, zQ t gg t.length] (fun n => if n = 0 then .sl (f - 0) fun i => [.str (t.getD i [])] else if n = 1 then strs va.words else .sl (t.length - gg) fun i => [.str (t.getD (gg + i) [])]) _ (h.length + 4) (qz (some O4) + 1) _ 3 rfl (getO_app.trans rfl) rfl ?hE (by rw [hLs]; omega) (by simp)) (by exact flk) ?_
    case hE =>
     intro n hn
     match n, hn with
     | 0, _ => exact ⟨rfl, s0⟩
     | 1, _ => exact ⟨rfl, s1⟩
     | 2, _ => exact ⟨rfl, s2⟩
     | n + 3, hn => simp at hn; omega
    rw [hLs]
    simp (disch := omega) only [go_sem]
    repeat' first
     | ((first | refine qc ?_ ?_ | refine qb ?_ ?_); (next => exact rvk); simp only [go_sem]; first | exact VLe.refl _ | refine qd ?_ | refine qa ?_ | refine qe ?_ | skip)
     | with_reducible first | refine And.intro ?_ ?_ | intro _
    all_goals try exact clz
    refine hK2 _ _ (j + 1, .mem (qz (some O3) + 1) 51 (vaC va), .mem (qz (some O4) + 1) 22 [.sl (f - 0) fun i => [.str (t.getD i [])], strs va.words, .sl (t.length - gg) fun i => [.str (t.getD (gg + i) [])]]) ⟨hj, rfl, rfl⟩ (by simp only; omega) ?_
    simp only [hW, qE, enC, qC, vaC, strs, hf, hgg]
    refine Wk.temps ?_
    (simp only [List.replicate, go_sem, qk, qh, qg, qj]; try (repeat' first | (with_reducible refine And.intro ?_ ?_) | (refine qd ?_; omega) | (refine qa ?_; rfl) | exact VLe.refl _))
   ·rw [if_neg hm] at hW
    simp only [decide_eq_false hm] at c27
    simp (disch := omega) only [List.replicate, qE, enC, qC, vaC, k3, eva, j2', go_sem]
    repeat' first
     | ((first | refine cA (c28 _) ?_ ?_ | refine cG (fun e => c28 _) ?_ ?_ | refine cA (c27 _) ?_ ?_ | refine cG (fun e => c27 _) ?_ ?_ | refine cU (fun _ => c28 _) ?_ ?_ | refine cU (fun _ => c27 _) ?_ ?_); (next => exact flk); simp (disch := omega) only [qE, enC, qC, vaC, k3, eva, j2', j3', go_sem])
     | ((first | refine qc ?_ ?_ | refine qb ?_ ?_); (next => exact rvk); simp only [go_sem]; first | exact VLe.refl _ | refine qd ?_ | refine qa ?_ | refine qe ?_ | skip)
     | with_reducible first | refine And.intro ?_ ?_ | intro _
    all_goals try exact clz
    refine hK2 _ _ (j + 1, .mem (qz (some O3) + 1) 51 (vaC va), O4) ⟨hj, rfl, j3⟩ (by simp only; omega) ?_
    simp only [hW]
    refine Wk.temps ?_
    (simp only [List.replicate, qC, vaC, go_sem, qk, qh, qg, qj]; try (repeat' first | (with_reducible refine And.intro ?_ ?_) | (refine qd ?_; omega) | (refine qa ?_; rfl) | exact VLe.refl _))
  ·obtain rfl : j = x.vars.length := by omega
   have k3 : ((x.vars.length : Int) < x.vars.length) = False := eq_false (by omega)
   have c22 := fun h => eqS (qb4 names gs t x (i : Int) x.vars.length) h (by rw [← qkj hck.tc]; have := qdl hsz hrd hi; omega)
   simp (disch := omega) only [List.replicate, zc, k3, hal, hax, go_sem]
   repeat' first
    | ((first | refine cA (c22 _) ?_ ?_ | refine cG (fun e => c22 _) ?_ ?_ | refine cU (fun _ => c22 _) ?_ ?_); (next => exact flk); simp (disch := omega) only [zc, k2, k3, hal, hax, go_sem])
    | ((first | refine qc ?_ ?_ | refine qb ?_ ?_); (next => exact rvk); simp only [go_sem]; first | exact VLe.refl _ | refine qd ?_ | refine qa ?_ | refine qe ?_ | skip)
    | with_reducible first | refine And.intro ?_ ?_ | intro _
   all_goals try exact clz
   refine hK _ _ (i + 1, O3, O4) ⟨hi, j2, j3⟩ (by simp only; omega) (Wk.temps ?_)
   (simp only [List.replicate, zc, hal, go_sem, qk, qh, qg, qj]; try (repeat' first | (with_reducible refine And.intro ?_ ?_) | (refine qd ?_; omega) | (refine qa ?_; rfl) | exact VLe.refl _))
 ·have k2 : ((i : Int) < names.length) = False := eq_false (by omega)
  simp (disch := omega) only [List.replicate, k2, go_sem]
  repeat' first
   | ((first | refine cA (c11 _) ?_ ?_ | refine cG (fun e => c11 _) ?_ ?_ | refine cU (fun _ => c11 _) ?_ ?_); (next => exact flk); simp (disch := omega) only [k2, go_sem])
   | ((first | refine qc ?_ ?_ | refine qb ?_ ?_); (next => exact rvk); simp only [go_sem]; first | exact VLe.refl _ | refine qd ?_ | refine qa ?_ | refine qe ?_ | skip)
   | with_reducible first | refine And.intro ?_ ?_ | intro _
  all_goals try exact clz
end RC
end

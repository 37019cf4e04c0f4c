import Derived.Test.YtonpflblcnpegaaDoorE29
import Derived.Test.YtonpflblcnpegaaDoorGV
set_option linter.all false
set_option linter.unusedSimpArgs false
set_option linter.unusedVariables false
set_option linter.unusedSectionVars false
open Go Go.Proofs AF HY
namespace HY
set_option maxRecDepth 100000
def exP : List Pat := [⟨[97, 98], [0, 1, 0]⟩, ⟨[46, 99, 100, 101, 46], [0, 0, 2, 3, 0, 0]⟩]
theorem ile3 {r : AV → AV} {a b c : Int} (h : ∀ x, r (.int .i64 x) = .int .i64 x) : ILe (.sl 3 fun i => List.map r (List.take 1 (List.drop i [AV.int .i64 a, .int .i64 b, .int .i64 c]))) (intsV [a, b, c]) :=
  ILe.sl (fun i hi => by
    obtain rfl | rfl | rfl : i = 0 ∨ i = 1 ∨ i = 2 := by omega
    all_goals (simp only [List.drop, List.take, List.map, h]; exact ILes.refl _))
theorem ile6 {r : AV → AV} {a b c d e f : Int} (h : ∀ x, r (.int .i64 x) = .int .i64 x) : ILe (.sl 6 fun i => List.map r (List.take 1 (List.drop i [AV.int .i64 a, .int .i64 b, .int .i64 c, .int .i64 d, .int .i64 e, .int .i64 f]))) (intsV [a, b, c, d, e, f]) :=
  ILe.sl (fun i hi => by
    obtain rfl | rfl | rfl | rfl | rfl | rfl : i = 0 ∨ i = 1 ∨ i = 2 ∨ i = 3 ∨ i = 4 ∨ i = 5 := by omega
    all_goals (simp only [List.drop, List.take, List.map, h]; exact ILes.refl _))
theorem vle_ile {a b : AV} (hs : a.still = true) (h : ILe a b) : VLe a b := VLe.still hs h
theorem u39 (h : List AObj) : ACalls Tryd.prog 39 [] h (patsV exP) h := by
  refine acalls_of fn39e (by simp) ?_
  simp only [List.length_cons, List.length_nil, Nat.reduceAdd, Nat.reduceSub, List.replicate, List.cons_append, List.nil_append, List.append_nil]
  simp (disch := omega) only [c39e, madeA, madeA1, madeA3, go_sem, wrap64_id, Int.tdiv_eq_ediv_of_nonneg, Int.tmod_eq_emod_of_nonneg]
  repeat' first
    | ((first | refine fnQ_pure1 ?_ ?_ | refine fnQ_pure0 ?_ ?_); (next => repeat' first | exact rvs_n | refine rvs_t ?_ | (simp [go_sem]; done)); simp only [go_sem]; (first | exact VLe.refl _ | refine VLe_int ?_ | refine VLe_bool ?_ | refine VLe_str ?_ | skip))
    | (with_reducible refine And.intro ?_ ?_)
    | with_reducible intro _
  all_goals first
    | omega
    | (rename_i hx; revert hx; simp; done)
    | (simp; done)
    | skip
  refine VLe.sl (fun i hi => ?_)
  obtain rfl | rfl : i = 0 ∨ i = 1 := by omega
  · simp (disch := omega) only [List.take, List.drop, List.map, go_sem, wrap64_id, Int.tdiv_eq_ediv_of_nonneg, Int.tmod_eq_emod_of_nonneg]
    exact ⟨ILe.refl _, ile3 (fun x => rei_int), trivial⟩
  · simp (disch := omega) only [List.take, List.drop, List.map, go_sem, wrap64_id, Int.tdiv_eq_ediv_of_nonneg, Int.tmod_eq_emod_of_nonneg]
    exact ⟨ILe.refl _, ile6 (fun x => rei_int), trivial⟩
theorem movedH_eq {h tl : List AObj} {k j vj : Nat} {ty : TypeId} {cs : List AV} (hkl : k < h.length) : movedH h (h ++ tl) k (h.length + j) vj ty cs = setO k h (.mem (verOf (getO k h) + 1) ty cs) ++ setO j tl (.emp (vj + 1)) := by
  unfold movedH setO
  rw [List.set_append_right _ _ (by omega), List.set_append_left _ _ hkl]
  simp
theorem site_lt {h : List AObj} {k : Nat} (hk : site h k = true) : k < h.length := by
  unfold site at hk
  split at hk
  · rename_i hx; exact getO_lt hx
  · rename_i hx; exact getO_lt hx
  · cases hk
theorem u39m (h : List AObj) (k : Nat) (hk : site h k = true) :
    ACalls Tryd.prog 39 [] h (.osl k (verOf (getO k h) + 1) 2 0 2) (setO k h (.mem (verOf (getO k h) + 1) 32 (patsC exP))) := by
  refine acallsM2 fn39e k (by simp) ?_
  simp only [List.length_cons, List.length_nil, Nat.reduceAdd, Nat.reduceSub, List.replicate, List.cons_append, List.nil_append, List.append_nil]
  simp (disch := omega) only [c39e, madeA, madeA1, madeA3, go_sem, wrap64_id, Int.tdiv_eq_ediv_of_nonneg, Int.tmod_eq_emod_of_nonneg]
  repeat' first
    | (with_reducible refine And.intro ?_ ?_)
    | (with_reducible intro _)
  all_goals first
    | omega
    | skip
  refine ⟨h.length + 3, 1, 2, 0, 2, 32, [AV.str [97, 98], AV.osl (h.length + 1) 1 1 0 3, AV.str [46, 99, 100, 101, 46], AV.osl (h.length + 2) 1 1 0 6], patsC exP, _, [], [], ⟨trivial, trivial⟩, rfl, rfl, by omega, by simp only [go_sem], hk, ?_, trivial, rfl, rfl⟩
  rw [movedH_eq (site_lt hk)]
  obtain ⟨h2, hh2⟩ : ∃ h2, h2 = setO k h (.mem (verOf (getO k h) + 1) 32 [AV.str [97, 98], AV.osl (h.length + 1) 1 1 0 3, AV.str [46, 99, 100, 101, 46], AV.osl (h.length + 2) 1 1 0 6]) := ⟨_, rfl⟩
  rw [← hh2]
  have hl : h2.length = h.length := by rw [hh2, len_setO]
  rw [← hl]
  refine ⟨VOut.of 7 (VLe.refl _), VOut.of 7 ?_, VOut.of 7 (VLe.refl _), VOut.of 7 ?_, trivial⟩
  · simp (disch := omega) only [frz_osl, go_sem, wrap64_id, Int.tdiv_eq_ediv_of_nonneg, Int.tmod_eq_emod_of_nonneg]
    exact slOf_ints (v := 1) (n := 5) (L := [0, 1, 0])
  · simp (disch := omega) only [frz_osl, go_sem, wrap64_id, Int.tdiv_eq_ediv_of_nonneg, Int.tmod_eq_emod_of_nonneg]
    exact slOf_ints (v := 1) (n := 5) (L := [0, 0, 2, 3, 0, 0])
end HY

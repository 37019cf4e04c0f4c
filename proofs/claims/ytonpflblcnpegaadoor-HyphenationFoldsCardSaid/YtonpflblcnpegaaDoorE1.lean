import Derived.Test.YtonpflblcnpegaaDoorG2
import Derived.Test.YtonpflblcnpegaaDoorEA
import Derived.Test.YtonpflblcnpegaaDoorPgCodeE
import Derived.Test.YtonpflblcnpegaaDoorPgH2
set_option linter.all false
set_option linter.unusedSimpArgs false
set_option linter.unusedVariables false
set_option linter.unusedSectionVars false
open Go Go.Proofs AF HY
namespace HY
set_option maxRecDepth 100000
def strs (l : List (List UInt8)) : AV := .sl l.length fun i => [.str (l.getD i [])]
theorem okF1 {P : Program} {f : FuncId} {fn : Func} (h : P.funcs[f]? = some fn) (h1 : fn.body.isSome = true) (h2 : (fn.name != "runtime.NumGoroutine") = true) : okF P f = true := by
  unfold okF; rw [h]; simp [h1, h2]
theorem t134 (s : List UInt8) (c : Int) (h : List AObj) : ACalls Tryd.prog 95 [.str s, .int .u8 c] h (.int .i64 (Go.Lib.indexByte s c.toNat.toUInt8)) h := by
  refine ⟨okF1 Tryd.func95 (by kernel_rfl) (by kernel_rfl), fun w σ xs H hv => ?_⟩
  obtain ⟨x, y, rfl, hx, hy⟩ := hv.two
  rw [vr_str hx, vr_int hy]
  refine (callsIn_wide.2 (ib_calls ⟨s.toArray⟩ c w)).mono ?_
  rintro e w' ⟨rfl, rfl⟩
  exact ⟨_, σ, rfl, H, .imm .int, Ext.refl _ _⟩
theorem t126 (s : List UInt8) (c : Int) (h : List AObj) : ACalls Tryd.prog 68 [.str s, .int .u8 c] h (.int .i64 (Go.Lib.indexByte s c.toNat.toUInt8)) h := by
  refine acalls_of fn68d (by simp) ?_
  simp only [List.length_cons, List.length_nil, Nat.reduceAdd, Nat.reduceSub, List.replicate, List.cons_append, List.nil_append, List.append_nil]
  simp (disch := omega) only [c68d, go_sem, wrap64_id, Int.tdiv_eq_ediv_of_nonneg, Int.tmod_eq_emod_of_nonneg]
  repeat' first
    | ((first | refine callA_pure (t134 s c _) ?_ ?_); (next => repeat' first | exact flags_n | refine flags_c (by first | rfl | assumption) ?_); simp (disch := omega) only [go_sem, wrap64_id, Int.tdiv_eq_ediv_of_nonneg, Int.tmod_eq_emod_of_nonneg])
    | ((first | refine callG_pure (fun e => ⟨?_, t134 s c _⟩) ?_); (next => repeat' first | exact flags_n | refine flags_c (by first | rfl | assumption) ?_); simp (disch := omega) only [go_sem, wrap64_id, Int.tdiv_eq_ediv_of_nonneg, Int.tmod_eq_emod_of_nonneg])
    | ((first | refine fnQ_pure1 ?_ ?_ | refine fnQ_pure0 ?_ ?_); (next => repeat' first | exact rvs_n | refine rvs_t ?_ | (simp [go_sem]; done)); simp only [go_sem]; (first | exact VLe.refl _ | refine VLe_int ?_ | refine VLe_bool ?_ | refine VLe_str ?_ | skip))
    | (with_reducible refine And.intro ?_ ?_)
    | with_reducible intro _
theorem punct_iff : ∀ n : Fin 256, (0 ≤ Go.Lib.indexByte [46, 44, 59, 58, 33, 63, 40, 41, 45] (UInt8.ofNat n.val)) ↔ (n.val = 46 ∨ n.val = 44 ∨ n.val = 59 ∨ n.val = 58 ∨ n.val = 33 ∨ n.val = 63 ∨ n.val = 40 ∨ n.val = 41 ∨ n.val = 45) := by decide +kernel
theorem t103 (n : Int) (h : List AObj) (n0 : 0 ≤ n) (n1 : n ≤ 255) : ACalls Tryd.prog 71 [.int .u8 n] h (.int .i64 (kindI n)) h := by
  obtain ⟨m, rfl⟩ : ∃ m : Nat, n = m := ⟨n.toNat, by omega⟩
  have hp := punct_iff ⟨m, by omega⟩
  simp only at hp
  obtain ⟨q, hq⟩ : ∃ q, q = Go.Lib.indexByte [46, 44, 59, 58, 33, 63, 40, 41, 45] (UInt8.ofNat m) := ⟨_, rfl⟩
  rw [← hq] at hp
  have hc : ∀ h, ACalls Tryd.prog 68 [.str [46, 44, 59, 58, 33, 63, 40, 41, 45], .int .u8 (m : Int)] h (.int .i64 q) h := fun h => by rw [hq]; exact t126 _ _ h
  refine acalls_of fn71d (by simp) ?_
  simp only [List.length_cons, List.length_nil, Nat.reduceAdd, Nat.reduceSub, List.replicate, List.cons_append, List.nil_append, List.append_nil]
  simp (disch := omega) only [c71d, go_sem, wrap64_id, Int.tdiv_eq_ediv_of_nonneg, Int.tmod_eq_emod_of_nonneg]
  repeat' first
    | ((first | refine callA_pure (hc _) ?_ ?_); (next => repeat' first | exact flags_n | refine flags_c (by first | rfl | assumption) ?_); simp (disch := omega) only [go_sem, wrap64_id, Int.tdiv_eq_ediv_of_nonneg, Int.tmod_eq_emod_of_nonneg])
    | ((first | refine callG_pure (fun e => ⟨?_, hc _⟩) ?_); (next => repeat' first | exact flags_n | refine flags_c (by first | rfl | assumption) ?_); simp (disch := omega) only [go_sem, wrap64_id, Int.tdiv_eq_ediv_of_nonneg, Int.tmod_eq_emod_of_nonneg])
    | ((first | refine fnQ_pure1 ?_ ?_ | refine fnQ_pure0 ?_ ?_); (next => repeat' first | exact rvs_n | refine rvs_t ?_ | (simp [go_sem]; done)); simp only [go_sem]; (first | exact VLe.refl _ | refine VLe_int ?_ | refine VLe_bool ?_ | refine VLe_str ?_ | skip))
    | (with_reducible refine And.intro ?_ ?_)
    | with_reducible intro _
  all_goals first
    | omega
    | (unfold kindI; (repeat' split) <;> omega)
theorem t117 (n : Int) (h : List AObj) : ACalls Tryd.prog 80 [.int .u8 n] h (.int .i64 (kindI n)) h := by
  refine acalls_of fn80d (by simp) ?_
  simp only [List.length_cons, List.length_nil, Nat.reduceAdd, Nat.reduceSub, List.replicate, List.cons_append, List.nil_append, List.append_nil]
  simp (disch := omega) only [c80d, go_sem, wrap64_id, Int.tdiv_eq_ediv_of_nonneg, Int.tmod_eq_emod_of_nonneg]
  repeat' first
    | ((first | refine fnQ_pure1 ?_ ?_ | refine fnQ_pure0 ?_ ?_); (next => repeat' first | exact rvs_n | refine rvs_t ?_ | (simp [go_sem]; done)); simp only [go_sem]; (first | exact VLe.refl _ | refine VLe_int ?_ | refine VLe_bool ?_ | refine VLe_str ?_ | skip))
    | (with_reducible refine And.intro ?_ ?_)
    | with_reducible intro _
  all_goals first
    | omega
    | grind [kindI]
end HY

import Derived.Test.YtpnjpjibccmkiaaAfI
import Derived.Test.YtpnjpjibccmkiaaPgCode
import Derived.Test.YtpnjpjibccmkiaaPgCode2
import Derived.Test.YtpnjpjibccmkiaaPgM3
set_option linter.all false
set_option linter.unusedSimpArgs false
set_option linter.unusedVariables false
set_option linter.unusedSectionVars false
open Go Go.Proofs AF P48
set_option maxRecDepth 100000
abbrev It := P48.Item
def itemC (x : It) : List AV := [.int .i64 x.kind, .int .i64 x.width, .int .i64 x.stretch, .int .i64 x.shrink, .int .i64 x.penalty, .str x.text]
def items (l : List It) : AV := .sl l.length fun i => itemC (it l i)
def ints (l : List Int) : AV := .sl l.length fun i => [.int .i64 (l.getD i 0)]

theorem flag_items (l : List It) : (items l).flag = true := rfl
theorem strip_items (l : List It) : (items l).strip = items l := rfl
theorem flag_ints (l : List Int) : (ints l).flag = true := rfl
theorem strip_ints (l : List Int) : (ints l).strip = ints l := rfl
attribute [go_sem] flag_items strip_items flag_ints strip_ints

theorem t63 (n : Int) (h : List AObj) : ACalls Try.prog 63 [.int .i64 n] h (.bool (isLen n)) h := by
  refine acalls_of fn63 (by simp) ?_
  simp only [List.length_cons, List.length_nil, Nat.reduceAdd, Nat.reduceSub, List.replicate, List.cons_append, List.nil_append, List.append_nil]
  simp (disch := omega) only [c63, go_sem, wrap64_id, Int.tdiv_eq_ediv_of_nonneg, Int.tmod_eq_emod_of_nonneg]
  repeat' first
    | ((first | refine fnQ_pure1 (by first | exact ⟨trivial, trivial⟩ | exact ⟨trivial, trivial, trivial⟩ | exact ⟨trivial, trivial, trivial, trivial⟩ | simp [go_sem]) ?_ | refine fnQ_pure0 (by first | exact ⟨trivial, trivial⟩ | exact ⟨trivial, trivial, trivial⟩ | exact ⟨trivial, trivial, trivial, trivial⟩ | simp [go_sem]) ?_); simp only [go_sem]; (first | exact VLe.refl _ | refine VLe_int ?_ | refine VLe_bool ?_ | refine VLe_str ?_ | skip))
    | (with_reducible refine And.intro ?_ ?_)
    | with_reducible intro _
theorem t68 (n : Int) (h : List AObj) : ACalls Try.prog 68 [.int .i64 n] h (.bool (isLen n)) h := by
  refine acalls_of fn68 (by simp) ?_
  simp only [List.length_cons, List.length_nil, Nat.reduceAdd, Nat.reduceSub, List.replicate, List.cons_append, List.nil_append, List.append_nil]
  simp (disch := omega) only [c68, go_sem, wrap64_id, Int.tdiv_eq_ediv_of_nonneg, Int.tmod_eq_emod_of_nonneg]
  repeat' first
    | ((first | refine fnQ_pure1 (by first | exact ⟨trivial, trivial⟩ | exact ⟨trivial, trivial, trivial⟩ | exact ⟨trivial, trivial, trivial, trivial⟩ | simp [go_sem]) ?_ | refine fnQ_pure0 (by first | exact ⟨trivial, trivial⟩ | exact ⟨trivial, trivial, trivial⟩ | exact ⟨trivial, trivial, trivial, trivial⟩ | simp [go_sem]) ?_); simp only [go_sem]; (first | exact VLe.refl _ | refine VLe_int ?_ | refine VLe_bool ?_ | refine VLe_str ?_ | skip))
    | (with_reducible refine And.intro ?_ ?_)
    | with_reducible intro _
theorem t72 (x : It) (h : List AObj) : ACalls Try.prog 72 [.agg (itemC x)] h (.int .i64 (checkItem x)) h := by
  refine acalls_of fn72 (by simp) ?_
  simp only [List.length_cons, List.length_nil, Nat.reduceAdd, Nat.reduceSub, List.replicate, List.cons_append, List.nil_append, List.append_nil]
  simp (disch := omega) only [c72, itemC, go_sem, wrap64_id, Int.tdiv_eq_ediv_of_nonneg, Int.tmod_eq_emod_of_nonneg]
  repeat' first
    | (refine callA_pure (t63 _ _) (by first | exact ⟨rfl, trivial⟩ | exact ⟨rfl, rfl, trivial⟩ | exact ⟨rfl, rfl, rfl, trivial⟩ | exact ⟨rfl, rfl, rfl, rfl, trivial⟩ | simp only [go_sem]) ?_; simp (disch := omega) only [go_sem, wrap64_id, Int.tdiv_eq_ediv_of_nonneg, Int.tmod_eq_emod_of_nonneg])
    | (refine callG_pure (fun e => ⟨by first | exact ⟨rfl, trivial⟩ | exact ⟨e, trivial⟩ | exact ⟨e, e, trivial⟩ | exact ⟨rfl, rfl, trivial⟩ | exact ⟨e, e, e, trivial⟩ | simp_all only [go_sem], t63 _ _⟩) ?_; simp (disch := omega) only [go_sem, wrap64_id, Int.tdiv_eq_ediv_of_nonneg, Int.tmod_eq_emod_of_nonneg])
    | ((first | refine fnQ_pure1 (by first | exact ⟨trivial, trivial⟩ | exact ⟨trivial, trivial, trivial⟩ | exact ⟨trivial, trivial, trivial, trivial⟩ | simp [go_sem]) ?_ | refine fnQ_pure0 (by first | exact ⟨trivial, trivial⟩ | exact ⟨trivial, trivial, trivial⟩ | exact ⟨trivial, trivial, trivial, trivial⟩ | simp [go_sem]) ?_); simp only [go_sem]; (first | exact VLe.refl _ | refine VLe_int ?_ | refine VLe_bool ?_ | refine VLe_str ?_ | skip))
    | (with_reducible refine And.intro ?_ ?_)
    | with_reducible intro _
  all_goals first
    | omega
    | grind [checkItem]
theorem t43 (l : List It) (i : Nat) (h : List AObj) : ACalls Try.prog 43 [items l, .int .i64 i] h (.bool (forced l i)) h := by
  refine acalls_of fn43 (by simp) ?_
  simp only [List.length_cons, List.length_nil, Nat.reduceAdd, Nat.reduceSub, List.replicate, List.cons_append, List.nil_append, List.append_nil]
  simp (disch := omega) only [c43, items, itemC, go_sem, wrap64_id, Int.tdiv_eq_ediv_of_nonneg, Int.tmod_eq_emod_of_nonneg]
  repeat' first
    | ((first | refine fnQ_pure1 (by first | exact ⟨trivial, trivial⟩ | exact ⟨trivial, trivial, trivial⟩ | exact ⟨trivial, trivial, trivial, trivial⟩ | simp [go_sem]) ?_ | refine fnQ_pure0 (by first | exact ⟨trivial, trivial⟩ | exact ⟨trivial, trivial, trivial⟩ | exact ⟨trivial, trivial, trivial, trivial⟩ | simp [go_sem]) ?_); simp only [go_sem]; (first | exact VLe.refl _ | refine VLe_int ?_ | refine VLe_bool ?_ | refine VLe_str ?_ | skip))
    | (with_reducible refine And.intro ?_ ?_)
    | with_reducible intro _
  all_goals first
    | omega
    | grind [forced]
theorem t42 (l : List It) (i : Nat) (h : List AObj) (hi : i ≤ l.length) (hl : l.length ≤ 100000) : ACalls Try.prog 42 [items l, .int .i64 i] h (.bool (ends l i)) h := by
  refine acalls_of fn42 (by simp) ?_
  simp only [List.length_cons, List.length_nil, Nat.reduceAdd, Nat.reduceSub, List.replicate, List.cons_append, List.nil_append, List.append_nil]
  simp (disch := omega) only [c42, items, itemC, go_sem, wrap64_id, Int.tdiv_eq_ediv_of_nonneg, Int.tmod_eq_emod_of_nonneg]
  repeat' first
    | ((first | refine fnQ_pure1 (by first | exact ⟨trivial, trivial⟩ | exact ⟨trivial, trivial, trivial⟩ | exact ⟨trivial, trivial, trivial, trivial⟩ | simp [go_sem]) ?_ | refine fnQ_pure0 (by first | exact ⟨trivial, trivial⟩ | exact ⟨trivial, trivial, trivial⟩ | exact ⟨trivial, trivial, trivial, trivial⟩ | simp [go_sem]) ?_); simp only [go_sem]; (first | exact VLe.refl _ | refine VLe_int ?_ | refine VLe_bool ?_ | refine VLe_str ?_ | skip))
    | (with_reducible refine And.intro ?_ ?_)
    | with_reducible intro _
  all_goals try simp only [show ((i : Int) - 1).toNat = i - 1 by omega] at *
  all_goals first
    | omega
    | grind [ends]
theorem t45 (l : List It) (i : Nat) (h : List AObj) : ACalls Try.prog 45 [items l, .int .i64 i] h (.int .i64 (penalty l i)) h := by
  refine acalls_of fn45 (by simp) ?_
  simp only [List.length_cons, List.length_nil, Nat.reduceAdd, Nat.reduceSub, List.replicate, List.cons_append, List.nil_append, List.append_nil]
  simp (disch := omega) only [c45, items, itemC, go_sem, wrap64_id, Int.tdiv_eq_ediv_of_nonneg, Int.tmod_eq_emod_of_nonneg]
  repeat' first
    | (refine callA_pure (t43 l i _) (by first | exact ⟨rfl, trivial⟩ | exact ⟨rfl, rfl, trivial⟩ | exact ⟨rfl, rfl, rfl, trivial⟩ | exact ⟨rfl, rfl, rfl, rfl, trivial⟩ | simp only [go_sem]) ?_; simp (disch := omega) only [go_sem, wrap64_id, Int.tdiv_eq_ediv_of_nonneg, Int.tmod_eq_emod_of_nonneg])
    | (refine callG_pure (fun e => ⟨by first | exact ⟨rfl, trivial⟩ | exact ⟨e, trivial⟩ | exact ⟨e, e, trivial⟩ | exact ⟨rfl, rfl, trivial⟩ | exact ⟨e, e, e, trivial⟩ | simp_all only [go_sem], t43 l i _⟩) ?_; simp (disch := omega) only [go_sem, wrap64_id, Int.tdiv_eq_ediv_of_nonneg, Int.tmod_eq_emod_of_nonneg])
    | ((first | refine fnQ_pure1 (by first | exact ⟨trivial, trivial⟩ | exact ⟨trivial, trivial, trivial⟩ | exact ⟨trivial, trivial, trivial, trivial⟩ | simp [go_sem]) ?_ | refine fnQ_pure0 (by first | exact ⟨trivial, trivial⟩ | exact ⟨trivial, trivial, trivial⟩ | exact ⟨trivial, trivial, trivial, trivial⟩ | simp [go_sem]) ?_); simp only [go_sem]; (first | exact VLe.refl _ | refine VLe_int ?_ | refine VLe_bool ?_ | refine VLe_str ?_ | skip))
    | (with_reducible refine And.intro ?_ ?_)
    | with_reducible intro _
  all_goals first
    | omega
    | grind [penalty, atBreak, forced]
theorem t41 (n : Nat) (p : List Int) (i : Nat) (h : List AObj) (hp : p.length = n + 1) (hi : i ≤ n) (hn : n ≤ 1000000) : ACalls Try.prog 41 [ints p, .int .i64 i] h (.int .i64 (behind n p i)) h := by
  refine acalls_of fn41 (by simp) ?_
  simp only [List.length_cons, List.length_nil, Nat.reduceAdd, Nat.reduceSub, List.replicate, List.cons_append, List.nil_append, List.append_nil]
  simp (disch := omega) only [c41, ints, go_sem, wrap64_id, Int.tdiv_eq_ediv_of_nonneg, Int.tmod_eq_emod_of_nonneg]
  repeat' first
    | ((first | refine fnQ_pure1 (by first | exact ⟨trivial, trivial⟩ | exact ⟨trivial, trivial, trivial⟩ | exact ⟨trivial, trivial, trivial, trivial⟩ | simp [go_sem]) ?_ | refine fnQ_pure0 (by first | exact ⟨trivial, trivial⟩ | exact ⟨trivial, trivial, trivial⟩ | exact ⟨trivial, trivial, trivial, trivial⟩ | simp [go_sem]) ?_); simp only [go_sem]; (first | exact VLe.refl _ | refine VLe_int ?_ | refine VLe_bool ?_ | refine VLe_str ?_ | skip))
    | (with_reducible refine And.intro ?_ ?_)
    | with_reducible intro _
  all_goals try simp only [show ((i : Int) + 1).toNat = i + 1 by omega] at *
  all_goals first
    | omega
    | grind [behind]
theorem t75 (l : List It) (a b : Nat) (h : List AObj) (hab : a ≤ b) (hb : b ≤ l.length) (hl : l.length ≤ 100000) : ACalls Try.prog 75 [items l, .int .i64 a, .int .i64 b] h (.int .i64 (begin_ l a b)) h := by
  refine acalls_of fn75 (by simp) ?_
  simp only [List.length_cons, List.length_nil, Nat.reduceAdd, Nat.reduceSub, List.replicate, List.cons_append, List.nil_append, List.append_nil]
  simp (disch := omega) only [c75, items, itemC, go_sem, wrap64_id, Int.tdiv_eq_ediv_of_nonneg, Int.tmod_eq_emod_of_nonneg]
  refine loop_of (T := fun i : Nat => spar 21 [(0, items l), (1, .int .i64 i), (2, .int .i64 b)]) (H := fun _ => h) (inv := fun i => i ≤ b ∧ beginGo l (b - i) i = begin_ l a b) (m := fun i => b - i) a ⟨hab, rfl⟩ (Wk.temps ?_) ?_
  · simp only [items, itemC, spar, List.foldl, List.replicate, go_sem, VLes_nil, VLes_cons, VLe_undef_iff, VLe_self]
    try (repeat' first | (with_reducible refine And.intro ?_ ?_) | (refine VLe_int ?_; omega) | (refine VLe_bool ?_; rfl))
  · rintro i ⟨hi1, hi⟩ K hK
    simp (disch := omega) only [spar, items, itemC, List.foldl, List.replicate, go_sem, wrap64_id, Int.tdiv_eq_ediv_of_nonneg, Int.tmod_eq_emod_of_nonneg]
    repeat' first
      | ((first | refine fnQ_pure1 (by first | exact ⟨trivial, trivial⟩ | exact ⟨trivial, trivial, trivial⟩ | exact ⟨trivial, trivial, trivial, trivial⟩ | simp [go_sem]) ?_ | refine fnQ_pure0 (by first | exact ⟨trivial, trivial⟩ | exact ⟨trivial, trivial, trivial⟩ | exact ⟨trivial, trivial, trivial, trivial⟩ | simp [go_sem]) ?_); simp only [go_sem]; (first | exact VLe.refl _ | refine VLe_int ?_ | refine VLe_bool ?_ | refine VLe_str ?_ | skip))
      | (with_reducible refine And.intro ?_ ?_)
      | with_reducible intro _
    all_goals first
      | omega
      | skip
    · rename_i h1
      refine hK _ _ (i + 1) ⟨by omega, ?_⟩ (by omega) (Wk.temps ?_)
      · rw [show b - i = b - (i + 1) + 1 by omega] at hi
        simpa [beginGo, h1.2] using hi
      · simp only [items, itemC, spar, List.foldl, List.replicate, go_sem, VLes_nil, VLes_cons, VLe_undef_iff, VLe_self]
        try (repeat' first | (with_reducible refine And.intro ?_ ?_) | (refine VLe_int ?_; omega) | (refine VLe_bool ?_; rfl))
    · rename_i h1
      rw [← hi]
      by_cases e : i < b
      · rw [show b - i = b - (i + 1) + 1 by omega]
        simp [beginGo, h1 (by omega)]
      · rw [show b - i = 0 by omega]; rfl

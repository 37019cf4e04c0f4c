import Derived.Test.YtbccfgnihmfgmaaG2
import Derived.Test.YtbccfgnihmfgmaaH4
import Derived.Test.YtbccfgnihmfgmaaH3
set_option linter.all false
set_option linter.unusedSimpArgs false
set_option linter.unusedVariables false
set_option linter.unusedSectionVars false
section
/-! the text W1 -/
open Go Go.Proofs AF P48
set_option maxRecDepth 100000
abbrev It := P48.Item
def itemC (x : It) : List AV := [.int .i64 x.kind, .int .i64 x.width, .int .i64 x.stretch, .int .i64 x.shrink, .int .i64 x.penalty, .str x.text]
def items (l : List It) : AV := .sl l.length fun i => itemC (it l i)
def ints (l : List Int) : AV := .sl l.length fun i => [.int .i64 (l.getD i 0)]

theorem flag_items (l : List It) : (items l).flag = true := rfl
theorem strip_items (l : List It) : (items l).strip = items l := rfl
theorem flag_ints (l : List Int) : (ints l).flag = true := rfl
theorem strip_ints (l : List Int) : (ints l).strip = ints l := rfl
attribute [go_sem] flag_items strip_items flag_ints strip_ints

theorem t63 (n : Int) (h : List AObj) : ACalls Try.prog 63 [.int .i64 n] h (.bool (isLen n)) h := by
  refine acalls_of fn63 (by simp) ?_
  simp only [List.length_cons, List.length_nil, Nat.reduceAdd, Nat.reduceSub, List.replicate, List.cons_append, List.nil_append, List.append_nil]
  simp (disch := omega) only [c63, go_sem, wrap64_id, Int.tdiv_eq_ediv_of_nonneg, Int.tmod_eq_emod_of_nonneg]
  repeat' first
    | ((first | refine fnQ_pure1 ?_ ?_ | refine fnQ_pure0 ?_ ?_); (next => repeat' first | exact rvs_n | refine rvs_t ?_ | (simp [go_sem]; done)); simp only [go_sem]; (first | exact VLe.refl _ | refine VLe_int ?_ | refine VLe_bool ?_ | refine VLe_str ?_ | skip))
    | (with_reducible refine And.intro ?_ ?_)
    | with_reducible intro _
theorem t68 (n : Int) (h : List AObj) : ACalls Try.prog 68 [.int .i64 n] h (.bool (isLen n)) h := by
  refine acalls_of fn68 (by simp) ?_
  simp only [List.length_cons, List.length_nil, Nat.reduceAdd, Nat.reduceSub, List.replicate, List.cons_append, List.nil_append, List.append_nil]
  simp (disch := omega) only [c68, go_sem, wrap64_id, Int.tdiv_eq_ediv_of_nonneg, Int.tmod_eq_emod_of_nonneg]
  repeat' first
    | ((first | refine fnQ_pure1 ?_ ?_ | refine fnQ_pure0 ?_ ?_); (next => repeat' first | exact rvs_n | refine rvs_t ?_ | (simp [go_sem]; done)); simp only [go_sem]; (first | exact VLe.refl _ | refine VLe_int ?_ | refine VLe_bool ?_ | refine VLe_str ?_ | skip))
    | (with_reducible refine And.intro ?_ ?_)
    | with_reducible intro _
theorem t72 (x : It) (h : List AObj) : ACalls Try.prog 72 [.agg (itemC x)] h (.int .i64 (checkItem x)) h := by
  refine acalls_of fn72 (by simp) ?_
  simp only [List.length_cons, List.length_nil, Nat.reduceAdd, Nat.reduceSub, List.replicate, List.cons_append, List.nil_append, List.append_nil]
  simp (disch := omega) only [c72, itemC, go_sem, wrap64_id, Int.tdiv_eq_ediv_of_nonneg, Int.tmod_eq_emod_of_nonneg]
  repeat' first
    | ((first | refine callA_pure (t63 _ _) ?_ ?_); (next => repeat' first | exact flags_n | refine flags_c (by first | rfl | assumption) ?_); simp (disch := omega) only [go_sem, wrap64_id, Int.tdiv_eq_ediv_of_nonneg, Int.tmod_eq_emod_of_nonneg])
    | ((first | refine callG_pure (fun e => ⟨?_, t63 _ _⟩) ?_); (next => repeat' first | exact flags_n | refine flags_c (by first | rfl | assumption) ?_); simp (disch := omega) only [go_sem, wrap64_id, Int.tdiv_eq_ediv_of_nonneg, Int.tmod_eq_emod_of_nonneg])
    | ((first | refine fnQ_pure1 ?_ ?_ | refine fnQ_pure0 ?_ ?_); (next => repeat' first | exact rvs_n | refine rvs_t ?_ | (simp [go_sem]; done)); simp only [go_sem]; (first | exact VLe.refl _ | refine VLe_int ?_ | refine VLe_bool ?_ | refine VLe_str ?_ | skip))
    | (with_reducible refine And.intro ?_ ?_)
    | with_reducible intro _
  all_goals first
    | omega
    | grind [checkItem]
theorem t43 (l : List It) (i : Nat) (h : List AObj) : ACalls Try.prog 43 [items l, .int .i64 i] h (.bool (forced l i)) h := by
  refine acalls_of fn43 (by simp) ?_
  simp only [List.length_cons, List.length_nil, Nat.reduceAdd, Nat.reduceSub, List.replicate, List.cons_append, List.nil_append, List.append_nil]
  simp (disch := omega) only [c43, items, itemC, go_sem, wrap64_id, Int.tdiv_eq_ediv_of_nonneg, Int.tmod_eq_emod_of_nonneg]
  repeat' first
    | ((first | refine fnQ_pure1 ?_ ?_ | refine fnQ_pure0 ?_ ?_); (next => repeat' first | exact rvs_n | refine rvs_t ?_ | (simp [go_sem]; done)); simp only [go_sem]; (first | exact VLe.refl _ | refine VLe_int ?_ | refine VLe_bool ?_ | refine VLe_str ?_ | skip))
    | (with_reducible refine And.intro ?_ ?_)
    | with_reducible intro _
  all_goals first
    | omega
    | grind [forced]
theorem t42 (l : List It) (i : Nat) (h : List AObj) (hi : i ≤ l.length) (hl : l.length ≤ 100000) : ACalls Try.prog 42 [items l, .int .i64 i] h (.bool (ends l i)) h := by
  refine acalls_of fn42 (by simp) ?_
  simp only [List.length_cons, List.length_nil, Nat.reduceAdd, Nat.reduceSub, List.replicate, List.cons_append, List.nil_append, List.append_nil]
  simp (disch := omega) only [c42, items, itemC, go_sem, wrap64_id, Int.tdiv_eq_ediv_of_nonneg, Int.tmod_eq_emod_of_nonneg]
  repeat' first
    | ((first | refine fnQ_pure1 ?_ ?_ | refine fnQ_pure0 ?_ ?_); (next => repeat' first | exact rvs_n | refine rvs_t ?_ | (simp [go_sem]; done)); simp only [go_sem]; (first | exact VLe.refl _ | refine VLe_int ?_ | refine VLe_bool ?_ | refine VLe_str ?_ | skip))
    | (with_reducible refine And.intro ?_ ?_)
    | with_reducible intro _
  all_goals try simp only [show ((i : Int) - 1).toNat = i - 1 by omega] at *
  all_goals first
    | omega
    | grind [ends]
theorem t45 (l : List It) (i : Nat) (h : List AObj) : ACalls Try.prog 45 [items l, .int .i64 i] h (.int .i64 (penalty l i)) h := by
  refine acalls_of fn45 (by simp) ?_
  simp only [List.length_cons, List.length_nil, Nat.reduceAdd, Nat.reduceSub, List.replicate, List.cons_append, List.nil_append, List.append_nil]
  simp (disch := omega) only [c45, items, itemC, go_sem, wrap64_id, Int.tdiv_eq_ediv_of_nonneg, Int.tmod_eq_emod_of_nonneg]
  repeat' first
    | ((first | refine callA_pure (t43 l i _) ?_ ?_); (next => repeat' first | exact flags_n | refine flags_c (by first | rfl | assumption) ?_); simp (disch := omega) only [go_sem, wrap64_id, Int.tdiv_eq_ediv_of_nonneg, Int.tmod_eq_emod_of_nonneg])
    | ((first | refine callG_pure (fun e => ⟨?_, t43 l i _⟩) ?_); (next => repeat' first | exact flags_n | refine flags_c (by first | rfl | assumption) ?_); simp (disch := omega) only [go_sem, wrap64_id, Int.tdiv_eq_ediv_of_nonneg, Int.tmod_eq_emod_of_nonneg])
    | ((first | refine fnQ_pure1 ?_ ?_ | refine fnQ_pure0 ?_ ?_); (next => repeat' first | exact rvs_n | refine rvs_t ?_ | (simp [go_sem]; done)); simp only [go_sem]; (first | exact VLe.refl _ | refine VLe_int ?_ | refine VLe_bool ?_ | refine VLe_str ?_ | skip))
    | (with_reducible refine And.intro ?_ ?_)
    | with_reducible intro _
  all_goals first
    | omega
    | grind [penalty, atBreak, forced]
theorem t41 (n : Nat) (p : List Int) (i : Nat) (h : List AObj) (hp : p.length = n + 1) (hi : i ≤ n) (hn : n ≤ 1000000) : ACalls Try.prog 41 [ints p, .int .i64 i] h (.int .i64 (behind n p i)) h := by
  refine acalls_of fn41 (by simp) ?_
  simp only [List.length_cons, List.length_nil, Nat.reduceAdd, Nat.reduceSub, List.replicate, List.cons_append, List.nil_append, List.append_nil]
  simp (disch := omega) only [c41, ints, go_sem, wrap64_id, Int.tdiv_eq_ediv_of_nonneg, Int.tmod_eq_emod_of_nonneg]
  repeat' first
    | ((first | refine fnQ_pure1 ?_ ?_ | refine fnQ_pure0 ?_ ?_); (next => repeat' first | exact rvs_n | refine rvs_t ?_ | (simp [go_sem]; done)); simp only [go_sem]; (first | exact VLe.refl _ | refine VLe_int ?_ | refine VLe_bool ?_ | refine VLe_str ?_ | skip))
    | (with_reducible refine And.intro ?_ ?_)
    | with_reducible intro _
  all_goals try simp only [show ((i : Int) + 1).toNat = i + 1 by omega] at *
  all_goals first
    | omega
    | grind [behind]
theorem t75 (l : List It) (a b : Nat) (h : List AObj) (hab : a ≤ b) (hb : b ≤ l.length) (hl : l.length ≤ 100000) : ACalls Try.prog 75 [items l, .int .i64 a, .int .i64 b] h (.int .i64 (begin_ l a b)) h := by
  refine acalls_of fn75 (by simp) ?_
  simp only [List.length_cons, List.length_nil, Nat.reduceAdd, Nat.reduceSub, List.replicate, List.cons_append, List.nil_append, List.append_nil]
  simp (disch := omega) only [c75, items, itemC, go_sem, wrap64_id, Int.tdiv_eq_ediv_of_nonneg, Int.tmod_eq_emod_of_nonneg]
  refine loop_of (T := fun i : Nat => spar 21 [(0, items l), (1, .int .i64 i), (2, .int .i64 b)]) (H := fun _ => h) (inv := fun i => i ≤ b ∧ beginGo l (b - i) i = begin_ l a b) (m := fun i => b - i) a ⟨hab, rfl⟩ (Wk.temps ?_) ?_
  · simp only [items, itemC, spar, List.foldl, List.replicate, go_sem, VLes_nil, VLes_cons, VLe_undef_iff, VLe_self]
    try (repeat' first | (with_reducible refine And.intro ?_ ?_) | (refine VLe_int ?_; omega) | (refine VLe_bool ?_; rfl))
  · rintro i ⟨hi1, hi⟩ K hK
    simp (disch := omega) only [spar, items, itemC, List.foldl, List.replicate, go_sem, wrap64_id, Int.tdiv_eq_ediv_of_nonneg, Int.tmod_eq_emod_of_nonneg]
    repeat' first
      | ((first | refine fnQ_pure1 ?_ ?_ | refine fnQ_pure0 ?_ ?_); (next => repeat' first | exact rvs_n | refine rvs_t ?_ | (simp [go_sem]; done)); simp only [go_sem]; (first | exact VLe.refl _ | refine VLe_int ?_ | refine VLe_bool ?_ | refine VLe_str ?_ | skip))
      | (with_reducible refine And.intro ?_ ?_)
      | with_reducible intro _
    all_goals first
      | omega
      | skip
    · rename_i h1
      refine hK _ _ (i + 1) ⟨by omega, ?_⟩ (by omega) (Wk.temps ?_)
      · rw [show b - i = b - (i + 1) + 1 by omega] at hi
        simpa [beginGo, h1.2] using hi
      · simp only [items, itemC, spar, List.foldl, List.replicate, go_sem, VLes_nil, VLes_cons, VLe_undef_iff, VLe_self]
        try (repeat' first | (with_reducible refine And.intro ?_ ?_) | (refine VLe_int ?_; omega) | (refine VLe_bool ?_; rfl))
    · rename_i h1
      rw [← hi]
      by_cases e : i < b
      · rw [show b - i = b - (i + 1) + 1 by omega]
        simp [beginGo, h1 (by omega)]
      · rw [show b - i = 0 by omega]; rfl
end

section
/-! the text W2 -/
open Go Go.Proofs AF P48
set_option maxRecDepth 100000

theorem wrapu_id {n : Int} (h0 : 0 ≤ n) (h1 : n < 18446744073709551616) : IntKind.u64.wrap n = n := by
  have e1 : (2 : Int) ^ IntKind.bits IntKind.u64 = 18446744073709551616 := rfl
  have e3 : IntKind.signed IntKind.u64 = false := rfl
  unfold IntKind.wrap
  rw [e1, e3]
  simp only [Bool.false_and, Bool.false_eq_true, if_false]
  omega
theorem wrapu_mod (n : Int) : IntKind.u64.wrap n = n % 18446744073709551616 := by
  have e1 : (2 : Int) ^ IntKind.bits IntKind.u64 = 18446744073709551616 := rfl
  have e3 : IntKind.signed IntKind.u64 = false := rfl
  unfold IntKind.wrap
  rw [e1, e3]
  simp only [Bool.false_and, Bool.false_eq_true, if_false]
theorem and_mask {a : Int} (h0 : 0 ≤ a) (h1 : a < 18446744073709551616) : andK .u64 a 4294967295 = a % 4294967296 := by
  obtain ⟨n, rfl⟩ := Int.eq_ofNat_of_zero_le h0
  have e : IntKind.u64.bits = 64 := rfl
  unfold andK
  rw [e, BitVec.toNat_and, BitVec.toNat_ofInt, BitVec.toNat_ofInt]
  have e2 : ((n : Int) % ((2 ^ 64 : Nat) : Int)).toNat = n := by
    rw [show ((2 ^ 64 : Nat) : Int) = 18446744073709551616 by rfl]; omega
  have e3 : ((4294967295 : Int) % ((2 ^ 64 : Nat) : Int)).toNat = 2 ^ 32 - 1 := by rfl
  rw [e2, e3, Nat.and_two_pow_sub_one_eq_mod, wrapu_id (by omega) (by omega)]
  omega
theorem shr_32 {a : Int} : shrK .u64 a 32 = a / 4294967296 := by
  have e : (2 : Int) ^ (min (32 : Int).toNat IntKind.u64.bits) = 4294967296 := rfl
  unfold shrK
  rw [e, Int.fdiv_eq_ediv_of_nonneg _ (by omega)]

theorem mul_bound {a b : Int} (h0 : 0 ≤ a) (h1 : a < 4294967296) (h2 : 0 ≤ b) (h3 : b < 4294967296) : 0 ≤ a * b ∧ a * b ≤ 18446744065119617025 := by
  refine ⟨Int.mul_nonneg h0 h2, ?_⟩
  have := Int.mul_le_mul (show a ≤ 4294967295 by omega) (show b ≤ 4294967295 by omega) h2 (by omega)
  omega

theorem div_of {a b : Int} (h0 : 0 ≤ b) (h1 : b < 4294967296) : (a * 4294967296 + b) / 4294967296 = a := by omega
theorem mod_of {a b : Int} (h0 : 0 ≤ b) (h1 : b < 4294967296) : (a * 4294967296 + b) % 4294967296 = b := by omega
theorem t133a (a b c d : Int) (h : List AObj) (a0 : 0 ≤ a) (a1 : a < 4294967296) (b0 : 0 ≤ b) (b1 : b < 4294967296) (c0 : 0 ≤ c) (c1 : c < 4294967296) (d0 : 0 ≤ d) (d1 : d < 4294967296) :
    ACalls Try.prog 133 [.int .u64 (a * 4294967296 + b), .int .u64 (c * 4294967296 + d)] h (.tup [.int .u64 (a * c + (a * d + b * d / 4294967296) / 4294967296 + ((a * d + b * d / 4294967296) % 4294967296 + b * c) / 4294967296), .int .u64 (IntKind.u64.wrap ((a * 4294967296 + b) * (c * 4294967296 + d)))]) h := by
  have p00 := mul_bound b0 b1 d0 d1
  have p10 := mul_bound a0 a1 d0 d1
  have p01 := mul_bound b0 b1 c0 c1
  have p11 := mul_bound a0 a1 c0 c1
  refine acalls_of fn133 (by simp) ?_
  simp only [List.length_cons, List.length_nil, Nat.reduceAdd, Nat.reduceSub, List.replicate, List.cons_append, List.nil_append, List.append_nil]
  simp only [c133, go_sem]
  repeat' first
    | ((first | refine fnQ_pure1 ?_ ?_ | refine fnQ_pure0 ?_ ?_); (next => repeat' first | exact rvs_n | refine rvs_t ?_ | (simp [go_sem]; done)); simp only [go_sem]; (first | exact VLe.refl _ | refine VLe_int ?_ | refine VLe_bool ?_ | refine VLe_str ?_ | skip))
    | (with_reducible refine And.intro ?_ ?_)
    | with_reducible intro _
  all_goals first
    | omega
    | skip
  simp (disch := omega) only [and_mask, shr_32, div_of, mod_of, wrapu_id]
  exact VLe.refl _
theorem t133 (x y : Int) (h : List AObj) (hx0 : 0 ≤ x) (hx1 : x < 18446744073709551616) (hy0 : 0 ≤ y) (hy1 : y < 18446744073709551616) :
    ACalls Try.prog 133 [.int .u64 x, .int .u64 y] h (.tup [.int .u64 (x * y / 18446744073709551616), .int .u64 (x * y % 18446744073709551616)]) h := by
  have := t133a (x / 4294967296) (x % 4294967296) (y / 4294967296) (y % 4294967296) h (by omega) (by omega) (by omega) (by omega) (by omega) (by omega) (by omega) (by omega)
  rw [show x / 4294967296 * 4294967296 + x % 4294967296 = x by omega, show y / 4294967296 * 4294967296 + y % 4294967296 = y by omega, wrapu_mod] at this
  have e : x * y = (x / 4294967296) * (y / 4294967296) * 18446744073709551616 + ((x / 4294967296) * (y % 4294967296) + (x % 4294967296) * (y / 4294967296)) * 4294967296 + (x % 4294967296) * (y % 4294967296) := by
    have ex : x = x / 4294967296 * 4294967296 + x % 4294967296 := by omega
    have ey : y = y / 4294967296 * 4294967296 + y % 4294967296 := by omega
    generalize x / 4294967296 = a at *
    generalize x % 4294967296 = b at *
    generalize y / 4294967296 = c at *
    generalize y % 4294967296 = d at *
    subst ex ey
    grind
  have p00 := mul_bound (a := x % 4294967296) (b := y % 4294967296) (by omega) (by omega) (by omega) (by omega)
  have e2 : x * y / 18446744073709551616 = (x / 4294967296) * (y / 4294967296) + ((x / 4294967296) * (y % 4294967296) + (x % 4294967296) * (y % 4294967296) / 4294967296) / 4294967296 + (((x / 4294967296) * (y % 4294967296) + (x % 4294967296) * (y % 4294967296) / 4294967296) % 4294967296 + (x % 4294967296) * (y / 4294967296)) / 4294967296 := by
    generalize (x / 4294967296) * (y / 4294967296) = q11 at *
    generalize (x / 4294967296) * (y % 4294967296) = q10 at *
    generalize (x % 4294967296) * (y / 4294967296) = q01 at *
    generalize (x % 4294967296) * (y % 4294967296) = q00 at *
    clear this
    omega
  rw [e2]
  exact this
def wide (v : Int) : AV := .agg [.int .u64 (v / 18446744073709551616), .int .u64 (v % 18446744073709551616)]
theorem t121 (v n : Int) (h : List AObj) (h0 : 0 ≤ v) (h1 : v * n < 340282366920938463463374607431768211456) (hn0 : 0 ≤ n) (hn1 : n < 18446744073709551616) (hv : v < 340282366920938463463374607431768211456) :
    ACalls Try.prog 121 [wide v, .int .u64 n] h (wide (v * n)) h := by
  have p0 : 0 ≤ v / 18446744073709551616 * n := Int.mul_nonneg (by omega) hn0
  have p1 : 0 ≤ v % 18446744073709551616 * n := Int.mul_nonneg (by omega) hn0
  have e : v * n = v / 18446744073709551616 * n * 18446744073709551616 + v % 18446744073709551616 * n := by
    have ev : v = v / 18446744073709551616 * 18446744073709551616 + v % 18446744073709551616 := by omega
    generalize v / 18446744073709551616 = a at *
    generalize v % 18446744073709551616 = b at *
    subst ev
    grind
  refine acalls_of fn121 (by simp) ?_
  simp only [List.length_cons, List.length_nil, Nat.reduceAdd, Nat.reduceSub, List.replicate, List.cons_append, List.nil_append, List.append_nil]
  simp only [c121, wide, go_sem]
  repeat' first
    | (refine callA_pure (t133 _ _ _ (by omega) (by omega) hn0 hn1) ⟨rfl, rfl, trivial⟩ ?_; simp (disch := omega) only [go_sem, wrapu_id])
    | (with_reducible refine And.intro ?_ ?_)
    | (with_reducible intro _)
  all_goals first
    | omega
    | skip
  · repeat' first
      | ((first | refine fnQ_pure1 ?_ ?_ | refine fnQ_pure0 ?_ ?_); (next => repeat' first | exact rvs_n | refine rvs_t ?_ | (simp [go_sem]; done)); simp only [go_sem]; (first | exact VLe.refl _ | refine VLe_int ?_ | refine VLe_bool ?_ | refine VLe_str ?_ | skip))
      | (with_reducible refine And.intro ?_ ?_)
      | with_reducible intro _
    refine VLe_agg (VLes2 (VLe_int ?_) (VLes2 (VLe_int ?_) VLes.nil)) <;> omega
theorem t122 (v u : Int) (h : List AObj) (h0 : 0 ≤ v) (h1 : 0 ≤ u) : ACalls Try.prog 122 [wide v, wide u] h (.bool (decide (u < v))) h := by
  refine acalls_of fn122 (by simp) ?_
  simp only [List.length_cons, List.length_nil, Nat.reduceAdd, Nat.reduceSub, List.replicate, List.cons_append, List.nil_append, List.append_nil]
  simp (disch := omega) only [c122, wide, go_sem, wrap64_id, Int.tdiv_eq_ediv_of_nonneg, Int.tmod_eq_emod_of_nonneg]
  repeat' first
    | ((first | refine fnQ_pure1 ?_ ?_ | refine fnQ_pure0 ?_ ?_); (next => repeat' first | exact rvs_n | refine rvs_t ?_ | (simp [go_sem]; done)); simp only [go_sem]; (first | exact VLe.refl _ | refine VLe_int ?_ | refine VLe_bool ?_ | refine VLe_str ?_ | skip))
    | (with_reducible refine And.intro ?_ ?_)
    | with_reducible intro _
  all_goals first
    | omega
    | (rw [decide_eq_decide]; omega)
    | (rw [Bool.eq_iff_iff]; simp only [Bool.and_eq_true, Bool.or_eq_true, Bool.not_eq_true', decide_eq_true_eq, decide_eq_false_iff_not, Bool.and_eq_false_imp]; omega)

/-- The greatest number of which the first one is no more than the second one, up to 10000: found by halving. -/
theorem bad_div {c t lo hi : Int} (ht : 0 < t) (h0 : 0 ≤ lo) (h1 : hi ≤ 10001) (h2 : hi = lo + 1) (h3 : lo * t ≤ c) (h4 : hi = 10001 ∨ c < hi * t) : min 10000 (c / t) = lo := by
  subst h2
  have h5 : lo ≤ c / t := (Int.le_ediv_iff_mul_le ht).2 h3
  rcases h4 with h4 | h4
  · omega
  · have : c / t < lo + 1 := (Int.ediv_lt_iff_lt_mul ht).2 h4
    omega
theorem cube_bound {c : Int} (h0 : 0 ≤ c) (h1 : c ≤ 1073741824) : 0 ≤ c * c ∧ c * c ≤ 1152921504606846976 ∧ 0 ≤ c * c * c ∧ c * c * c ≤ 1237940039285380274899124224 := by
  have a1 := Int.mul_nonneg h0 h0
  have a2 := Int.mul_le_mul h1 h1 h0 (by omega)
  have a3 := Int.mul_nonneg a1 h0
  have a4 := Int.mul_le_mul (show c * c ≤ 1152921504606846976 by omega) h1 h0 (by omega)
  omega
theorem t96 (c t : Int) (h : List AObj) (hc0 : 0 ≤ c) (hc1 : c ≤ 1000000000000) (ht0 : -1000000000000 ≤ t) (ht1 : t ≤ 1000000000000) : ACalls Try.prog 96 [.int .i64 c, .int .i64 t] h (.int .i64 (badness c t)) h := by
  have ew : ∀ n : Int, 0 ≤ n → n < 18446744073709551616 → (AV.agg [.int .u64 0, .int .u64 n]) = wide n := by
    intro n h0 h1; unfold wide; rw [Int.ediv_eq_zero_of_lt h0 h1, Int.emod_eq_of_lt h0 h1]
  obtain ⟨C, hC⟩ : ∃ C, C = min c 1073741824 := ⟨_, rfl⟩
  obtain ⟨T, hT⟩ : ∃ T, T = min t 1073741824 := ⟨_, rfl⟩
  obtain ⟨b1, b2, b3, b4⟩ := cube_bound (c := C) (by omega) (by omega)
  by_cases c0 : c = 0
  · refine acalls_of fn96 (by simp) ?_
    simp only [List.length_cons, List.length_nil, Nat.reduceAdd, Nat.reduceSub, List.replicate, List.cons_append, List.nil_append, List.append_nil]
    simp (disch := omega) only [c96, wrapu_id, go_sem, wrap64_id, Int.tdiv_eq_ediv_of_nonneg, Int.tmod_eq_emod_of_nonneg]
    repeat' first
      | (with_reducible refine And.intro ?_ ?_)
      | (with_reducible intro _; first | (exfalso; omega) | skip)
    repeat' first
      | ((first | refine fnQ_pure1 ?_ ?_ | refine fnQ_pure0 ?_ ?_); (next => repeat' first | exact rvs_n | refine rvs_t ?_ | (simp [go_sem]; done)); simp only [go_sem]; (first | exact VLe.refl _ | refine VLe_int ?_ | refine VLe_bool ?_ | refine VLe_str ?_ | skip))
      | (with_reducible refine And.intro ?_ ?_)
      | with_reducible intro _
    · simp [badness, c0]
  by_cases t0 : t ≤ 0
  · refine acalls_of fn96 (by simp) ?_
    simp only [List.length_cons, List.length_nil, Nat.reduceAdd, Nat.reduceSub, List.replicate, List.cons_append, List.nil_append, List.append_nil]
    simp (disch := omega) only [c96, wrapu_id, go_sem, wrap64_id, Int.tdiv_eq_ediv_of_nonneg, Int.tmod_eq_emod_of_nonneg]
    repeat' first
      | (with_reducible refine And.intro ?_ ?_)
      | (with_reducible intro _; first | (exfalso; omega) | skip)
    repeat' first
      | ((first | refine fnQ_pure1 ?_ ?_ | refine fnQ_pure0 ?_ ?_); (next => repeat' first | exact rvs_n | refine rvs_t ?_ | (simp [go_sem]; done)); simp only [go_sem]; (first | exact VLe.refl _ | refine VLe_int ?_ | refine VLe_bool ?_ | refine VLe_str ?_ | skip))
      | (with_reducible refine And.intro ?_ ?_)
      | with_reducible intro _
    · simp [badness, c0, t0]
  obtain ⟨d1, d2, d3, d4⟩ := cube_bound (c := T) (by omega) (by omega)
  have cpos : 0 < C := by omega
  have tpos : 0 < T * T * T := Int.mul_pos (Int.mul_pos (by omega) (by omega)) (by omega)
  have hb : badness c t = min 10000 (C * C * C * 100 / (T * T * T)) := by
    unfold badness
    rw [if_neg c0, if_neg t0, show max c (-c) = c by omega, ← hC, ← hT]
    congr 2 <;> grind
  rw [hb]
  refine acalls_of fn96 (by simp) ?_
  simp only [List.length_cons, List.length_nil, Nat.reduceAdd, Nat.reduceSub, List.replicate, List.cons_append, List.nil_append, List.append_nil]
  simp (disch := omega) only [c96, wrapu_id, go_sem, wrap64_id, Int.tdiv_eq_ediv_of_nonneg, Int.tmod_eq_emod_of_nonneg]
  repeat' first
    | (with_reducible refine And.intro ?_ ?_)
    | (with_reducible intro _; first | (exfalso; omega) | skip)
  rw [← hC, ← hT]
  simp (disch := omega) only [wrapu_id, ew, wide]
  repeat' first
    | ((first | refine callA_pure (t121 _ _ _ (by omega) (by omega) (by omega) (by omega) (by omega)) ?_ ?_); (next => repeat' first | exact flags_n | refine flags_c (by first | rfl | assumption) ?_); simp (disch := omega) only [wide, go_sem, wrap64_id, Int.tdiv_eq_ediv_of_nonneg, Int.tmod_eq_emod_of_nonneg])
    | ((first | refine callG_pure (fun e => ⟨?_, t121 _ _ _ (by omega) (by omega) (by omega) (by omega) (by omega)⟩) ?_); (next => repeat' first | exact flags_n | refine flags_c (by first | rfl | assumption) ?_); simp (disch := omega) only [wide, go_sem, wrap64_id, Int.tdiv_eq_ediv_of_nonneg, Int.tmod_eq_emod_of_nonneg])
    | ((first | refine fnQ_pure1 ?_ ?_ | refine fnQ_pure0 ?_ ?_); (next => repeat' first | exact rvs_n | refine rvs_t ?_ | (simp [go_sem]; done)); simp only [go_sem]; (first | exact VLe.refl _ | refine VLe_int ?_ | refine VLe_bool ?_ | refine VLe_str ?_ | skip))
    | (with_reducible refine And.intro ?_ ?_)
    | with_reducible intro _
  simp (disch := omega) only [wrapu_id, ew, wide]
  repeat' first
    | ((first | refine callA_pure (t121 _ _ _ (by omega) (by omega) (by omega) (by omega) (by omega)) ?_ ?_); (next => repeat' first | exact flags_n | refine flags_c (by first | rfl | assumption) ?_); simp (disch := omega) only [wide, go_sem, wrap64_id, Int.tdiv_eq_ediv_of_nonneg, Int.tmod_eq_emod_of_nonneg])
    | ((first | refine callG_pure (fun e => ⟨?_, t121 _ _ _ (by omega) (by omega) (by omega) (by omega) (by omega)⟩) ?_); (next => repeat' first | exact flags_n | refine flags_c (by first | rfl | assumption) ?_); simp (disch := omega) only [wide, go_sem, wrap64_id, Int.tdiv_eq_ediv_of_nonneg, Int.tmod_eq_emod_of_nonneg])
    | ((first | refine fnQ_pure1 ?_ ?_ | refine fnQ_pure0 ?_ ?_); (next => repeat' first | exact rvs_n | refine rvs_t ?_ | (simp [go_sem]; done)); simp only [go_sem]; (first | exact VLe.refl _ | refine VLe_int ?_ | refine VLe_bool ?_ | refine VLe_str ?_ | skip))
    | (with_reducible refine And.intro ?_ ?_)
    | with_reducible intro _
  have hq : T * T * T * 10001 < 340282366920938463463374607431768211456 := by omega
  refine loop_of (T := fun i : Int × Int => spar 57 [(7, .op h.length 1 0), (8, .op (h.length + 1) 1 0), (9, .int .i64 i.1), (10, .int .i64 i.2)])
    (H := fun _ => h ++ [.mem 1 150 [.int .u64 (T * T * T / 18446744073709551616), .int .u64 (T * T * T % 18446744073709551616)], .mem 1 150 [.int .u64 (C * C * C * 100 / 18446744073709551616), .int .u64 (C * C * C * 100 % 18446744073709551616)]])
    (inv := fun i => 0 ≤ i.1 ∧ i.1 < i.2 ∧ i.2 ≤ 10001 ∧ T * T * T * i.1 ≤ C * C * C * 100 ∧ (i.2 = 10001 ∨ C * C * C * 100 < T * T * T * i.2)) (m := fun i => (i.2 - i.1).toNat) (0, 10001)
    ⟨by omega, by omega, by omega, by omega, .inl rfl⟩ (Wk.temps ?_) ?_
  · simp only [spar, List.foldl, List.replicate, go_sem, VLes_nil, VLes_cons, VLe_undef_iff, VLe_self]
    try (repeat' first | (with_reducible refine And.intro ?_ ?_) | (refine VLe_int ?_; omega) | (refine VLe_bool ?_; rfl))
  · rintro ⟨lo, hi⟩ ⟨i1, i2, i3, i4, i5⟩ K hK
    simp only at i1 i2 i3 i4 i5 hK
    obtain ⟨M, hM⟩ : ∃ M, M = (lo + hi) / 2 := ⟨_, rfl⟩
    have im : 0 ≤ M ∧ M ≤ 10000 ∧ lo ≤ M ∧ M < hi := by omega
    have q0 : 0 ≤ T * T * T * M ∧ T * T * T * M ≤ T * T * T * 10001 := ⟨Int.mul_nonneg (by omega) (by omega), Int.mul_le_mul_of_nonneg_left (by omega) (by omega)⟩
    simp (disch := omega) only [spar, List.foldl, List.replicate, wrapu_id, go_sem, wrap64_id, Int.tdiv_eq_ediv_of_nonneg, Int.tmod_eq_emod_of_nonneg]
    rw [← hM]
    repeat' first
      | ((first | refine callA_pure (t121 _ _ _ (by omega) (by omega) (by omega) (by omega) (by omega)) ?_ ?_ | refine callA_pure (t122 _ _ _ (by omega) (by omega)) ?_ ?_); (next => repeat' first | exact flags_n | refine flags_c (by first | rfl | assumption) ?_); simp (disch := omega) only [wide, wrapu_id, go_sem, wrap64_id, Int.tdiv_eq_ediv_of_nonneg, Int.tmod_eq_emod_of_nonneg])
      | ((first | refine callG_pure (fun e => ⟨?_, t121 _ _ _ (by omega) (by omega) (by omega) (by omega) (by omega)⟩) ?_ | refine callG_pure (fun e => ⟨?_, t122 _ _ _ (by omega) (by omega)⟩) ?_); (next => repeat' first | exact flags_n | refine flags_c (by first | rfl | assumption) ?_); simp (disch := omega) only [wide, wrapu_id, go_sem, wrap64_id, Int.tdiv_eq_ediv_of_nonneg, Int.tmod_eq_emod_of_nonneg])
      | ((first | refine fnQ_pure1 ?_ ?_ | refine fnQ_pure0 ?_ ?_); (next => repeat' first | exact rvs_n | refine rvs_t ?_ | (simp [go_sem]; done)); simp only [go_sem]; (first | exact VLe.refl _ | refine VLe_int ?_ | refine VLe_bool ?_ | refine VLe_str ?_ | skip))
      | (with_reducible refine And.intro ?_ ?_)
      | with_reducible intro _
    all_goals first
      | omega
      | skip
    · rename_i h1 h2
      refine hK _ _ (lo, M) ⟨i1, by simp only; omega, by simp only; omega, i4, .inr h2⟩ (by simp only; omega) (Wk.temps ?_)
      simp only [spar, List.foldl, List.replicate, go_sem, VLes_nil, VLes_cons, VLe_undef_iff, VLe_self]
      try (repeat' first | (with_reducible refine And.intro ?_ ?_) | (refine VLe_int ?_; omega) | (refine VLe_bool ?_; rfl))
    · rename_i h1 h2
      refine hK _ _ (M, hi) ⟨by simp only; omega, by simp only; omega, i3, by simp only; omega, i5⟩ (by simp only; omega) (Wk.temps ?_)
      simp only [spar, List.foldl, List.replicate, go_sem, VLes_nil, VLes_cons, VLe_undef_iff, VLe_self]
      try (repeat' first | (with_reducible refine And.intro ?_ ?_) | (refine VLe_int ?_; omega) | (refine VLe_bool ?_; rfl))
    · rename_i h1
      refine (bad_div tpos i1 i3 (by omega) ?_ ?_).symm
      · rw [Int.mul_comm lo]; exact i4
      · rw [Int.mul_comm hi]; exact i5
end

section
/-! the text W3 -/
open Go Go.Proofs AF P48
set_option maxRecDepth 100000

theorem len_itemC (x : It) : (itemC x).length = 6 := rfl
theorem take_itemC (x : It) : List.take 6 (itemC x) = itemC x := rfl
attribute [go_sem] len_itemC take_itemC
def meas (n st sh : Int) : List AV := [.int .i64 n, .int .i64 st, .int .i64 sh]
def sel (x : It) (f : It → Int) : Int := if x.kind = 3 then 0 else f x
theorem t77 (k v : Nat) (n st sh : Int) (x : It) (h : List AObj) (hk : getO k h = some (.mem v 106 (meas n st sh))) (hx : ItemOk x) (n0 : 0 ≤ n) (n1 : n ≤ 400000000000) (s0 : 0 ≤ st) (s1 : st ≤ 400000000000) (h0 : 0 ≤ sh) (h1 : sh ≤ 400000000000) :
    ACalls Try.prog 77 [.op k v 0, .agg (itemC x)] h (.tup []) (setO k h (.mem v 106 (meas (n + sel x Item.width) (st + sel x Item.stretch) (sh + sel x Item.shrink)))) := by
  have hlt := getO_lt hk
  obtain ⟨a1, a2, a3, a4, a5, a6, a7, a8, a9, b1, b2, b3⟩ := hx
  have hc := cellsOf_of hk
  unfold meas at hk hc
  refine acalls_of fn77 (by simp) ?_
  simp only [List.length_cons, List.length_nil, Nat.reduceAdd, Nat.reduceSub, List.replicate, List.cons_append, List.nil_append, List.append_nil]
  simp (disch := omega) only [c77, itemC, getO_left, setO_left, cellsOf_left, hk, hc, getO_set, cellsOf_set, setO_set, go_sem, wrap64_id, Int.tdiv_eq_ediv_of_nonneg, Int.tmod_eq_emod_of_nonneg]
  repeat' first
    | (with_reducible refine And.intro ?_ ?_)
    | (with_reducible intro _)
  all_goals first
    | omega
    | skip
  · rename_i h3
    refine fnQ_effn trivial len_setO (fun o ho => ?_) ⟨rfl, ?_⟩ (VLe.refl _)
    · rcases mem_setO ho with h4 | rfl
      · exact .inl h4
      · right
        intro c hc
        simp at hc
        rcases hc with rfl | rfl | rfl <;> rfl
    · simp [sel, h3, meas]
  · rename_i h3
    refine fnQ_effn trivial rfl (fun o ho => .inl ho) ⟨rfl, ?_⟩ (VLe.refl _)
    rw [setO_same]
    rw [hk]; simp [sel, h3, meas]

def fitAV (r : Int × Int × Bool) : AV := .tup [.int .i64 r.1, .int .i64 r.2.1, .bool r.2.2]
structure Valid (l : List It) : Prop where
  len : l.length ≤ 300
  ok : ∀ i, i < l.length → ItemOk (it l i)
theorem Valid.num {l : List It} (hv : Valid l) (i : Nat) : (0 ≤ (it l i).width ∧ (it l i).width ≤ 1073741824) ∧ (0 ≤ (it l i).stretch ∧ (it l i).stretch ≤ 1073741824) ∧ (0 ≤ (it l i).shrink ∧ (it l i).shrink ≤ 1073741824) ∧ -10000 ≤ (it l i).penalty ∧ (it l i).penalty ≤ 10000 := by
  by_cases h : i < l.length
  · obtain ⟨a1, a2, a3, a4, a5, a6, a7, a8, a9, b1, b2, b3⟩ := hv.ok i h
    omega
  · unfold it
    rw [List.getD_eq_getElem?_getD, List.getElem?_eq_none (by omega)]
    decide
theorem Valid.of {l : List It} (hl : l.length ≤ 300) (hc : check l = 0) : Valid l := ⟨hl, fun _ h => items_ok hc h⟩
theorem VLe_fit {a b : Int} {c : Bool} {r : Int × Int × Bool} (h : (a, b, c) = r) : VLe (.tup [.int .i64 a, .int .i64 b, .bool c]) (fitAV r) := by subst h; exact VLe.refl _
theorem t76 (l : List It) (width n st sh : Int) (to : Nat) (h : List AObj) (hv : Valid l) (w0 : 0 ≤ width) (w1 : width ≤ 1073741824)
    (n0 : 0 ≤ n) (n1 : n ≤ 400000000000) (s0 : 0 ≤ st) (s1 : st ≤ 400000000000) (h0 : 0 ≤ sh) (h1 : sh ≤ 400000000000) :
    ACalls Try.prog 76 [items l, .int .i64 width, .agg (meas n st sh), .int .i64 to] h (fitAV (fit l width n st sh to)) h := by
  obtain ⟨⟨w2, w3⟩, _⟩ := hv.num to
  have hl := hv.len
  refine acalls_of fn76 (by simp) ?_
  simp only [List.length_cons, List.length_nil, Nat.reduceAdd, Nat.reduceSub, List.replicate, List.cons_append, List.nil_append, List.append_nil]
  simp (disch := omega) only [c76, items, itemC, meas, go_sem, wrap64_id, Int.tdiv_eq_ediv_of_nonneg, Int.tmod_eq_emod_of_nonneg]
  repeat' first
    | ((first | refine callA_pure (t43 l to _) ?_ ?_ | refine callA_pure (t96 _ _ _ (by omega) (by omega) (by omega) (by omega)) ?_ ?_); (next => repeat' first | exact flags_n | refine flags_c (by first | rfl | assumption) ?_); simp (disch := omega) only [go_sem, wrap64_id, Int.tdiv_eq_ediv_of_nonneg, Int.tmod_eq_emod_of_nonneg])
    | ((first | refine callG_pure (fun e => ⟨?_, t43 l to _⟩) ?_ | refine callG_pure (fun e => ⟨?_, t96 _ _ _ (by omega) (by omega) (by omega) (by omega)⟩) ?_); (next => repeat' first | exact flags_n | refine flags_c (by first | rfl | assumption) ?_); simp (disch := omega) only [go_sem, wrap64_id, Int.tdiv_eq_ediv_of_nonneg, Int.tmod_eq_emod_of_nonneg])
    | ((first | refine fnQ_pure1 ?_ ?_ | refine fnQ_pure0 ?_ ?_); (next => repeat' first | exact rvs_n | refine rvs_t ?_ | (simp [go_sem]; done)); simp only [go_sem]; (first | exact VLe.refl _ | refine VLe_int ?_ | refine VLe_bool ?_ | refine VLe_str ?_ | skip))
    | (with_reducible refine And.intro ?_ ?_)
    | with_reducible intro _
  all_goals first
    | omega
    | skip
  all_goals refine VLe_fit ?_
  all_goals try simp only [Int.zero_sub] at *
  all_goals first
    | grind [fit, atBreak]
    | (have hb : atBreak l to = false := by
        cases hx : atBreak l to with
        | false => rfl
        | true => simp [atBreak] at hx; omega
       unfold fit
       simp only [hb, Bool.false_eq_true, if_false]
       first
         | (rw [if_neg (by omega), if_neg (by omega)])
         | trace_state)
end

section
/-! the text W4 -/
open Go Go.Proofs AF P48
set_option maxRecDepth 100000
def linesF (l : List It) (width : Int) (frm : Nat) : AV := .fn (.func 74) [] [.ip [items l], .ip [.int .i64 frm], .ip [.int .i64 width]]
theorem t40 (l : List It) (width : Int) (frm : Nat) (h : List AObj) : ACalls Try.prog 40 [items l, .int .i64 width, .int .i64 frm] h (linesF l width frm) h := by
  refine acalls_of fn40 (by simp) ?_
  simp only [List.length_cons, List.length_nil, Nat.reduceAdd, Nat.reduceSub, List.replicate, List.cons_append, List.nil_append, List.append_nil]
  simp (disch := omega) only [c40, linesF, items, go_sem, wrap64_id, Int.tdiv_eq_ediv_of_nonneg, Int.tmod_eq_emod_of_nonneg]
  repeat' first
    | ((first | refine fnQ_pure1 ?_ ?_ | refine fnQ_pure0 ?_ ?_); (next => repeat' first | exact rvs_n | refine rvs_t ?_ | (simp [go_sem]; done)); simp only [go_sem]; (first | exact VLe.refl _ | refine VLe_int ?_ | refine VLe_bool ?_ | refine VLe_str ?_ | skip))
    | (with_reducible refine And.intro ?_ ?_)
    | with_reducible intro _
  all_goals first
    | omega
    | trace_state

/-- What the objects of the caller may be. -/
def Low (h hh : List AObj) : Prop := hh.length = h.length ∧ ∀ o ∈ hh, o ∈ h ∨ (lowO h.length o ∧ lowO (h.length + 1) o)

theorem free_succ {l : List It} {a b : Nat} (h : a ≤ b) : free l a (b + 1) = (free l a b && !forced l b) := by
  rw [Bool.eq_iff_iff, Bool.and_eq_true, free_iff, free_iff]
  simp only [Bool.not_eq_true']
  constructor
  · intro g; exact ⟨fun i h1 h2 => g i h1 (by omega), g b h (by omega)⟩
  · rintro ⟨g1, g2⟩ i h1 h2
    by_cases e : i = b
    · subst e; exact g2
    · exact g1 i h1 (by omega)
theorem free_mono {l : List It} {a b c : Nat} (h : b ≤ c) (hf : free l a b = false) : free l a c = false := by
  cases hx : free l a c with
  | false => rfl
  | true =>
    have : free l a b = true := free_iff.2 fun i h1 h2 => free_iff.1 hx i h1 (by omega)
    rw [hf] at this; cases this

theorem begin_self (l : List It) (a : Nat) : begin_ l a a = a := by have := begin_le l (Nat.le_refl a); omega
theorem Low.ret {h hh : List AObj} {ts : List AV} {L : LInfo} (s : LS) (hl : Low h hh) (hts : ∀ c ∈ ts, lowV (h.length + 1) c = true) :
    (hh ++ [AObj.lp s ts L]).length = (h ++ [AObj.lp .ready ts L]).length ∧ ∀ o ∈ hh ++ [AObj.lp s ts L], o ∈ h ++ [AObj.lp .ready ts L] ∨ lowO (h ++ [AObj.lp .ready ts L]).length o := by
  refine ⟨by simp [hl.1], fun o ho => ?_⟩
  rw [List.length_append, List.length_singleton]
  rcases List.mem_append.1 ho with ho | ho
  · rcases hl.2 o ho with h1 | h1
    · exact .inl (List.mem_append_left _ h1)
    · exact .inr h1.2
  · rw [List.mem_singleton] at ho
    subst ho
    exact .inr hts
section
variable {l : List It} {width : Int} {frm : Nat} (hv : Valid l) (w0 : 0 ≤ width) (w1 : width ≤ 1073741824) (hf : frm ≤ l.length)
  {h : List AObj} {ts : List AV} {L : LInfo} {S : Nat → List AObj → Prop} {E : LS → List AObj → Prop}
  (hS : ∀ i hh, S i hh → Low h hh) (hE : ∀ s hh, E s hh → Low h hh)
  (body : ∀ to c hh tl, frm ≤ to → to ≤ l.length → arc l width frm to = some c → S to hh →
    AYield Try.prog h.length [.int .i64 to, .int .i64 c] (hh ++ .lp .ready ts L :: tl) (fun r h' => ∃ hh', (r = .bool true ∧ S (to + 1) hh' ∧ h' = hh' ++ .lp .ready ts L :: tl) ∨ (∃ s, r = .bool false ∧ E s hh' ∧ h' = hh' ++ .lp s ts L :: tl)))
  (skip : ∀ to hh, frm ≤ to → to ≤ l.length → arc l width frm to = none → S to hh → S (to + 1) hh)
  (start : S frm h) (hts : ∀ c ∈ ts, lowV (h.length + 1) c = true)
include hv w0 w1 hf hS hE body skip start hts

theorem skips {to : Nat} (h0 : frm ≤ to) (hfree : free l frm to = false) : ∀ (k : Nat) {hh : List AObj} {i : Nat}, l.length + 1 - i = k → to ≤ i → i ≤ l.length + 1 → S i hh → S (l.length + 1) hh := by
  intro k
  induction k with
  | zero => intro hh i h1 h2 h3 h4; rwa [show l.length + 1 = i by omega]
  | succ k ih =>
    intro hh i h1 h2 h3 h4
    refine ih (i := i + 1) (by omega) (by omega) (by omega) (skip i hh (by omega) (by omega) ?_ h4)
    unfold arc
    rw [free_mono h2 hfree]
    simp

theorem t74 : ACallsQ Try.prog 74 [.yld h.length, .ip [items l], .ip [.int .i64 frm], .ip [.int .i64 width]] (h ++ [.lp .ready ts L])
    (fun _ h' => ∃ hh, (S (l.length + 1) hh ∧ h' = hh ++ [.lp .ready ts L]) ∨ ∃ s, E s hh ∧ h' = hh ++ [.lp s ts L]) := by
  have hl := hv.len
  have b0 := begin_le l hf
  refine acallsQ_of fn74 (by simp) ?_
  simp only [List.length_cons, List.length_nil, Nat.reduceAdd, Nat.reduceSub, List.replicate, List.cons_append, List.nil_append, List.append_nil]
  simp (disch := omega) only [c74, items, go_sem, wrap64_id, Int.tdiv_eq_ediv_of_nonneg, Int.tmod_eq_emod_of_nonneg]
  repeat' first
    | ((first | refine callA_pure (t75 l frm l.length _ hf (by omega) (by omega)) ?_ ?_); (next => repeat' first | exact flags_n | refine flags_c (by first | rfl | assumption) ?_); simp (disch := omega) only [go_sem, wrap64_id, Int.tdiv_eq_ediv_of_nonneg, Int.tmod_eq_emod_of_nonneg])
    | ((first | refine callG_pure (fun e => ⟨?_, t75 l frm l.length _ hf (by omega) (by omega)⟩) ?_); (next => repeat' first | exact flags_n | refine flags_c (by first | rfl | assumption) ?_); simp (disch := omega) only [go_sem, wrap64_id, Int.tdiv_eq_ediv_of_nonneg, Int.tmod_eq_emod_of_nonneg])
    | ((first | refine fnQ_pure1 ?_ ?_ | refine fnQ_pure0 ?_ ?_); (next => repeat' first | exact rvs_n | refine rvs_t ?_ | (simp [go_sem]; done)); simp only [go_sem]; (first | exact VLe.refl _ | refine VLe_int ?_ | refine VLe_bool ?_ | refine VLe_str ?_ | skip))
    | (with_reducible refine And.intro ?_ ?_)
    | with_reducible intro _
  all_goals first
    | omega
    | skip
  refine loop_of (T := fun i : Nat × List AObj => spar 64 [(0, .yld h.length), (1, .ip [items l]), (2, .ip [.int .i64 frm]), (3, .ip [.int .i64 width]), (5, .op (h ++ [AObj.lp .ready ts L]).length 1 0), (6, .int .i64 (begin_ l frm l.length)), (7, .int .i64 i.1)])
    (H := fun i => (i.2 ++ [.lp .ready ts L]) ++ [.mem 1 106 (meas (sumOf Item.width l (begin_ l frm (min i.1 l.length)) (min i.1 l.length)) (sumOf Item.stretch l (begin_ l frm (min i.1 l.length)) (min i.1 l.length)) (sumOf Item.shrink l (begin_ l frm (min i.1 l.length)) (min i.1 l.length)))])
    (inv := fun i => frm ≤ i.1 ∧ i.1 ≤ l.length + 1 ∧ S i.1 i.2 ∧ free l frm i.1 = true) (m := fun i => l.length + 1 - i.1) (frm, h) ⟨Nat.le_refl _, by simp only; omega, start, by simp only; rw [free_iff]; omega⟩ ?_ ?_
  · simp only [Nat.min_eq_left hf, begin_self, sumOf_self, meas]
    refine Wk.temps ?_
    simp only [items, spar, List.foldl, List.replicate, go_sem, VLes_nil, VLes_cons, VLe_undef_iff, VLe_self]
    try (repeat' first | (with_reducible refine And.intro ?_ ?_) | (refine VLe_int ?_; omega) | (refine VLe_bool ?_; rfl))
  · rintro ⟨to, hh⟩ ⟨i1, i2, i3, i4⟩ K hK
    simp only at i1 i2 i3 i4 hK
    obtain ⟨hlen, hlow⟩ := hS _ _ i3
    have hB : ∀ g : List AObj, g.length = h.length → (h ++ [AObj.lp .ready ts L]).length = (g ++ [AObj.lp .ready ts L]).length := by intro g hg; simp [hg]
    rw [hB hh hlen]
    by_cases hto : to ≤ l.length
    · have em : min to l.length = to := Nat.min_eq_left hto
      have q1 := sumOf_bound Item.width l (fun i => (hv.num i).1) (begin_ l frm to) to (by omega)
      have q2 := sumOf_bound Item.stretch l (fun i => (hv.num i).2.1) (begin_ l frm to) to (by omega)
      have q3 := sumOf_bound Item.shrink l (fun i => (hv.num i).2.2.1) (begin_ l frm to) to (by omega)
      simp (disch := omega) only [spar, items, List.foldl, List.replicate, em, meas, go_sem, wrap64_id, Int.tdiv_eq_ediv_of_nonneg, Int.tmod_eq_emod_of_nonneg]
      refine ⟨by omega, fun _ => ⟨by omega, ?_⟩, fun hc => absurd (by omega) hc⟩
      refine callA_pure (t42 l to _ hto (by omega)) ⟨rfl, rfl, trivial⟩ ?_
      cases he : ends l to with
      | false =>
        have harc : arc l width frm to = none := by unfold arc; simp [he]
        have hn := skip to hh i1 hto harc i3
        simp (disch := omega) only [he, meas, go_sem, wrap64_id, Int.tdiv_eq_ediv_of_nonneg, Int.tmod_eq_emod_of_nonneg]
        refine ⟨by omega, ?_⟩
        refine callA_pure (t43 l to _) ⟨rfl, rfl, trivial⟩ ?_
        cases hfo : forced l to with
        | true =>
          simp (disch := omega) only [hfo, go_sem, wrap64_id, Int.tdiv_eq_ediv_of_nonneg, Int.tmod_eq_emod_of_nonneg]
          have hfr : free l frm (to + 1) = false := by rw [free_succ i1, hfo]; simp
          have hz := skips hv w0 w1 hf hS hE body skip start hts (by omega) hfr _ rfl (Nat.le_refl _) (by omega) hn
          obtain ⟨r1, r2⟩ := (hS _ _ hz).ret (L := L) .ready hts
          exact fnQ_eff trivial r1 r2 ⟨_, .inl ⟨hz, rfl⟩⟩ (VLe.refl _)
        | false =>
          have hfr : free l frm (to + 1) = true := by rw [free_succ i1, hfo, i4]; rfl
          simp (disch := omega) only [hfo, go_sem, wrap64_id, Int.tdiv_eq_ediv_of_nonneg, Int.tmod_eq_emod_of_nonneg]
          have e1 := begin_min l i1 hto
          repeat' first
            | (with_reducible refine And.intro ?_ ?_)
            | (with_reducible intro _)
          all_goals first
            | omega
            | skip
          · rename_i hadd
            refine callA_eff (t77 _ 1 _ _ _ (it l to) _ getO_app0 (hv.ok to (by omega)) q1.1 q1.2 q2.1 q2.2 q3.1 q3.2) ⟨rfl, rfl, trivial⟩ ?_
            simp (disch := omega) only [go_sem, wrap64_id, Int.tdiv_eq_ediv_of_nonneg, Int.tmod_eq_emod_of_nonneg]
            have e2 := begin_min l (show frm ≤ to + 1 by omega) (show to + 1 ≤ l.length by omega)
            have e3 : begin_ l frm (to + 1) = begin_ l frm to := by omega
            have e4 : begin_ l frm to ≤ to := by omega
            refine hK _ _ (to + 1, hh) ⟨by simp only; omega, by simp only; omega, hn, hfr⟩ (by simp only; omega) ?_
            simp only [Nat.min_eq_left (show to + 1 ≤ l.length by omega), e3, sumOf_snoc _ l e4, sel, meas]
            refine Wk.temps ?_
            simp only [items, spar, List.foldl, List.replicate, go_sem, VLes_nil, VLes_cons, VLe_undef_iff, VLe_self]
            try (repeat' first | (with_reducible refine And.intro ?_ ?_) | (refine VLe_int ?_; omega) | (refine VLe_bool ?_; rfl))
            all_goals first
              | rw [hB _ hlen]
              | skip
            all_goals exact VLe.refl _
          · rename_i hadd
            have e5 : ∀ f, sumOf f l (begin_ l frm (min (to + 1) l.length)) (min (to + 1) l.length) = sumOf f l (begin_ l frm to) to := by
              intro f
              by_cases hlt : to < l.length
              · have e2 := begin_min l (show frm ≤ to + 1 by omega) (show to + 1 ≤ l.length by omega)
                rw [Nat.min_eq_left (show to + 1 ≤ l.length by omega), show begin_ l frm (to + 1) = to + 1 by omega, show begin_ l frm to = to by omega, sumOf_self, sumOf_self]
              · rw [show min (to + 1) l.length = to by omega]
            refine hK _ _ (to + 1, hh) ⟨by simp only; omega, by simp only; omega, hn, hfr⟩ (by simp only; omega) ?_
            simp only [e5, meas]
            refine Wk.temps ?_
            simp only [items, spar, List.foldl, List.replicate, go_sem, VLes_nil, VLes_cons, VLe_undef_iff, VLe_self]
            try (repeat' first | (with_reducible refine And.intro ?_ ?_) | (refine VLe_int ?_; omega) | (refine VLe_bool ?_; rfl))
            all_goals first
              | rw [hB _ hlen]
              | skip
            all_goals exact VLe.refl _
      | true =>
        simp (disch := omega) only [he, meas, go_sem, wrap64_id, Int.tdiv_eq_ediv_of_nonneg, Int.tmod_eq_emod_of_nonneg]
        repeat' first
          | ((first | refine callA_pure (t76 l width _ _ _ to _ hv w0 w1 q1.1 q1.2 q2.1 q2.2 q3.1 q3.2) ?_ ?_); (next => repeat' first | exact flags_n | refine flags_c (by first | rfl | assumption) ?_); simp (disch := omega) only [meas, fitAV, go_sem, wrap64_id, Int.tdiv_eq_ediv_of_nonneg, Int.tmod_eq_emod_of_nonneg])
          | ((first | refine callG_pure (fun e => ⟨?_, t76 l width _ _ _ to _ hv w0 w1 q1.1 q1.2 q2.1 q2.2 q3.1 q3.2⟩) ?_); (next => repeat' first | exact flags_n | refine flags_c (by first | rfl | assumption) ?_); simp (disch := omega) only [meas, fitAV, go_sem, wrap64_id, Int.tdiv_eq_ediv_of_nonneg, Int.tmod_eq_emod_of_nonneg])
          | ((first | refine fnQ_pure1 ?_ ?_ | refine fnQ_pure0 ?_ ?_); (next => repeat' first | exact rvs_n | refine rvs_t ?_ | (simp [go_sem]; done)); simp only [go_sem]; (first | exact VLe.refl _ | refine VLe_int ?_ | refine VLe_bool ?_ | refine VLe_str ?_ | skip))
          | (with_reducible refine And.intro ?_ ?_)
          | with_reducible intro _
        all_goals first
          | omega
          | skip
        obtain ⟨r, hr⟩ : ∃ r, r = lineOf l width frm to := ⟨_, rfl⟩
        have hr1 := fit_nonneg l width (sumOf Item.width l (begin_ l frm to) to) (sumOf Item.stretch l (begin_ l frm to) to) (sumOf Item.shrink l (begin_ l frm to) to) to
        rw [show fit l width (sumOf Item.width l (begin_ l frm to) to) (sumOf Item.stretch l (begin_ l frm to) to) (sumOf Item.shrink l (begin_ l frm to) to) to = r from hr.symm] at hr1 ⊢
        have hp1 : -10000 ≤ penalty l to ∧ penalty l to ≤ 10000 := by
          have := (hv.num to).2.2.2
          unfold penalty; split <;> omega
        cases hi : r.2.2 with
        | false =>
          have harc : arc l width frm to = none := by unfold arc cost; rw [← hr]; simp [hi]
          have hn := skip to hh i1 hto harc i3
          repeat' first
            | ((first | refine callA_pure (t45 l to _) ?_ ?_); (next => repeat' first | exact flags_n | refine flags_c (by first | rfl | assumption) ?_); simp (disch := omega) only [hi, go_sem, wrap64_id, Int.tdiv_eq_ediv_of_nonneg, Int.tmod_eq_emod_of_nonneg])
            | ((first | refine callG_pure (fun e => ⟨?_, t45 l to _⟩) ?_); (next => repeat' first | exact flags_n | refine flags_c (by first | rfl | assumption) ?_); simp (disch := omega) only [hi, go_sem, wrap64_id, Int.tdiv_eq_ediv_of_nonneg, Int.tmod_eq_emod_of_nonneg])
            | ((first | refine fnQ_pure1 ?_ ?_ | refine fnQ_pure0 ?_ ?_); (next => repeat' first | exact rvs_n | refine rvs_t ?_ | (simp [go_sem]; done)); simp only [go_sem]; (first | exact VLe.refl _ | refine VLe_int ?_ | refine VLe_bool ?_ | refine VLe_str ?_ | skip))
            | (with_reducible refine And.intro ?_ ?_)
            | with_reducible intro _
          all_goals first
            | omega
            | skip
          refine callA_pure (t43 l to _) ⟨rfl, rfl, trivial⟩ ?_
          cases hfo : forced l to with
          | true =>
            simp (disch := omega) only [hfo, go_sem, wrap64_id, Int.tdiv_eq_ediv_of_nonneg, Int.tmod_eq_emod_of_nonneg]
            have hfr : free l frm (to + 1) = false := by rw [free_succ i1, hfo]; simp
            have hz := skips hv w0 w1 hf hS hE body skip start hts (by omega) hfr _ rfl (Nat.le_refl _) (by omega) hn
            obtain ⟨r1, r2⟩ := (hS _ _ hz).ret (L := L) .ready hts
            exact fnQ_eff trivial r1 r2 ⟨_, .inl ⟨hz, rfl⟩⟩ (VLe.refl _)
          | false =>
            have hfr : free l frm (to + 1) = true := by rw [free_succ i1, hfo, i4]; rfl
            simp (disch := omega) only [hfo, go_sem, wrap64_id, Int.tdiv_eq_ediv_of_nonneg, Int.tmod_eq_emod_of_nonneg]
            have e1 := begin_min l i1 hto
            repeat' first
              | (with_reducible refine And.intro ?_ ?_)
              | (with_reducible intro _)
            all_goals first
              | omega
              | skip
            · rename_i hadd
              refine callA_eff (t77 _ 1 _ _ _ (it l to) _ getO_app0 (hv.ok to (by omega)) q1.1 q1.2 q2.1 q2.2 q3.1 q3.2) ⟨rfl, rfl, trivial⟩ ?_
              simp (disch := omega) only [go_sem, wrap64_id, Int.tdiv_eq_ediv_of_nonneg, Int.tmod_eq_emod_of_nonneg]
              have e2 := begin_min l (show frm ≤ to + 1 by omega) (show to + 1 ≤ l.length by omega)
              have e3 : begin_ l frm (to + 1) = begin_ l frm to := by omega
              have e4 : begin_ l frm to ≤ to := by omega
              refine hK _ _ (to + 1, hh) ⟨by simp only; omega, by simp only; omega, hn, hfr⟩ (by simp only; omega) ?_
              simp only [Nat.min_eq_left (show to + 1 ≤ l.length by omega), e3, sumOf_snoc _ l e4, sel, meas]
              refine Wk.temps ?_
              simp only [items, spar, List.foldl, List.replicate, go_sem, VLes_nil, VLes_cons, VLe_undef_iff, VLe_self]
              try (repeat' first | (with_reducible refine And.intro ?_ ?_) | (refine VLe_int ?_; omega) | (refine VLe_bool ?_; rfl))
              all_goals first
                | rw [hB _ hlen]
                | skip
              all_goals exact VLe.refl _
            · rename_i hadd
              have e5 : ∀ f, sumOf f l (begin_ l frm (min (to + 1) l.length)) (min (to + 1) l.length) = sumOf f l (begin_ l frm to) to := by
                intro f
                by_cases hlt : to < l.length
                · have e2 := begin_min l (show frm ≤ to + 1 by omega) (show to + 1 ≤ l.length by omega)
                  rw [Nat.min_eq_left (show to + 1 ≤ l.length by omega), show begin_ l frm (to + 1) = to + 1 by omega, show begin_ l frm to = to by omega, sumOf_self, sumOf_self]
                · rw [show min (to + 1) l.length = to by omega]
              refine hK _ _ (to + 1, hh) ⟨by simp only; omega, by simp only; omega, hn, hfr⟩ (by simp only; omega) ?_
              simp only [e5, meas]
              refine Wk.temps ?_
              simp only [items, spar, List.foldl, List.replicate, go_sem, VLes_nil, VLes_cons, VLe_undef_iff, VLe_self]
              try (repeat' first | (with_reducible refine And.intro ?_ ?_) | (refine VLe_int ?_; omega) | (refine VLe_bool ?_; rfl))
              all_goals first
                | rw [hB _ hlen]
                | skip
              all_goals exact VLe.refl _
        | true =>
          have harc : arc l width frm to = some (r.1 + penalty l to) := by unfold arc cost; rw [← hr]; simp [hi, he, i4]
          repeat' first
            | ((first | refine callA_pure (t45 l to _) ?_ ?_); (next => repeat' first | exact flags_n | refine flags_c (by first | rfl | assumption) ?_); simp (disch := omega) only [hi, go_sem, wrap64_id, Int.tdiv_eq_ediv_of_nonneg, Int.tmod_eq_emod_of_nonneg])
            | ((first | refine callG_pure (fun e => ⟨?_, t45 l to _⟩) ?_); (next => repeat' first | exact flags_n | refine flags_c (by first | rfl | assumption) ?_); simp (disch := omega) only [hi, go_sem, wrap64_id, Int.tdiv_eq_ediv_of_nonneg, Int.tmod_eq_emod_of_nonneg])
            | ((first | refine fnQ_pure1 ?_ ?_ | refine fnQ_pure0 ?_ ?_); (next => repeat' first | exact rvs_n | refine rvs_t ?_ | (simp [go_sem]; done)); simp only [go_sem]; (first | exact VLe.refl _ | refine VLe_int ?_ | refine VLe_bool ?_ | refine VLe_str ?_ | skip))
            | (with_reducible refine And.intro ?_ ?_)
            | with_reducible intro _
          all_goals first
            | omega
            | skip
          · exact ⟨.ready, ts, L, by rw [List.append_assoc, ← hlen]; exact getO_app0⟩
          · have hbody := body to _ hh [.mem 1 106 (meas (sumOf Item.width l (begin_ l frm to) to) (sumOf Item.stretch l (begin_ l frm to) to) (sumOf Item.shrink l (begin_ l frm to) to))] i1 hto harc i3
            rw [List.append_cons] at hbody
            refine AYield.mono ?_ hbody
            rintro v h' ⟨hh', ⟨rfl, hn, rfl⟩ | ⟨s, rfl, hs, rfl⟩⟩
            · obtain ⟨hlen', hlow'⟩ := hS _ _ hn
              rw [← hB hh hlen, hB hh' hlen', List.append_cons hh' (AObj.lp .ready ts L) [AObj.mem _ _ _]]
              simp (disch := omega) only [hi, meas, go_sem, wrap64_id, Int.tdiv_eq_ediv_of_nonneg, Int.tmod_eq_emod_of_nonneg]
              refine ⟨by omega, ?_⟩
              refine callA_pure (t43 l to _) ⟨rfl, rfl, trivial⟩ ?_
              cases hfo : forced l to with
              | true =>
                simp (disch := omega) only [hfo, go_sem, wrap64_id, Int.tdiv_eq_ediv_of_nonneg, Int.tmod_eq_emod_of_nonneg]
                have hfr : free l frm (to + 1) = false := by rw [free_succ i1, hfo]; simp
                have hz := skips hv w0 w1 hf hS hE body skip start hts (by omega) hfr _ rfl (Nat.le_refl _) (by omega) hn
                obtain ⟨r1, r2⟩ := (hS _ _ hz).ret (L := L) .ready hts
                exact fnQ_eff trivial r1 r2 ⟨_, .inl ⟨hz, rfl⟩⟩ (VLe.refl _)
              | false =>
                have hfr : free l frm (to + 1) = true := by rw [free_succ i1, hfo, i4]; rfl
                simp (disch := omega) only [hfo, go_sem, wrap64_id, Int.tdiv_eq_ediv_of_nonneg, Int.tmod_eq_emod_of_nonneg]
                have e1 := begin_min l i1 hto
                repeat' first
                  | (with_reducible refine And.intro ?_ ?_)
                  | (with_reducible intro _)
                all_goals first
                  | omega
                  | skip
                · rename_i hadd
                  refine callA_eff (t77 _ 1 _ _ _ (it l to) _ getO_app0 (hv.ok to (by omega)) q1.1 q1.2 q2.1 q2.2 q3.1 q3.2) ⟨rfl, rfl, trivial⟩ ?_
                  simp (disch := omega) only [go_sem, wrap64_id, Int.tdiv_eq_ediv_of_nonneg, Int.tmod_eq_emod_of_nonneg]
                  have e2 := begin_min l (show frm ≤ to + 1 by omega) (show to + 1 ≤ l.length by omega)
                  have e3 : begin_ l frm (to + 1) = begin_ l frm to := by omega
                  have e4 : begin_ l frm to ≤ to := by omega
                  refine hK _ _ (to + 1, hh') ⟨by simp only; omega, by simp only; omega, hn, hfr⟩ (by simp only; omega) ?_
                  simp only [Nat.min_eq_left (show to + 1 ≤ l.length by omega), e3, sumOf_snoc _ l e4, sel, meas]
                  refine Wk.temps ?_
                  simp only [items, spar, List.foldl, List.replicate, go_sem, VLes_nil, VLes_cons, VLe_undef_iff, VLe_self]
                  try (repeat' first | (with_reducible refine And.intro ?_ ?_) | (refine VLe_int ?_; omega) | (refine VLe_bool ?_; rfl))
                  all_goals first
                    | rw [hB _ hlen']
                    | skip
                  all_goals exact VLe.refl _
                · rename_i hadd
                  have e5 : ∀ f, sumOf f l (begin_ l frm (min (to + 1) l.length)) (min (to + 1) l.length) = sumOf f l (begin_ l frm to) to := by
                    intro f
                    by_cases hlt : to < l.length
                    · have e2 := begin_min l (show frm ≤ to + 1 by omega) (show to + 1 ≤ l.length by omega)
                      rw [Nat.min_eq_left (show to + 1 ≤ l.length by omega), show begin_ l frm (to + 1) = to + 1 by omega, show begin_ l frm to = to by omega, sumOf_self, sumOf_self]
                    · rw [show min (to + 1) l.length = to by omega]
                  refine hK _ _ (to + 1, hh') ⟨by simp only; omega, by simp only; omega, hn, hfr⟩ (by simp only; omega) ?_
                  simp only [e5, meas]
                  refine Wk.temps ?_
                  simp only [items, spar, List.foldl, List.replicate, go_sem, VLes_nil, VLes_cons, VLe_undef_iff, VLe_self]
                  try (repeat' first | (with_reducible refine And.intro ?_ ?_) | (refine VLe_int ?_; omega) | (refine VLe_bool ?_; rfl))
                  all_goals first
                    | rw [hB _ hlen']
                    | skip
                  all_goals exact VLe.refl _
            · rw [← hB hh hlen, hB hh' (hE _ _ hs).1, List.append_cons hh' (AObj.lp s ts L) [AObj.mem _ _ _]]
              simp (disch := omega) only [hi, meas, go_sem, wrap64_id, Int.tdiv_eq_ediv_of_nonneg, Int.tmod_eq_emod_of_nonneg]
              obtain ⟨r1, r2⟩ := (hE _ _ hs).ret (L := L) s hts
              exact fnQ_eff trivial r1 r2 ⟨_, .inr ⟨s, hs, rfl⟩⟩ (VLe.refl _)
    · simp (disch := omega) only [spar, items, List.foldl, List.replicate, meas, go_sem, wrap64_id, Int.tdiv_eq_ediv_of_nonneg, Int.tmod_eq_emod_of_nonneg]
      refine ⟨by omega, fun hc => absurd hc (by omega), fun _ => ?_⟩
      have e : to = l.length + 1 := by omega
      subst e
      obtain ⟨r1, r2⟩ := (hS _ _ i3).ret (L := L) .ready hts
      exact fnQ_effn trivial r1 r2 ⟨_, .inl ⟨i3, rfl⟩⟩ (VLe.refl _)
end
end

section
/-! the text W5 -/
open Go Go.Proofs AF P48
set_option maxRecDepth 100000

theorem getO_mid {hh tl : List AObj} {o : AObj} {k : Nat} (h : hh.length = k) : getO k (hh ++ o :: tl) = some o := by subst h; exact getO_app0
theorem setO_mid {hh tl : List AObj} {o o' : AObj} {k : Nat} (h : hh.length = k) : setO k (hh ++ o :: tl) o' = hh ++ o' :: tl := by subst h; exact setO_app0

section
variable {l : List It} {width : Int} {frm : Nat} (hv : Valid l) (w0 : 0 ≤ width) (w1 : width ≤ 1073741824) (hf : frm ≤ l.length)
  {h : List AObj} {ts : List AV} {b : Nat} {x y : C} {Q : Ex → Nx} {p1 p2 : Nat} (S : Nat → List AObj → Prop) (E : Ex → List AObj → Prop)
  (hS : ∀ i hh, S i hh → Low h hh) (hE : ∀ s hh, E s hh → Low h hh)
  (skip : ∀ to hh, frm ≤ to → to ≤ l.length → arc l width frm to = none → S to hh → S (to + 1) hh)
  (start : S frm h) (hts : ∀ c ∈ ts, lowV (h.length + 1) c = true)
  (body : ∀ to c hh tl L, frm ≤ to → to ≤ l.length → arc l width frm to = some c → S to hh → hh.length = h.length →
    codeA Try.prog b x (fun e t2 h2 => e = .normal ∧ h2 = hh ++ .lp .ready ts L :: tl ∧
      codeA Try.prog b y (fun e t3 h3 => ∃ hh', h3 = hh' ++ .lp .busy ts L :: tl ∧ hh'.length = h.length ∧ match e with
        | .normal => S (to + 1) hh'
        | e => E e hh') t2 (hh ++ .lp .busy ts L :: tl)) (setsA ts [p1, p2] [.int .i64 to, .int .i64 c]) (hh ++ .lp .ready ts L :: tl))
  (done : ∀ hh, S (l.length + 1) hh → Q .normal ts hh) (doneE : ∀ e hh, E e hh → match e with
    | .normal => False
    | e => Q e ts hh)
include hv w0 w1 hf hS hE skip start hts body done doneE

theorem range_lines : rangeA Try.prog (linesF l width frm) [p1, p2] (codeA Try.prog b x) (codeA Try.prog b y) Q ts h := by
  intro L hy
  show ACallsQ _ _ _ _ _
  have key := t74 (S := S) (E := fun s hh => match s with
    | .ret => E .ret hh
    | .exit id => E (.exit id) hh
    | _ => False) hv w0 w1 hf (h := h) (ts := ts) (L := L) hS
    (by
      intro s hh hs
      cases s with
      | ret => exact hE _ _ hs
      | exit id => exact hE _ _ hs
      | ready => exact hs.elim
      | busy => exact hs.elim)
    (by
      intro to c hh tl i1 i2 i3 i4
      have hlen := (hS _ _ i4).1
      refine hy h.length ts _ _ _ (getO_mid hlen) rfl ?_
      have hb := body to c hh tl L i1 i2 i3 i4 hlen
      refine codeA_mono ?_ hb
      rintro e t2 h2 ⟨rfl, rfl, h3⟩
      refine ⟨rfl, ⟨ts, getO_mid hlen⟩, fun ts' hts' => ?_⟩
      rw [getO_mid hlen] at hts'
      cases hts'
      rw [setO_mid hlen]
      refine codeA_mono ?_ h3
      rintro e t3 h3' ⟨hh', rfl, g1, g2⟩
      refine ⟨ts, getO_mid g1, ?_⟩
      cases e with
      | normal => exact ⟨hh', .inl ⟨rfl, g2, setO_mid g1⟩⟩
      | ret => exact ⟨hh', .inr ⟨.ret, rfl, g2, setO_mid g1⟩⟩
      | exit id => exact ⟨hh', .inr ⟨.exit id, rfl, g2, setO_mid g1⟩⟩)
    skip start hts
  refine key.le (VLes.refl _) ?_
  rintro v h' ⟨hh, ⟨g1, rfl⟩ | ⟨s, g1, rfl⟩⟩
  · have hl := hS _ _ g1
    exact ⟨v, VLe.refl _, hh, .ready, ts, L, rfl, hl.1, fun o ho => (hl.2 o ho).imp (fun h => h) And.left, done hh g1⟩
  · cases s with
    | ready => exact g1.elim
    | busy => exact g1.elim
    | ret =>
      have hl := hE _ _ g1
      exact ⟨v, VLe.refl _, hh, .ret, ts, L, rfl, hl.1, fun o ho => (hl.2 o ho).imp (fun h => h) And.left, doneE _ _ g1⟩
    | exit id =>
      have hl := hE _ _ g1
      exact ⟨v, VLe.refl _, hh, .exit id, ts, L, rfl, hl.1, fun o ho => (hl.2 o ho).imp (fun h => h) And.left, doneE _ _ g1⟩
end

def cellsI (p : List Int) : List AV := p.map (AV.int .i64)
theorem cellsI_len (p : List Int) : (cellsI p).length = p.length := by simp [cellsI]
theorem ints_of {p : List Int} {fz : Nat → Bool} {h : List AObj} {n m : Nat} (e : p.length = m) : VLe (.sl m (fun i => ((List.drop i (cellsI p)).take 1).map (rei fz h (n + 1)))) (ints p) := by
  subst e
  refine VLe_sl rfl (fun i hi => ?_)
  unfold cellsI
  rw [List.drop_eq_getElem_cons (by simpa using hi)]
  simp [rei, hi]
theorem t41b (n : Nat) (p : List Int) (i k v : Nat) (ty : TypeId) (h : List AObj) (hk : getO k h = some (.mem v ty (cellsI p))) (hp : p.length = n + 1) (hi : i ≤ n) (hn : n ≤ 1000000) :
    ACalls Try.prog 41 [.osl k v 1 0 (n + 1), .int .i64 i] h (.int .i64 (behind n p i)) h := by
  refine ACalls.borrow ?_ rfl
  refine ACalls.le (t41 n p i [] hp hi hn) ?_ (VLe.refl _)
  simp only [List.map_cons, List.map_nil, rei_int, rei_osl, if_true, hk, slOf]
  rw [if_pos ⟨by trivial, by rw [cellsI_len]; omega⟩]
  simp only [Nat.zero_add, Nat.mul_one]
  exact VLes2 (ints_of hp) (VLes2 (VLe.refl _) VLes.nil)
theorem cells_set (p : List Int) (i : Nat) (v : Int) (hi : i < p.length) : (cellsI p).take i ++ [.int .i64 v] ++ (cellsI p).drop (i + 1) = cellsI (p.set i v) := by
  unfold cellsI
  rw [List.set_eq_take_append_cons_drop, if_pos hi]
  simp [List.map_take, List.map_drop]
theorem madeA_int (n : Nat) : madeA [.int .i64 0] n = cellsI (List.replicate n 0) := by
  induction n with
  | zero => rfl
  | succ n ih => simp [madeA, ih, cellsI, List.replicate_succ]

theorem Low.last {g : List AObj} {o : AObj} {v : Nat} {ty : TypeId} {cs : List AV} (hc : ∀ n, ∀ c ∈ cs, lowV n c = true) : Low (g ++ [o]) (g ++ [.mem v ty cs]) := by
  refine ⟨by simp, fun x hx => ?_⟩
  rcases List.mem_append.1 hx with hx | hx
  · exact .inl (List.mem_append_left _ hx)
  · rw [List.mem_singleton] at hx
    subst hx
    exact .inr ⟨hc _, hc _⟩

def arcsTo (l : List It) (width : Int) (frm to : Nat) : List (Nat × Int) := (List.range' frm (to - frm)).filterMap fun to => (arc l width frm to).map fun c => (to, c)
theorem arcsTo_self (l : List It) (width : Int) (frm : Nat) : arcsTo l width frm frm = [] := by simp [arcsTo]
theorem arcsTo_all (l : List It) (width : Int) (frm : Nat) : arcsTo l width frm (l.length + 1) = arcs l width frm := rfl
theorem arcsTo_succ (l : List It) (width : Int) {frm to : Nat} (h : frm ≤ to) : arcsTo l width frm (to + 1) = arcsTo l width frm to ++ (match arc l width frm to with
    | some c => [(to, c)]
    | none => []) := by
  unfold arcsTo
  rw [show to + 1 - frm = to - frm + 1 by omega, List.range'_1_concat, List.filterMap_append, show frm + (to - frm) = to by omega]
  simp only [List.filterMap_cons, List.filterMap_nil]
  cases arc l width frm to <;> rfl
theorem least_snoc (n : Nat) (p : List Int) (a : List (Nat × Int)) (x : Nat × Int) : least n p (a ++ [x]) = if 0 ≤ behind n p x.1 ∧ (least n p a < 0 ∨ x.2 + behind n p x.1 < least n p a) then x.2 + behind n p x.1 else least n p a := by
  unfold least
  rw [List.foldl_append]
  rfl

theorem t39 (l : List It) (width : Int) (hv : Valid l) (w0 : 0 ≤ width) (w1 : width ≤ 1073741824) (h : List AObj) : ACalls Try.prog 39 [items l, .int .i64 width] h (ints (pots l width)) h := by
  have hl := hv.len
  refine acalls_of fn39 (by simp) ?_
  simp only [List.length_cons, List.length_nil, Nat.reduceAdd, Nat.reduceSub, List.replicate, List.cons_append, List.nil_append, List.append_nil]
  simp (disch := omega) only [c39, items, go_sem, wrap64_id, Int.tdiv_eq_ediv_of_nonneg, Int.tmod_eq_emod_of_nonneg]
  repeat' first
    | ((first | refine fnQ_pure1 ?_ ?_ | refine fnQ_pure0 ?_ ?_); (next => repeat' first | exact rvs_n | refine rvs_t ?_ | (simp [go_sem]; done)); simp only [go_sem]; (first | exact VLe.refl _ | refine VLe_int ?_ | refine VLe_bool ?_ | refine VLe_str ?_ | skip))
    | (with_reducible refine And.intro ?_ ?_)
    | with_reducible intro _
  all_goals first
    | omega
    | skip
  simp only [show ((l.length : Int) + 1).toNat = l.length + 1 by omega, madeA_int]
  refine loop_of (T := fun i : Nat × AObj => spar 51 [(0, items l), (1, .int .i64 width), (5, .op (h.length + 2) 1 0), (6, .int .i64 ((l.length : Int) - i.1))])
    (H := fun i => h ++ [.emp 1, .mem 1 3 (cellsI (potsGo l width i.1)), .mem 1 29 [.osl (h.length + 1) 1 1 0 (l.length + 1)], i.2])
    (inv := fun i => i.1 ≤ l.length + 1 ∧ site [i.2] 0 = true) (m := fun i => l.length + 1 - i.1) (0, .emp 0) ⟨by simp only; omega, rfl⟩ (Wk.temps ?_) ?_
  · simp only [items, spar, List.foldl, List.replicate, go_sem, VLes_nil, VLes_cons, VLe_undef_iff, VLe_self]
    try (repeat' first | (with_reducible refine And.intro ?_ ?_) | (refine VLe_int ?_; omega) | (refine VLe_bool ?_; rfl))
  · rintro ⟨k, O⟩ ⟨i1, i2⟩ K hK
    simp only at i1 i2 hK
    by_cases hk : k ≤ l.length
    · have plen := potsGo_len l width k
      obtain ⟨i, hi⟩ : ∃ i, i = l.length - k := ⟨_, rfl⟩
      have hik : (l.length : Int) - k = i := by omega
      obtain ⟨V, hV⟩ : ∃ V, V = verOf (some O) + 1 := ⟨_, rfl⟩
      obtain ⟨p, hp⟩ : ∃ p, p = potsGo l width k := ⟨_, rfl⟩
      simp only [hik, ← hp] at plen ⊢
      simp (disch := omega) only [spar, items, List.foldl, List.replicate, i2, go_sem, wrap64_id, Int.tdiv_eq_ediv_of_nonneg, Int.tmod_eq_emod_of_nonneg]
      rw [← hV]
      repeat' first
        | ((first | refine callA_pure (t40 _ _ _ _) ?_ ?_); (next => repeat' first | exact flags_n | refine flags_c (by first | rfl | assumption) ?_); simp (disch := omega) only [items, go_sem, wrap64_id, Int.tdiv_eq_ediv_of_nonneg, Int.tmod_eq_emod_of_nonneg])
        | ((first | refine callG_pure (fun e => ⟨?_, t40 _ _ _ _⟩) ?_); (next => repeat' first | exact flags_n | refine flags_c (by first | rfl | assumption) ?_); simp (disch := omega) only [items, go_sem, wrap64_id, Int.tdiv_eq_ediv_of_nonneg, Int.tmod_eq_emod_of_nonneg])
        | ((first | refine fnQ_pure1 ?_ ?_ | refine fnQ_pure0 ?_ ?_); (next => repeat' first | exact rvs_n | refine rvs_t ?_ | (simp [go_sem]; done)); simp only [go_sem]; (first | exact VLe.refl _ | refine VLe_int ?_ | refine VLe_bool ?_ | refine VLe_str ?_ | skip))
        | (with_reducible refine And.intro ?_ ?_)
        | with_reducible intro _
      all_goals first
        | omega
        | skip
      have eh : ∀ o : AObj, h ++ [.emp 1, .mem 1 3 (cellsI p), .mem 1 29 [.osl (h.length + 1) 1 1 0 (l.length + 1)], o] = (h ++ [.emp 1, .mem 1 3 (cellsI p), .mem 1 29 [.osl (h.length + 1) 1 1 0 (l.length + 1)]]) ++ [o] := by intro o; simp
      refine range_lines hv w0 w1 (by omega) (S := fun to hh => hh = h ++ [.emp 1, .mem 1 3 (cellsI p), .mem 1 29 [.osl (h.length + 1) 1 1 0 (l.length + 1)], .mem V 3 [.int .i64 (least l.length p (arcsTo l width i to))]]) (E := fun _ _ => False) ?_ (fun _ _ h => h.elim) ?_ ?_ ?_ ?_ ?_ (fun _ _ h => h.elim)
      · rintro to hh rfl
        rw [eh, eh]
        exact Low.last (by intro n c hc; simp at hc; subst hc; rfl)
      · rintro to hh h1 h2 h3 rfl
        rw [arcsTo_succ l width h1, h3, List.append_nil]
      · rw [arcsTo_self]; rfl
      · simp [lowV, lowV.lowVs, linesF, items]
      · rintro to c hh tl L h1 h2 h3 rfl hlen
        simp only [setsA]
        have hc := arc_bound hv.ok h3
        have hbd := behind_bound (n := l.length) (hp ▸ potsGo_bound hv.ok width k) (by omega) to
        simp (disch := omega) only [items, List.append_assoc, eq_self, go_sem, wrap64_id, Int.tdiv_eq_ediv_of_nonneg, Int.tmod_eq_emod_of_nonneg]
        repeat' first
          | ((first | refine callA_pure (t41b l.length p to _ 1 3 _ (by simp only [go_sem, List.append_assoc]) (by omega) h2 (by omega)) ?_ ?_); (next => repeat' first | exact flags_n | refine flags_c (by first | rfl | assumption) ?_); simp (disch := omega) only [List.append_assoc, go_sem, wrap64_id, Int.tdiv_eq_ediv_of_nonneg, Int.tmod_eq_emod_of_nonneg])
          | ((first | refine callG_pure (fun e => ⟨?_, t41b l.length p to _ 1 3 _ (by simp only [go_sem, List.append_assoc]) (by omega) h2 (by omega)⟩) ?_); (next => repeat' first | exact flags_n | refine flags_c (by first | rfl | assumption) ?_); simp (disch := omega) only [List.append_assoc, go_sem, wrap64_id, Int.tdiv_eq_ediv_of_nonneg, Int.tmod_eq_emod_of_nonneg])
          | ((first | refine fnQ_pure1 ?_ ?_ | refine fnQ_pure0 ?_ ?_); (next => repeat' first | exact rvs_n | refine rvs_t ?_ | (simp [go_sem]; done)); simp only [go_sem]; (first | exact VLe.refl _ | refine VLe_int ?_ | refine VLe_bool ?_ | refine VLe_str ?_ | skip))
          | (with_reducible refine And.intro ?_ ?_)
          | with_reducible intro _
        all_goals first
          | omega
          | skip
        · rename_i hh1
          refine ⟨h ++ [.emp 1, .mem 1 3 (cellsI p), .mem 1 29 [.osl (h.length + 1) 1 1 0 (l.length + 1)], .mem V 3 [.int .i64 (c + behind l.length p to)]], by simp, by simp, ?_⟩
          rw [arcsTo_succ l width h1, h3, least_snoc, if_pos hh1]
        · rename_i hh1
          refine ⟨h ++ [.emp 1, .mem 1 3 (cellsI p), .mem 1 29 [.osl (h.length + 1) 1 1 0 (l.length + 1)], .mem V 3 [.int .i64 (least l.length p (arcsTo l width i to))]], by simp, by simp, ?_⟩
          rw [arcsTo_succ l width h1, h3, least_snoc, if_neg (by rintro ⟨g1, g2⟩; simp only at g1 g2; have := hh1 g1; omega)]
      · rintro hh rfl
        rw [arcsTo_all]
        simp (disch := omega) only [cells_set, go_sem, wrap64_id, Int.tdiv_eq_ediv_of_nonneg, Int.tmod_eq_emod_of_nonneg]
        repeat' first
          | (with_reducible refine And.intro ?_ ?_)
          | (with_reducible intro _)
        all_goals first
          | omega
          | (rw [cellsI_len]; omega)
          | skip
        refine hK _ _ (k + 1, .mem V 3 [.int .i64 (least l.length p (arcs l width i))]) ⟨by simp only; omega, rfl⟩ (by simp only; omega) ?_
        have e : potsGo l width (k + 1) = p.set i (least l.length p (arcs l width i)) := by rw [hp, hi]; rfl
        simp only [e]
        refine Wk.temps ?_
        simp only [items, spar, List.foldl, List.replicate, go_sem, VLes_nil, VLes_cons, VLe_undef_iff, VLe_self]
        try (repeat' first | (with_reducible refine And.intro ?_ ?_) | (refine VLe_int ?_; omega) | (refine VLe_bool ?_; rfl))
    · have e : k = l.length + 1 := by omega
      subst e
      have plen := potsGo_len l width (l.length + 1)
      simp (disch := omega) only [spar, items, List.foldl, List.replicate, go_sem, wrap64_id, Int.tdiv_eq_ediv_of_nonneg, Int.tmod_eq_emod_of_nonneg]
      repeat' first
        | (with_reducible refine And.intro ?_ ?_)
        | (with_reducible intro _)
      all_goals first
        | omega
        | skip
      refine fnQ_pure1 ⟨trivial, trivial⟩ ?_
      simp only [go_sem]
      simp only [Nat.zero_add, cellsI_len, plen, Nat.mul_one, Nat.le_refl, and_true, if_true, eq_self]
      exact ints_of (p := pots l width) plen
end

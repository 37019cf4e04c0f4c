import Derived.Test.YtpnjpjibccmkiaaW1
set_option linter.all false
set_option linter.unusedSimpArgs false
set_option linter.unusedVariables false
set_option linter.unusedSectionVars false
open Go Go.Proofs AF P48
set_option maxRecDepth 100000

theorem wrapu_id {n : Int} (h0 : 0 ≤ n) (h1 : n < 18446744073709551616) : IntKind.u64.wrap n = n := by
  have e1 : (2 : Int) ^ IntKind.bits IntKind.u64 = 18446744073709551616 := rfl
  have e3 : IntKind.signed IntKind.u64 = false := rfl
  unfold IntKind.wrap
  rw [e1, e3]
  simp only [Bool.false_and, Bool.false_eq_true, if_false]
  omega
theorem wrapu_mod (n : Int) : IntKind.u64.wrap n = n % 18446744073709551616 := by
  have e1 : (2 : Int) ^ IntKind.bits IntKind.u64 = 18446744073709551616 := rfl
  have e3 : IntKind.signed IntKind.u64 = false := rfl
  unfold IntKind.wrap
  rw [e1, e3]
  simp only [Bool.false_and, Bool.false_eq_true, if_false]
theorem and_mask {a : Int} (h0 : 0 ≤ a) (h1 : a < 18446744073709551616) : andK .u64 a 4294967295 = a % 4294967296 := by
  obtain ⟨n, rfl⟩ := Int.eq_ofNat_of_zero_le h0
  have e : IntKind.u64.bits = 64 := rfl
  unfold andK
  rw [e, BitVec.toNat_and, BitVec.toNat_ofInt, BitVec.toNat_ofInt]
  have e2 : ((n : Int) % ((2 ^ 64 : Nat) : Int)).toNat = n := by
    rw [show ((2 ^ 64 : Nat) : Int) = 18446744073709551616 by rfl]; omega
  have e3 : ((4294967295 : Int) % ((2 ^ 64 : Nat) : Int)).toNat = 2 ^ 32 - 1 := by rfl
  rw [e2, e3, Nat.and_two_pow_sub_one_eq_mod, wrapu_id (by omega) (by omega)]
  omega
theorem shr_32 {a : Int} : shrK .u64 a 32 = a / 4294967296 := by
  have e : (2 : Int) ^ (min (32 : Int).toNat IntKind.u64.bits) = 4294967296 := rfl
  unfold shrK
  rw [e, Int.fdiv_eq_ediv_of_nonneg _ (by omega)]

theorem mul_bound {a b : Int} (h0 : 0 ≤ a) (h1 : a < 4294967296) (h2 : 0 ≤ b) (h3 : b < 4294967296) : 0 ≤ a * b ∧ a * b ≤ 18446744065119617025 := by
  refine ⟨Int.mul_nonneg h0 h2, ?_⟩
  have := Int.mul_le_mul (show a ≤ 4294967295 by omega) (show b ≤ 4294967295 by omega) h2 (by omega)
  omega

theorem div_of {a b : Int} (h0 : 0 ≤ b) (h1 : b < 4294967296) : (a * 4294967296 + b) / 4294967296 = a := by omega
theorem mod_of {a b : Int} (h0 : 0 ≤ b) (h1 : b < 4294967296) : (a * 4294967296 + b) % 4294967296 = b := by omega
theorem t133a (a b c d : Int) (h : List AObj) (a0 : 0 ≤ a) (a1 : a < 4294967296) (b0 : 0 ≤ b) (b1 : b < 4294967296) (c0 : 0 ≤ c) (c1 : c < 4294967296) (d0 : 0 ≤ d) (d1 : d < 4294967296) :
    ACalls Try.prog 133 [.int .u64 (a * 4294967296 + b), .int .u64 (c * 4294967296 + d)] h (.tup [.int .u64 (a * c + (a * d + b * d / 4294967296) / 4294967296 + ((a * d + b * d / 4294967296) % 4294967296 + b * c) / 4294967296), .int .u64 (IntKind.u64.wrap ((a * 4294967296 + b) * (c * 4294967296 + d)))]) h := by
  have p00 := mul_bound b0 b1 d0 d1
  have p10 := mul_bound a0 a1 d0 d1
  have p01 := mul_bound b0 b1 c0 c1
  have p11 := mul_bound a0 a1 c0 c1
  refine acalls_of fn133 (by simp) ?_
  simp only [List.length_cons, List.length_nil, Nat.reduceAdd, Nat.reduceSub, List.replicate, List.cons_append, List.nil_append, List.append_nil]
  simp only [c133, go_sem]
  repeat' first
    | ((first | refine fnQ_pure1 (by first | exact ⟨trivial, trivial⟩ | exact ⟨trivial, trivial, trivial⟩ | exact ⟨trivial, trivial, trivial, trivial⟩ | simp [go_sem]) ?_ | refine fnQ_pure0 (by first | exact ⟨trivial, trivial⟩ | exact ⟨trivial, trivial, trivial⟩ | exact ⟨trivial, trivial, trivial, trivial⟩ | simp [go_sem]) ?_); simp only [go_sem]; (first | exact VLe.refl _ | refine VLe_int ?_ | refine VLe_bool ?_ | refine VLe_str ?_ | skip))
    | (with_reducible refine And.intro ?_ ?_)
    | with_reducible intro _
  all_goals first
    | omega
    | skip
  simp (disch := omega) only [and_mask, shr_32, div_of, mod_of, wrapu_id]
  exact VLe.refl _
theorem t133 (x y : Int) (h : List AObj) (hx0 : 0 ≤ x) (hx1 : x < 18446744073709551616) (hy0 : 0 ≤ y) (hy1 : y < 18446744073709551616) :
    ACalls Try.prog 133 [.int .u64 x, .int .u64 y] h (.tup [.int .u64 (x * y / 18446744073709551616), .int .u64 (x * y % 18446744073709551616)]) h := by
  have := t133a (x / 4294967296) (x % 4294967296) (y / 4294967296) (y % 4294967296) h (by omega) (by omega) (by omega) (by omega) (by omega) (by omega) (by omega) (by omega)
  rw [show x / 4294967296 * 4294967296 + x % 4294967296 = x by omega, show y / 4294967296 * 4294967296 + y % 4294967296 = y by omega, wrapu_mod] at this
  have e : x * y = (x / 4294967296) * (y / 4294967296) * 18446744073709551616 + ((x / 4294967296) * (y % 4294967296) + (x % 4294967296) * (y / 4294967296)) * 4294967296 + (x % 4294967296) * (y % 4294967296) := by
    have ex : x = x / 4294967296 * 4294967296 + x % 4294967296 := by omega
    have ey : y = y / 4294967296 * 4294967296 + y % 4294967296 := by omega
    generalize x / 4294967296 = a at *
    generalize x % 4294967296 = b at *
    generalize y / 4294967296 = c at *
    generalize y % 4294967296 = d at *
    subst ex ey
    grind
  have p00 := mul_bound (a := x % 4294967296) (b := y % 4294967296) (by omega) (by omega) (by omega) (by omega)
  have e2 : x * y / 18446744073709551616 = (x / 4294967296) * (y / 4294967296) + ((x / 4294967296) * (y % 4294967296) + (x % 4294967296) * (y % 4294967296) / 4294967296) / 4294967296 + (((x / 4294967296) * (y % 4294967296) + (x % 4294967296) * (y % 4294967296) / 4294967296) % 4294967296 + (x % 4294967296) * (y / 4294967296)) / 4294967296 := by
    generalize (x / 4294967296) * (y / 4294967296) = q11 at *
    generalize (x / 4294967296) * (y % 4294967296) = q10 at *
    generalize (x % 4294967296) * (y / 4294967296) = q01 at *
    generalize (x % 4294967296) * (y % 4294967296) = q00 at *
    clear this
    omega
  rw [e2]
  exact this
def wide (v : Int) : AV := .agg [.int .u64 (v / 18446744073709551616), .int .u64 (v % 18446744073709551616)]
theorem t121 (v n : Int) (h : List AObj) (h0 : 0 ≤ v) (h1 : v * n < 340282366920938463463374607431768211456) (hn0 : 0 ≤ n) (hn1 : n < 18446744073709551616) (hv : v < 340282366920938463463374607431768211456) :
    ACalls Try.prog 121 [wide v, .int .u64 n] h (wide (v * n)) h := by
  have p0 : 0 ≤ v / 18446744073709551616 * n := Int.mul_nonneg (by omega) hn0
  have p1 : 0 ≤ v % 18446744073709551616 * n := Int.mul_nonneg (by omega) hn0
  have e : v * n = v / 18446744073709551616 * n * 18446744073709551616 + v % 18446744073709551616 * n := by
    have ev : v = v / 18446744073709551616 * 18446744073709551616 + v % 18446744073709551616 := by omega
    generalize v / 18446744073709551616 = a at *
    generalize v % 18446744073709551616 = b at *
    subst ev
    grind
  refine acalls_of fn121 (by simp) ?_
  simp only [List.length_cons, List.length_nil, Nat.reduceAdd, Nat.reduceSub, List.replicate, List.cons_append, List.nil_append, List.append_nil]
  simp only [c121, wide, go_sem]
  repeat' first
    | (refine callA_pure (t133 _ _ _ (by omega) (by omega) hn0 hn1) ⟨rfl, rfl, trivial⟩ ?_; simp (disch := omega) only [go_sem, wrapu_id])
    | (with_reducible refine And.intro ?_ ?_)
    | (with_reducible intro _)
  all_goals first
    | omega
    | skip
  · repeat' first
      | ((first | refine fnQ_pure1 (by first | exact ⟨trivial, trivial⟩ | exact ⟨trivial, trivial, trivial⟩ | exact ⟨trivial, trivial, trivial, trivial⟩ | simp [go_sem]) ?_ | refine fnQ_pure0 (by first | exact ⟨trivial, trivial⟩ | exact ⟨trivial, trivial, trivial⟩ | exact ⟨trivial, trivial, trivial, trivial⟩ | simp [go_sem]) ?_); simp only [go_sem]; (first | exact VLe.refl _ | refine VLe_int ?_ | refine VLe_bool ?_ | refine VLe_str ?_ | skip))
      | (with_reducible refine And.intro ?_ ?_)
      | with_reducible intro _
    refine VLe_agg (VLes2 (VLe_int ?_) (VLes2 (VLe_int ?_) VLes.nil)) <;> omega
theorem t122 (v u : Int) (h : List AObj) (h0 : 0 ≤ v) (h1 : 0 ≤ u) : ACalls Try.prog 122 [wide v, wide u] h (.bool (decide (u < v))) h := by
  refine acalls_of fn122 (by simp) ?_
  simp only [List.length_cons, List.length_nil, Nat.reduceAdd, Nat.reduceSub, List.replicate, List.cons_append, List.nil_append, List.append_nil]
  simp (disch := omega) only [c122, wide, go_sem, wrap64_id, Int.tdiv_eq_ediv_of_nonneg, Int.tmod_eq_emod_of_nonneg]
  repeat' first
    | ((first | refine fnQ_pure1 (by first | exact ⟨trivial, trivial⟩ | exact ⟨trivial, trivial, trivial⟩ | exact ⟨trivial, trivial, trivial, trivial⟩ | simp [go_sem]) ?_ | refine fnQ_pure0 (by first | exact ⟨trivial, trivial⟩ | exact ⟨trivial, trivial, trivial⟩ | exact ⟨trivial, trivial, trivial, trivial⟩ | simp [go_sem]) ?_); simp only [go_sem]; (first | exact VLe.refl _ | refine VLe_int ?_ | refine VLe_bool ?_ | refine VLe_str ?_ | skip))
    | (with_reducible refine And.intro ?_ ?_)
    | with_reducible intro _
  all_goals first
    | omega
    | (rw [decide_eq_decide]; omega)
    | (rw [Bool.eq_iff_iff]; simp only [Bool.and_eq_true, Bool.or_eq_true, Bool.not_eq_true', decide_eq_true_eq, decide_eq_false_iff_not, Bool.and_eq_false_imp]; omega)

/-- The greatest number of which the first one is no more than the second one, up to 10000: found by halving. -/
theorem bad_div {c t lo hi : Int} (ht : 0 < t) (h0 : 0 ≤ lo) (h1 : hi ≤ 10001) (h2 : hi = lo + 1) (h3 : lo * t ≤ c) (h4 : hi = 10001 ∨ c < hi * t) : min 10000 (c / t) = lo := by
  subst h2
  have h5 : lo ≤ c / t := (Int.le_ediv_iff_mul_le ht).2 h3
  rcases h4 with h4 | h4
  · omega
  · have : c / t < lo + 1 := (Int.ediv_lt_iff_lt_mul ht).2 h4
    omega
theorem cube_bound {c : Int} (h0 : 0 ≤ c) (h1 : c ≤ 1073741824) : 0 ≤ c * c ∧ c * c ≤ 1152921504606846976 ∧ 0 ≤ c * c * c ∧ c * c * c ≤ 1237940039285380274899124224 := by
  have a1 := Int.mul_nonneg h0 h0
  have a2 := Int.mul_le_mul h1 h1 h0 (by omega)
  have a3 := Int.mul_nonneg a1 h0
  have a4 := Int.mul_le_mul (show c * c ≤ 1152921504606846976 by omega) h1 h0 (by omega)
  omega
theorem t96 (c t : Int) (h : List AObj) (hc0 : 0 ≤ c) (hc1 : c ≤ 1000000000000) (ht0 : -1000000000000 ≤ t) (ht1 : t ≤ 1000000000000) : ACalls Try.prog 96 [.int .i64 c, .int .i64 t] h (.int .i64 (badness c t)) h := by
  have ew : ∀ n : Int, 0 ≤ n → n < 18446744073709551616 → (AV.agg [.int .u64 0, .int .u64 n]) = wide n := by
    intro n h0 h1; unfold wide; rw [Int.ediv_eq_zero_of_lt h0 h1, Int.emod_eq_of_lt h0 h1]
  obtain ⟨C, hC⟩ : ∃ C, C = min c 1073741824 := ⟨_, rfl⟩
  obtain ⟨T, hT⟩ : ∃ T, T = min t 1073741824 := ⟨_, rfl⟩
  obtain ⟨b1, b2, b3, b4⟩ := cube_bound (c := C) (by omega) (by omega)
  by_cases c0 : c = 0
  · refine acalls_of fn96 (by simp) ?_
    simp only [List.length_cons, List.length_nil, Nat.reduceAdd, Nat.reduceSub, List.replicate, List.cons_append, List.nil_append, List.append_nil]
    simp (disch := omega) only [c96, wrapu_id, go_sem, wrap64_id, Int.tdiv_eq_ediv_of_nonneg, Int.tmod_eq_emod_of_nonneg]
    repeat' first
      | (with_reducible refine And.intro ?_ ?_)
      | (with_reducible intro _; first | (exfalso; omega) | skip)
    repeat' first
      | ((first | refine fnQ_pure1 (by first | exact ⟨trivial, trivial⟩ | exact ⟨trivial, trivial, trivial⟩ | exact ⟨trivial, trivial, trivial, trivial⟩ | simp [go_sem]) ?_ | refine fnQ_pure0 (by first | exact ⟨trivial, trivial⟩ | exact ⟨trivial, trivial, trivial⟩ | exact ⟨trivial, trivial, trivial, trivial⟩ | simp [go_sem]) ?_); simp only [go_sem]; (first | exact VLe.refl _ | refine VLe_int ?_ | refine VLe_bool ?_ | refine VLe_str ?_ | skip))
      | (with_reducible refine And.intro ?_ ?_)
      | with_reducible intro _
    · simp [badness, c0]
  by_cases t0 : t ≤ 0
  · refine acalls_of fn96 (by simp) ?_
    simp only [List.length_cons, List.length_nil, Nat.reduceAdd, Nat.reduceSub, List.replicate, List.cons_append, List.nil_append, List.append_nil]
    simp (disch := omega) only [c96, wrapu_id, go_sem, wrap64_id, Int.tdiv_eq_ediv_of_nonneg, Int.tmod_eq_emod_of_nonneg]
    repeat' first
      | (with_reducible refine And.intro ?_ ?_)
      | (with_reducible intro _; first | (exfalso; omega) | skip)
    repeat' first
      | ((first | refine fnQ_pure1 (by first | exact ⟨trivial, trivial⟩ | exact ⟨trivial, trivial, trivial⟩ | exact ⟨trivial, trivial, trivial, trivial⟩ | simp [go_sem]) ?_ | refine fnQ_pure0 (by first | exact ⟨trivial, trivial⟩ | exact ⟨trivial, trivial, trivial⟩ | exact ⟨trivial, trivial, trivial, trivial⟩ | simp [go_sem]) ?_); simp only [go_sem]; (first | exact VLe.refl _ | refine VLe_int ?_ | refine VLe_bool ?_ | refine VLe_str ?_ | skip))
      | (with_reducible refine And.intro ?_ ?_)
      | with_reducible intro _
    · simp [badness, c0, t0]
  obtain ⟨d1, d2, d3, d4⟩ := cube_bound (c := T) (by omega) (by omega)
  have cpos : 0 < C := by omega
  have tpos : 0 < T * T * T := Int.mul_pos (Int.mul_pos (by omega) (by omega)) (by omega)
  have hb : badness c t = min 10000 (C * C * C * 100 / (T * T * T)) := by
    unfold badness
    rw [if_neg c0, if_neg t0, show max c (-c) = c by omega, ← hC, ← hT]
    congr 2 <;> grind
  rw [hb]
  refine acalls_of fn96 (by simp) ?_
  simp only [List.length_cons, List.length_nil, Nat.reduceAdd, Nat.reduceSub, List.replicate, List.cons_append, List.nil_append, List.append_nil]
  simp (disch := omega) only [c96, wrapu_id, go_sem, wrap64_id, Int.tdiv_eq_ediv_of_nonneg, Int.tmod_eq_emod_of_nonneg]
  repeat' first
    | (with_reducible refine And.intro ?_ ?_)
    | (with_reducible intro _; first | (exfalso; omega) | skip)
  rw [← hC, ← hT]
  simp (disch := omega) only [wrapu_id, ew, wide]
  repeat' first
    | (refine callA_pure (t121 _ _ _ (by omega) (by omega) (by omega) (by omega) (by omega)) (by first | exact ⟨rfl, trivial⟩ | exact ⟨rfl, rfl, trivial⟩ | exact ⟨rfl, rfl, rfl, trivial⟩ | exact ⟨rfl, rfl, rfl, rfl, trivial⟩ | simp only [go_sem]) ?_; simp (disch := omega) only [wide, go_sem, wrap64_id, Int.tdiv_eq_ediv_of_nonneg, Int.tmod_eq_emod_of_nonneg])
    | (refine callG_pure (fun e => ⟨by first | exact ⟨rfl, trivial⟩ | exact ⟨e, trivial⟩ | exact ⟨e, e, trivial⟩ | exact ⟨rfl, rfl, trivial⟩ | exact ⟨e, e, e, trivial⟩ | simp_all only [go_sem], t121 _ _ _ (by omega) (by omega) (by omega) (by omega) (by omega)⟩) ?_; simp (disch := omega) only [wide, go_sem, wrap64_id, Int.tdiv_eq_ediv_of_nonneg, Int.tmod_eq_emod_of_nonneg])
    | ((first | refine fnQ_pure1 (by first | exact ⟨trivial, trivial⟩ | exact ⟨trivial, trivial, trivial⟩ | exact ⟨trivial, trivial, trivial, trivial⟩ | simp [go_sem]) ?_ | refine fnQ_pure0 (by first | exact ⟨trivial, trivial⟩ | exact ⟨trivial, trivial, trivial⟩ | exact ⟨trivial, trivial, trivial, trivial⟩ | simp [go_sem]) ?_); simp only [go_sem]; (first | exact VLe.refl _ | refine VLe_int ?_ | refine VLe_bool ?_ | refine VLe_str ?_ | skip))
    | (with_reducible refine And.intro ?_ ?_)
    | with_reducible intro _
  simp (disch := omega) only [wrapu_id, ew, wide]
  repeat' first
    | (refine callA_pure (t121 _ _ _ (by omega) (by omega) (by omega) (by omega) (by omega)) (by first | exact ⟨rfl, trivial⟩ | exact ⟨rfl, rfl, trivial⟩ | exact ⟨rfl, rfl, rfl, trivial⟩ | exact ⟨rfl, rfl, rfl, rfl, trivial⟩ | simp only [go_sem]) ?_; simp (disch := omega) only [wide, go_sem, wrap64_id, Int.tdiv_eq_ediv_of_nonneg, Int.tmod_eq_emod_of_nonneg])
    | (refine callG_pure (fun e => ⟨by first | exact ⟨rfl, trivial⟩ | exact ⟨e, trivial⟩ | exact ⟨e, e, trivial⟩ | exact ⟨rfl, rfl, trivial⟩ | exact ⟨e, e, e, trivial⟩ | simp_all only [go_sem], t121 _ _ _ (by omega) (by omega) (by omega) (by omega) (by omega)⟩) ?_; simp (disch := omega) only [wide, go_sem, wrap64_id, Int.tdiv_eq_ediv_of_nonneg, Int.tmod_eq_emod_of_nonneg])
    | ((first | refine fnQ_pure1 (by first | exact ⟨trivial, trivial⟩ | exact ⟨trivial, trivial, trivial⟩ | exact ⟨trivial, trivial, trivial, trivial⟩ | simp [go_sem]) ?_ | refine fnQ_pure0 (by first | exact ⟨trivial, trivial⟩ | exact ⟨trivial, trivial, trivial⟩ | exact ⟨trivial, trivial, trivial, trivial⟩ | simp [go_sem]) ?_); simp only [go_sem]; (first | exact VLe.refl _ | refine VLe_int ?_ | refine VLe_bool ?_ | refine VLe_str ?_ | skip))
    | (with_reducible refine And.intro ?_ ?_)
    | with_reducible intro _
  have hq : T * T * T * 10001 < 340282366920938463463374607431768211456 := by omega
  refine loop_of (T := fun i : Int × Int => spar 57 [(7, .op h.length 1 0), (8, .op (h.length + 1) 1 0), (9, .int .i64 i.1), (10, .int .i64 i.2)])
    (H := fun _ => h ++ [.mem 1 150 [.int .u64 (T * T * T / 18446744073709551616), .int .u64 (T * T * T % 18446744073709551616)], .mem 1 150 [.int .u64 (C * C * C * 100 / 18446744073709551616), .int .u64 (C * C * C * 100 % 18446744073709551616)]])
    (inv := fun i => 0 ≤ i.1 ∧ i.1 < i.2 ∧ i.2 ≤ 10001 ∧ T * T * T * i.1 ≤ C * C * C * 100 ∧ (i.2 = 10001 ∨ C * C * C * 100 < T * T * T * i.2)) (m := fun i => (i.2 - i.1).toNat) (0, 10001)
    ⟨by omega, by omega, by omega, by omega, .inl rfl⟩ (Wk.temps ?_) ?_
  · simp only [spar, List.foldl, List.replicate, go_sem, VLes_nil, VLes_cons, VLe_undef_iff, VLe_self]
    try (repeat' first | (with_reducible refine And.intro ?_ ?_) | (refine VLe_int ?_; omega) | (refine VLe_bool ?_; rfl))
  · rintro ⟨lo, hi⟩ ⟨i1, i2, i3, i4, i5⟩ K hK
    simp only at i1 i2 i3 i4 i5 hK
    obtain ⟨M, hM⟩ : ∃ M, M = (lo + hi) / 2 := ⟨_, rfl⟩
    have im : 0 ≤ M ∧ M ≤ 10000 ∧ lo ≤ M ∧ M < hi := by omega
    have q0 : 0 ≤ T * T * T * M ∧ T * T * T * M ≤ T * T * T * 10001 := ⟨Int.mul_nonneg (by omega) (by omega), Int.mul_le_mul_of_nonneg_left (by omega) (by omega)⟩
    simp (disch := omega) only [spar, List.foldl, List.replicate, wrapu_id, go_sem, wrap64_id, Int.tdiv_eq_ediv_of_nonneg, Int.tmod_eq_emod_of_nonneg]
    rw [← hM]
    repeat' first
      | (refine callA_pure (t121 _ _ _ (by omega) (by omega) (by omega) (by omega) (by omega)) (by first | exact ⟨rfl, trivial⟩ | exact ⟨rfl, rfl, trivial⟩ | exact ⟨rfl, rfl, rfl, trivial⟩ | exact ⟨rfl, rfl, rfl, rfl, trivial⟩ | simp only [go_sem]) ?_; simp (disch := omega) only [wide, wrapu_id, go_sem, wrap64_id, Int.tdiv_eq_ediv_of_nonneg, Int.tmod_eq_emod_of_nonneg])
      | (refine callG_pure (fun e => ⟨by first | exact ⟨rfl, trivial⟩ | exact ⟨e, trivial⟩ | exact ⟨e, e, trivial⟩ | exact ⟨rfl, rfl, trivial⟩ | exact ⟨e, e, e, trivial⟩ | simp_all only [go_sem], t121 _ _ _ (by omega) (by omega) (by omega) (by omega) (by omega)⟩) ?_; simp (disch := omega) only [wide, wrapu_id, go_sem, wrap64_id, Int.tdiv_eq_ediv_of_nonneg, Int.tmod_eq_emod_of_nonneg])
      | (refine callA_pure (t122 _ _ _ (by omega) (by omega)) (by first | exact ⟨rfl, trivial⟩ | exact ⟨rfl, rfl, trivial⟩ | exact ⟨rfl, rfl, rfl, trivial⟩ | exact ⟨rfl, rfl, rfl, rfl, trivial⟩ | simp only [go_sem]) ?_; simp (disch := omega) only [wide, wrapu_id, go_sem, wrap64_id, Int.tdiv_eq_ediv_of_nonneg, Int.tmod_eq_emod_of_nonneg])
      | (refine callG_pure (fun e => ⟨by first | exact ⟨rfl, trivial⟩ | exact ⟨e, trivial⟩ | exact ⟨e, e, trivial⟩ | exact ⟨rfl, rfl, trivial⟩ | exact ⟨e, e, e, trivial⟩ | simp_all only [go_sem], t122 _ _ _ (by omega) (by omega)⟩) ?_; simp (disch := omega) only [wide, wrapu_id, go_sem, wrap64_id, Int.tdiv_eq_ediv_of_nonneg, Int.tmod_eq_emod_of_nonneg])
      | ((first | refine fnQ_pure1 (by first | exact ⟨trivial, trivial⟩ | exact ⟨trivial, trivial, trivial⟩ | exact ⟨trivial, trivial, trivial, trivial⟩ | simp [go_sem]) ?_ | refine fnQ_pure0 (by first | exact ⟨trivial, trivial⟩ | exact ⟨trivial, trivial, trivial⟩ | exact ⟨trivial, trivial, trivial, trivial⟩ | simp [go_sem]) ?_); simp only [go_sem]; (first | exact VLe.refl _ | refine VLe_int ?_ | refine VLe_bool ?_ | refine VLe_str ?_ | skip))
      | (with_reducible refine And.intro ?_ ?_)
      | with_reducible intro _
    all_goals first
      | omega
      | skip
    · rename_i h1 h2
      refine hK _ _ (lo, M) ⟨i1, by simp only; omega, by simp only; omega, i4, .inr h2⟩ (by simp only; omega) (Wk.temps ?_)
      simp only [spar, List.foldl, List.replicate, go_sem, VLes_nil, VLes_cons, VLe_undef_iff, VLe_self]
      try (repeat' first | (with_reducible refine And.intro ?_ ?_) | (refine VLe_int ?_; omega) | (refine VLe_bool ?_; rfl))
    · rename_i h1 h2
      refine hK _ _ (M, hi) ⟨by simp only; omega, by simp only; omega, i3, by simp only; omega, i5⟩ (by simp only; omega) (Wk.temps ?_)
      simp only [spar, List.foldl, List.replicate, go_sem, VLes_nil, VLes_cons, VLe_undef_iff, VLe_self]
      try (repeat' first | (with_reducible refine And.intro ?_ ?_) | (refine VLe_int ?_; omega) | (refine VLe_bool ?_; rfl))
    · rename_i h1
      refine (bad_div tpos i1 i3 (by omega) ?_ ?_).symm
      · rw [Int.mul_comm lo]; exact i4
      · rw [Int.mul_comm hi]; exact i5

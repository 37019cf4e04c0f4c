import Derived.Test.YtbccfgnihmfgmaaG3
import Derived.Test.YtbccfgnihmfgmaaG9
set_option linter.all false
set_option linter.unusedSimpArgs false
set_option linter.unusedVariables false
set_option linter.unusedSectionVars false
section
/-! the text PgM5 -/
/-
  PgM5: the badness, computed with numbers of several digits to the base 2^30.
-/
namespace P48
def timesS : List Int → Int → Int → List Int
  | [], _, c => [c]
  | x :: r, n, c => ((x * n + c) % 1073741824) :: timesS r n ((x * n + c) / 1073741824)
/-- The number that the digits stand for. -/
def valD : List Int → Int
  | [] => 0
  | x :: r => x + 1073741824 * valD r
theorem timesS_val : ∀ (l : List Int) (n c : Int), valD (timesS l n c) = valD l * n + c := by
  intro l
  induction l with
  | nil => intro n c; simp [timesS, valD]
  | cons x r ih =>
    intro n c
    simp only [timesS, valD, ih]
    have := Int.emod_add_mul_ediv (x * n + c) 1073741824
    grind
theorem timesS_len : ∀ (l : List Int) (n c : Int), (timesS l n c).length = l.length + 1 := by
  intro l
  induction l with
  | nil => intro n c; rfl
  | cons x r ih => intro n c; simp [timesS, ih]
def Dig (l : List Int) : Prop := ∀ x ∈ l, 0 ≤ x ∧ x < 1073741824
theorem timesS_norm : ∀ (l : List Int) (n c : Int), (∀ x ∈ l, 0 ≤ x) → 0 ≤ n → 0 ≤ c → ∃ a z, timesS l n c = a ++ [z] ∧ a.length = l.length ∧ Dig a ∧ 0 ≤ z := by
  intro l
  induction l with
  | nil => intro n c _ _ hc; exact ⟨[], c, rfl, rfl, fun x hx => (by cases hx), hc⟩
  | cons x r ih =>
    intro n c hl hn hc
    have hx := hl x (by simp)
    have h0 : 0 ≤ x * n := Int.mul_nonneg hx hn
    obtain ⟨a, z, h1, h2, h3, h4⟩ := ih n ((x * n + c) / 1073741824) (fun y hy => hl y (by simp [hy])) hn (by omega)
    refine ⟨((x * n + c) % 1073741824) :: a, z, by simp [timesS, h1], by simp [h2], ?_, h4⟩
    intro y hy
    rcases List.mem_cons.1 hy with rfl | hy
    · omega
    · exact h3 y hy
theorem timesS_nonneg {l : List Int} {n c : Int} (hl : ∀ x ∈ l, 0 ≤ x) (hn : 0 ≤ n) (hc : 0 ≤ c) : ∀ x ∈ timesS l n c, 0 ≤ x := by
  obtain ⟨a, z, h1, h2, h3, h4⟩ := timesS_norm l n c hl hn hc
  rw [h1]
  intro x hx
  rcases List.mem_append.1 hx with hx | hx
  · exact (h3 x hx).1
  · simp at hx; omega
theorem valD_snoc : ∀ (a : List Int) (z : Int), valD (a ++ [z]) = valD a + 1073741824 ^ a.length * z := by
  intro a
  induction a with
  | nil => intro z; simp [valD]
  | cons x r ih => intro z; simp only [List.cons_append, valD, ih, List.length_cons, Int.pow_succ]; grind
theorem valD_dig {a : List Int} (h : Dig a) : 0 ≤ valD a ∧ valD a < 1073741824 ^ a.length := by
  induction a with
  | nil => simp [valD]
  | cons x r ih =>
    have hx := h x (by simp)
    have := ih (fun y hy => h y (by simp [hy]))
    simp only [valD, List.length_cons, Int.pow_succ]
    omega
/-- The comparison from the last digit on. -/
def mostGo (a b : List Int) : Nat → Bool
  | 0 => true
  | i + 1 => if a.getD i 0 = b.getD i 0 then mostGo a b i else decide (a.getD i 0 < b.getD i 0)
theorem mostGo_app (a b c d : List Int) (k : Nat) (ha : k ≤ a.length) (hb : k ≤ b.length) : mostGo (a ++ c) (b ++ d) k = mostGo a b k := by
  induction k with
  | zero => rfl
  | succ k ih =>
    simp only [mostGo, ih (by omega) (by omega)]
    have e1 : (a ++ c).getD k 0 = a.getD k 0 := by simp [List.getD_eq_getElem?_getD, List.getElem?_append_left (show k < a.length by omega)]
    have e2 : (b ++ d).getD k 0 = b.getD k 0 := by simp [List.getD_eq_getElem?_getD, List.getElem?_append_left (show k < b.length by omega)]
    rw [e1, e2]
theorem mostGo_snoc {a b : List Int} {k : Nat} (ha : a.length = k) (hb : b.length = k) (da : Dig a) (db : Dig b) (ih : mostGo a b k = decide (valD a ≤ valD b)) (x y : Int) : mostGo (a ++ [x]) (b ++ [y]) (k + 1) = decide (valD (a ++ [x]) ≤ valD (b ++ [y])) := by
  have e1 : (a ++ [x]).getD k 0 = x := by simp [List.getD_eq_getElem?_getD, ← ha]
  have e2 : (b ++ [y]).getD k 0 = y := by simp [List.getD_eq_getElem?_getD, ← hb]
  simp only [mostGo, e1, e2, mostGo_app a b [x] [y] k (by omega) (by omega), ih, valD_snoc, ha, hb]
  have h1 := valD_dig da
  have h2 := valD_dig db
  rw [ha] at h1
  rw [hb] at h2
  obtain ⟨p, hp⟩ : ∃ p : Int, p = 1073741824 ^ k := ⟨_, rfl⟩
  rw [← hp] at h1 h2 ⊢
  split
  · rename_i e; subst e; congr 1; exact propext ⟨fun h => by omega, fun h => by omega⟩
  · rename_i e
    congr 1
    refine propext ⟨fun h => ?_, fun h => ?_⟩
    · have := Int.mul_le_mul_of_nonneg_left (show x + 1 ≤ y by omega) (show 0 ≤ p by omega)
      rw [Int.mul_add] at this
      omega
    · by_cases h3 : y < x
      · have := Int.mul_le_mul_of_nonneg_left (show y + 1 ≤ x by omega) (show 0 ≤ p by omega)
        rw [Int.mul_add] at this
        omega
      · omega
theorem mostGo_dig : ∀ (k : Nat) (a b : List Int), a.length = k → b.length = k → Dig a → Dig b → mostGo a b k = decide (valD a ≤ valD b) := by
  intro k
  induction k with
  | zero =>
    intro a b ha hb _ _
    rw [List.eq_nil_of_length_eq_zero ha, List.eq_nil_of_length_eq_zero hb]
    simp [mostGo]
  | succ k ih =>
    intro a b ha hb da db
    have ea : a = a.dropLast ++ [a.getLast (by intro e; rw [e] at ha; simp at ha)] := (List.dropLast_concat_getLast _).symm
    have eb : b = b.dropLast ++ [b.getLast (by intro e; rw [e] at hb; simp at hb)] := (List.dropLast_concat_getLast _).symm
    rw [ea, eb]
    have la : a.dropLast.length = k := by simp [ha]
    have lb : b.dropLast.length = k := by simp [hb]
    have da' : Dig a.dropLast := fun x hx => da x (List.dropLast_subset _ hx)
    have db' : Dig b.dropLast := fun x hx => db x (List.dropLast_subset _ hx)
    exact mostGo_snoc la lb da' db' (ih _ _ la lb da' db') _ _
theorem most_val {a b : List Int} {x y : Int} (h : a.length = b.length) (da : Dig a) (db : Dig b) : mostGo (a ++ [x]) (b ++ [y]) (a.length + 1) = decide (valD (a ++ [x]) ≤ valD (b ++ [y])) :=
  mostGo_snoc rfl h.symm da db (mostGo_dig _ a b rfl h.symm da db) x y
/-- The numbers that the badness compares. -/
def aboveD (c : Int) : List Int := timesS (timesS (timesS [c] c 0) c 0) 100 0
def belowD (t : Int) : List Int := timesS (timesS [t] t 0) t 0
theorem cmp_val {c t m : Int} (hc : 0 ≤ c) (ht : 0 ≤ t) (hm : 0 ≤ m) : mostGo (timesS (belowD t) m 0) (aboveD c) 4 = decide (t ^ 3 * m ≤ 100 * c ^ 3) := by
  have n1 : ∀ x ∈ [c], 0 ≤ x := by simpa using hc
  have n2 : ∀ x ∈ [t], 0 ≤ x := by simpa using ht
  obtain ⟨a, x, a1, a2, a3, a4⟩ := timesS_norm (belowD t) m 0 (timesS_nonneg (timesS_nonneg n2 ht (by omega)) ht (by omega)) hm (by omega)
  obtain ⟨b, y, b1, b2, b3, b4⟩ := timesS_norm (timesS (timesS [c] c 0) c 0) 100 0 (timesS_nonneg (timesS_nonneg n1 hc (by omega)) hc (by omega)) (by omega) (by omega)
  have l1 : a.length = 3 := by rw [a2]; simp [belowD, timesS_len]
  have l2 : b.length = 3 := by rw [b2]; simp [timesS_len]
  have e1 : valD (timesS (belowD t) m 0) = t ^ 3 * m := by
    unfold belowD
    rw [timesS_val, timesS_val, timesS_val]
    simp [valD]
    grind
  have e2 : valD (aboveD c) = 100 * c ^ 3 := by
    unfold aboveD
    rw [timesS_val, timesS_val, timesS_val]
    simp [valD]
    grind
  have := most_val (x := x) (y := y) (l1.trans l2.symm) a3 b3
  rw [l1, ← a1, ← b1] at this
  rw [show aboveD c = timesS (timesS (timesS [c] c 0) c 0) 100 0 from rfl] at e2 ⊢
  rw [this, e1, e2]
/-- The least of 10000 and a quotient, found by halving. -/
theorem half_low {A B lo hi : Int} (hB : 0 < B) (h0 : 0 ≤ lo) (h : lo ≤ hi) (h1 : lo ≤ min hi (A / B)) (hz : hi = 10000 ∨ A / B ≤ hi) (hh : hi ≤ 10000) (he : lo = hi) : lo = min 10000 (A / B) := by omega
theorem mul_le_iff {A B m : Int} (hB : 0 < B) : B * m ≤ A ↔ m ≤ A / B := by
  rw [Int.le_ediv_iff_mul_le hB, Int.mul_comm]
end P48
namespace P48
theorem timesS_le {K n : Int} (hK : 0 ≤ K) (hK2 : K ≤ 1000) (hn : 0 ≤ n) (hn2 : n ≤ 1073741824) : ∀ {l : List Int} {c : Int}, (∀ x ∈ l, 0 ≤ x ∧ x ≤ 1073741824 + K) → 0 ≤ c → c ≤ 1073741824 + K + 2 → ∀ x ∈ timesS l n c, x ≤ 1073741824 + K + 2 := by
  intro l
  induction l with
  | nil => intro c _ h0 h1 x hx; simp [timesS] at hx; omega
  | cons y r ih =>
    intro c hl h0 h1
    have hy := hl y (by simp)
    have hm : y * n ≤ (1073741824 + K) * 1073741824 := Int.mul_le_mul hy.2 hn2 hn (by omega)
    have hm0 : 0 ≤ y * n := Int.mul_nonneg hy.1 hn
    intro x hx
    rcases List.mem_cons.1 hx with rfl | hx
    · omega
    · exact ih (fun z hz => hl z (by simp [hz])) (by omega) (by omega) x hx
theorem timesS_step {l : List Int} {n c : Int} {i : Nat} (hi : i < l.length) : timesS (l.drop i) n c = ((l.getD i 0 * n + c) % 1073741824) :: timesS (l.drop (i + 1)) n ((l.getD i 0 * n + c) / 1073741824) := by
  rw [List.drop_eq_getElem_cons hi, timesS]
  have : l.getD i 0 = l[i] := by simp [List.getD_eq_getElem?_getD, hi]
  rw [this]
theorem badness_eq {change total : Int} (h0 : ¬ change = 0) (h1 : ¬ total ≤ 0) {c t : Int} (hc : c = min (max change (-change)) 1073741824) (ht : t = min total 1073741824) : badness change total = min 10000 (100 * c ^ 3 / t ^ 3) := by
  unfold badness; rw [if_neg h0, if_neg h1, hc, ht]
end P48
end

section
/-! the text C1 -/
open Go Go.Proofs AF P48
set_option maxRecDepth 100000
theorem t83 (l : List It) (i : Nat) (h : List AObj) : ACalls Try.prog 83 [items l, .int .i64 i] h (.bool (forced l i)) h := by
  refine acalls_of fn83 (by simp) ?_
  simp only [List.length_cons, List.length_nil, Nat.reduceAdd, Nat.reduceSub, List.replicate, List.cons_append, List.nil_append, List.append_nil]
  simp (disch := omega) only [c83, items, itemC, go_sem, wrap64_id, Int.tdiv_eq_ediv_of_nonneg, Int.tmod_eq_emod_of_nonneg]
  repeat' first
    | ((first | refine fnQ_pure1 ?_ ?_ | refine fnQ_pure0 ?_ ?_); (next => repeat' first | exact rvs_n | refine rvs_t ?_ | (simp [go_sem]; done)); simp only [go_sem]; (first | exact VLe.refl _ | refine VLe_int ?_ | refine VLe_bool ?_ | refine VLe_str ?_ | skip))
    | (with_reducible refine And.intro ?_ ?_)
    | with_reducible intro _
  all_goals first
    | omega
    | grind [forced]
theorem t56 (l : List It) (i : Nat) (h : List AObj) (hi : i ≤ l.length) (hl : l.length ≤ 100000) : ACalls Try.prog 56 [items l, .int .i64 i] h (.bool (ends l i)) h := by
  refine acalls_of fn56 (by simp) ?_
  simp only [List.length_cons, List.length_nil, Nat.reduceAdd, Nat.reduceSub, List.replicate, List.cons_append, List.nil_append, List.append_nil]
  simp (disch := omega) only [c56, items, itemC, go_sem, wrap64_id, Int.tdiv_eq_ediv_of_nonneg, Int.tmod_eq_emod_of_nonneg]
  repeat' first
    | ((first | refine fnQ_pure1 ?_ ?_ | refine fnQ_pure0 ?_ ?_); (next => repeat' first | exact rvs_n | refine rvs_t ?_ | (simp [go_sem]; done)); simp only [go_sem]; (first | exact VLe.refl _ | refine VLe_int ?_ | refine VLe_bool ?_ | refine VLe_str ?_ | skip))
    | (with_reducible refine And.intro ?_ ?_)
    | with_reducible intro _
  all_goals try simp only [show ((i : Int) - 1).toNat = i - 1 by omega] at *
  all_goals first
    | omega
    | grind [ends]
theorem t53 (l : List It) (a b : Nat) (h : List AObj) (hab : a ≤ b) (hb : b ≤ l.length) (hl : l.length ≤ 100000) : ACalls Try.prog 53 [items l, .int .i64 a, .int .i64 b] h (.int .i64 (begin_ l a b)) h := by
  refine acalls_of fn53 (by simp) ?_
  simp only [List.length_cons, List.length_nil, Nat.reduceAdd, Nat.reduceSub, List.replicate, List.cons_append, List.nil_append, List.append_nil]
  simp (disch := omega) only [c53, items, itemC, go_sem, wrap64_id, Int.tdiv_eq_ediv_of_nonneg, Int.tmod_eq_emod_of_nonneg]
  refine loop_of (T := fun i : Nat => spar 21 [(0, items l), (1, .int .i64 i), (2, .int .i64 b)]) (H := fun _ => h) (inv := fun i => i ≤ b ∧ beginGo l (b - i) i = begin_ l a b) (m := fun i => b - i) a ⟨hab, rfl⟩ (Wk.temps ?_) ?_
  · simp only [items, itemC, spar, List.foldl, List.replicate, go_sem, VLes_nil, VLes_cons, VLe_undef_iff, VLe_self]
    try (repeat' first | (with_reducible refine And.intro ?_ ?_) | (refine VLe_int ?_; omega) | (refine VLe_bool ?_; rfl))
  · rintro i ⟨hi1, hi⟩ K hK
    simp (disch := omega) only [spar, items, itemC, List.foldl, List.replicate, go_sem, wrap64_id, Int.tdiv_eq_ediv_of_nonneg, Int.tmod_eq_emod_of_nonneg]
    repeat' first
      | ((first | refine fnQ_pure1 ?_ ?_ | refine fnQ_pure0 ?_ ?_); (next => repeat' first | exact rvs_n | refine rvs_t ?_ | (simp [go_sem]; done)); simp only [go_sem]; (first | exact VLe.refl _ | refine VLe_int ?_ | refine VLe_bool ?_ | refine VLe_str ?_ | skip))
      | (with_reducible refine And.intro ?_ ?_)
      | with_reducible intro _
    all_goals first
      | omega
      | skip
    · rename_i h1
      refine hK _ _ (i + 1) ⟨by omega, ?_⟩ (by omega) (Wk.temps ?_)
      · rw [show b - i = b - (i + 1) + 1 by omega] at hi
        simpa [beginGo, h1.2] using hi
      · simp only [items, itemC, spar, List.foldl, List.replicate, go_sem, VLes_nil, VLes_cons, VLe_undef_iff, VLe_self]
        try (repeat' first | (with_reducible refine And.intro ?_ ?_) | (refine VLe_int ?_; omega) | (refine VLe_bool ?_; rfl))
    · rename_i h1
      rw [← hi]
      by_cases e : i < b
      · rw [show b - i = b - (i + 1) + 1 by omega]
        simp [beginGo, h1 (by omega)]
      · rw [show b - i = 0 by omega]; rfl
theorem free_step {l : List It} {a b : Nat} (h : a ≤ b) : free l a (b + 1) = (free l a b && !forced l b) := by
  unfold free
  rw [show b + 1 - a = b - a + 1 by omega, List.range'_concat, List.all_append]
  simp [show a + (b - a) = b by omega]
theorem free_le0 {l : List It} {a b c : Nat} (h : free l a b = true) (hc : c ≤ b) : free l a c = true := by
  rw [free_iff] at h ⊢
  intro i h1 h2
  exact h i h1 (by omega)
theorem t57 (l : List It) (a b : Nat) (h : List AObj) (hb : b ≤ 1000000) (ha : a ≤ 2000000) : ACalls Try.prog 57 [items l, .int .i64 a, .int .i64 b] h (.bool (free l a b)) h := by
  refine acalls_of fn57 (by simp) ?_
  simp only [List.length_cons, List.length_nil, Nat.reduceAdd, Nat.reduceSub, List.replicate, List.cons_append, List.nil_append, List.append_nil]
  simp (disch := omega) only [c57, go_sem, wrap64_id, Int.tdiv_eq_ediv_of_nonneg, Int.tmod_eq_emod_of_nonneg]
  refine loop_of (T := fun i : Nat => spar 17 [(0, items l), (2, .int .i64 b), (7, .int .i64 i)]) (H := fun _ => h) (inv := fun i => a ≤ i ∧ (i ≤ b ∨ i = a) ∧ free l a i = true) (m := fun i => b - i) a ⟨by omega, by omega, by rw [free_iff]; intro i h1 h2; omega⟩ (Wk.temps ?_) ?_
  · (simp only [items, ints, spar, List.foldl, List.replicate, go_sem, VLes_nil, VLes_cons, VLe_undef_iff, VLe_self]; try (repeat' first | (with_reducible refine And.intro ?_ ?_) | (refine VLe_int ?_; omega) | (refine VLe_bool ?_; rfl) | exact VLe.refl _))
  · rintro i ⟨i1, i2, i3⟩ K hK
    have hs := free_step (l := l) i1
    rw [i3] at hs
    cases hf : forced l i with
    | true =>
      by_cases hi : i < b
      · have e : free l a b = false := by
          cases he : free l a b with
          | false => rfl
          | true => have := free_le0 he (show i + 1 ≤ b by omega); rw [hs, hf] at this; cases this
        rw [e]
        simp (disch := omega) only [spar, List.foldl, List.replicate, go_sem, wrap64_id, Int.tdiv_eq_ediv_of_nonneg, Int.tmod_eq_emod_of_nonneg]
        repeat' first
          | ((first | refine callA_pure (t83 l i _) ?_ ?_); (next => repeat' first | exact flags_n | refine flags_c (by first | rfl | assumption) ?_); simp (disch := omega) only [hf, go_sem, wrap64_id, Int.tdiv_eq_ediv_of_nonneg, Int.tmod_eq_emod_of_nonneg])
          | ((first | refine callG_pure (fun e => ⟨?_, t83 l i _⟩) ?_); (next => repeat' first | exact flags_n | refine flags_c (by first | rfl | assumption) ?_); simp (disch := omega) only [hf, go_sem, wrap64_id, Int.tdiv_eq_ediv_of_nonneg, Int.tmod_eq_emod_of_nonneg])
          | ((first | refine fnQ_pure1 ?_ ?_ | refine fnQ_pure0 ?_ ?_); (next => repeat' first | exact rvs_n | refine rvs_t ?_ | (simp [go_sem]; done)); simp only [go_sem]; (first | exact VLe.refl _ | refine VLe_int ?_ | refine VLe_bool ?_ | refine VLe_str ?_ | skip))
          | (with_reducible refine And.intro ?_ ?_)
          | with_reducible intro _
        all_goals first
          | omega
          | trace_state
      · have e : free l a b = true := by
          rw [free_iff] at i3 ⊢
          intro j h1 h2; exact i3 j h1 (by omega)
        rw [e]
        simp (disch := omega) only [spar, List.foldl, List.replicate, go_sem, wrap64_id, Int.tdiv_eq_ediv_of_nonneg, Int.tmod_eq_emod_of_nonneg]
        repeat' first
          | ((first | refine callA_pure (t83 l i _) ?_ ?_); (next => repeat' first | exact flags_n | refine flags_c (by first | rfl | assumption) ?_); simp (disch := omega) only [hf, go_sem, wrap64_id, Int.tdiv_eq_ediv_of_nonneg, Int.tmod_eq_emod_of_nonneg])
          | ((first | refine callG_pure (fun e => ⟨?_, t83 l i _⟩) ?_); (next => repeat' first | exact flags_n | refine flags_c (by first | rfl | assumption) ?_); simp (disch := omega) only [hf, go_sem, wrap64_id, Int.tdiv_eq_ediv_of_nonneg, Int.tmod_eq_emod_of_nonneg])
          | ((first | refine fnQ_pure1 ?_ ?_ | refine fnQ_pure0 ?_ ?_); (next => repeat' first | exact rvs_n | refine rvs_t ?_ | (simp [go_sem]; done)); simp only [go_sem]; (first | exact VLe.refl _ | refine VLe_int ?_ | refine VLe_bool ?_ | refine VLe_str ?_ | skip))
          | (with_reducible refine And.intro ?_ ?_)
          | with_reducible intro _
        all_goals first
          | omega
          | trace_state
    | false =>
      rw [hf] at hs
      by_cases hi : i < b
      · simp (disch := omega) only [spar, List.foldl, List.replicate, go_sem, wrap64_id, Int.tdiv_eq_ediv_of_nonneg, Int.tmod_eq_emod_of_nonneg]
        repeat' first
          | ((first | refine callA_pure (t83 l i _) ?_ ?_); (next => repeat' first | exact flags_n | refine flags_c (by first | rfl | assumption) ?_); simp (disch := omega) only [hf, go_sem, wrap64_id, Int.tdiv_eq_ediv_of_nonneg, Int.tmod_eq_emod_of_nonneg])
          | ((first | refine callG_pure (fun e => ⟨?_, t83 l i _⟩) ?_); (next => repeat' first | exact flags_n | refine flags_c (by first | rfl | assumption) ?_); simp (disch := omega) only [hf, go_sem, wrap64_id, Int.tdiv_eq_ediv_of_nonneg, Int.tmod_eq_emod_of_nonneg])
          | ((first | refine fnQ_pure1 ?_ ?_ | refine fnQ_pure0 ?_ ?_); (next => repeat' first | exact rvs_n | refine rvs_t ?_ | (simp [go_sem]; done)); simp only [go_sem]; (first | exact VLe.refl _ | refine VLe_int ?_ | refine VLe_bool ?_ | refine VLe_str ?_ | skip))
          | (with_reducible refine And.intro ?_ ?_)
          | with_reducible intro _
        all_goals first
          | omega
          | skip
        refine hK _ _ (i + 1) ⟨by omega, by omega, by rw [hs]; rfl⟩ (by omega) (Wk.temps ?_)
        (simp only [items, ints, spar, List.foldl, List.replicate, go_sem, VLes_nil, VLes_cons, VLe_undef_iff, VLe_self]; try (repeat' first | (with_reducible refine And.intro ?_ ?_) | (refine VLe_int ?_; omega) | (refine VLe_bool ?_; rfl) | exact VLe.refl _))
      · have e : free l a b = true := by
          rw [free_iff] at i3 ⊢
          intro j h1 h2; exact i3 j h1 (by omega)
        rw [e]
        simp (disch := omega) only [spar, List.foldl, List.replicate, go_sem, wrap64_id, Int.tdiv_eq_ediv_of_nonneg, Int.tmod_eq_emod_of_nonneg]
        repeat' first
          | ((first | refine callA_pure (t83 l i _) ?_ ?_); (next => repeat' first | exact flags_n | refine flags_c (by first | rfl | assumption) ?_); simp (disch := omega) only [hf, go_sem, wrap64_id, Int.tdiv_eq_ediv_of_nonneg, Int.tmod_eq_emod_of_nonneg])
          | ((first | refine callG_pure (fun e => ⟨?_, t83 l i _⟩) ?_); (next => repeat' first | exact flags_n | refine flags_c (by first | rfl | assumption) ?_); simp (disch := omega) only [hf, go_sem, wrap64_id, Int.tdiv_eq_ediv_of_nonneg, Int.tmod_eq_emod_of_nonneg])
          | ((first | refine fnQ_pure1 ?_ ?_ | refine fnQ_pure0 ?_ ?_); (next => repeat' first | exact rvs_n | refine rvs_t ?_ | (simp [go_sem]; done)); simp only [go_sem]; (first | exact VLe.refl _ | refine VLe_int ?_ | refine VLe_bool ?_ | refine VLe_str ?_ | skip))
          | (with_reducible refine And.intro ?_ ?_)
          | with_reducible intro _
        all_goals first
          | omega
          | trace_state
theorem t50 (l : List It) (width : Int) (h : List AObj) (hl : l.length ≤ 9223372036854775807) : ACalls Try.prog 50 [items l, .int .i64 width] h (.int .i64 (checkW l width)) h := by
  refine acalls_of fn50 (by simp) ?_
  simp only [List.length_cons, List.length_nil, Nat.reduceAdd, Nat.reduceSub, List.replicate, List.cons_append, List.nil_append, List.append_nil]
  simp (disch := omega) only [c50, go_sem, wrap64_id, Int.tdiv_eq_ediv_of_nonneg, Int.tmod_eq_emod_of_nonneg]
  repeat' first
    | ((first | refine callA_pure (t36 l _ hl) ?_ ?_ | refine callA_pure (t68 _ _) ?_ ?_); (next => repeat' first | exact flags_n | refine flags_c (by first | rfl | assumption) ?_); simp (disch := omega) only [go_sem, wrap64_id, Int.tdiv_eq_ediv_of_nonneg, Int.tmod_eq_emod_of_nonneg])
    | ((first | refine callG_pure (fun e => ⟨?_, t36 l _ hl⟩) ?_ | refine callG_pure (fun e => ⟨?_, t68 _ _⟩) ?_); (next => repeat' first | exact flags_n | refine flags_c (by first | rfl | assumption) ?_); simp (disch := omega) only [go_sem, wrap64_id, Int.tdiv_eq_ediv_of_nonneg, Int.tmod_eq_emod_of_nonneg])
    | ((first | refine fnQ_pure1 ?_ ?_ | refine fnQ_pure0 ?_ ?_); (next => repeat' first | exact rvs_n | refine rvs_t ?_ | (simp [go_sem]; done)); simp only [go_sem]; (first | exact VLe.refl _ | refine VLe_int ?_ | refine VLe_bool ?_ | refine VLe_str ?_ | skip))
    | (with_reducible refine And.intro ?_ ?_)
    | with_reducible intro _
  all_goals first
    | omega
    | grind [checkW]
end

section
/-! the text C2 -/
open Go Go.Proofs AF P48
set_option maxRecDepth 100000
theorem cellsI_snoc (L : List Int) (x : Int) : cellsI (L ++ [x]) = cellsI L ++ [.int .i64 x] := by simp [cellsI]
theorem t98 (l : List Int) (n : Int) (K : Int) (h : List AObj) (hl : l.length ≤ 1000) (hK : 0 ≤ K) (hK2 : K ≤ 900) (hd : ∀ x ∈ l, 0 ≤ x ∧ x ≤ 1073741824 + K) (n0 : 0 ≤ n) (n1 : n ≤ 1073741824) : ACalls Try.prog 98 [ints l, .int .i64 n] h (ints (timesS l n 0)) h := by
  have hgd : ∀ i, i < l.length → 0 ≤ l.getD i 0 ∧ l.getD i 0 ≤ 1073741824 + K := fun i hi => hd _ (by rw [List.getD_eq_getElem?_getD, List.getElem?_eq_getElem hi]; exact List.getElem_mem hi)
  refine acalls_of fn98 (by simp) ?_
  simp only [List.length_cons, List.length_nil, Nat.reduceAdd, Nat.reduceSub, List.replicate, List.cons_append, List.nil_append, List.append_nil]
  simp (disch := omega) only [c98, ints, madeA, go_sem, wrap64_id, Int.tdiv_eq_ediv_of_nonneg, Int.tmod_eq_emod_of_nonneg]
  refine loop_of (T := fun i : Nat × List Int × Int × AObj × AObj × Nat => spar 35 [(0, ints l), (1, .int .i64 n), (5, .osl (h.length + 1) i.2.2.2.2.2 1 0 i.1), (6, .int .i64 i.2.2.1), (7, .int .i64 i.1)])
    (H := fun i => h ++ [.emp 1, .mem i.2.2.2.2.2 3 (cellsI i.2.1), i.2.2.2.1, i.2.2.2.2.1, .emp 0, .emp 0])
    (inv := fun i => i.1 ≤ l.length ∧ i.2.1.length = i.1 ∧ timesS l n 0 = i.2.1 ++ timesS (l.drop i.1) n i.2.2.1 ∧ 0 ≤ i.2.2.1 ∧ i.2.2.1 ≤ 1073741824 + K + 2 ∧ site [i.2.2.2.1] 0 = true ∧ site [i.2.2.2.2.1] 0 = true) (m := fun i => l.length - i.1)
    (0, [], 0, .emp 0, .emp 0, 1) ⟨by simp only; omega, rfl, by simp, by simp, by simp only; omega, rfl, rfl⟩ (Wk.temps ?_) ?_
  · (simp only [items, ints, spar, List.foldl, List.replicate, go_sem, VLes_nil, VLes_cons, VLe_undef_iff, VLe_self]; try (repeat' first | (with_reducible refine And.intro ?_ ?_) | (refine VLe_int ?_; omega) | (refine VLe_bool ?_; rfl) | exact VLe.refl _))
  · rintro ⟨i, L, c, O, O2, v⟩ ⟨i1, i2, i3, i4, i5, i6, i7⟩ K' hK'
    simp only at i1 i2 i3 i4 i5 i6 i7 hK'
    have i6' : ∀ m, site (O :: m) 0 = true := fun _ => i6
    have i7' : ∀ m, site (O2 :: m) 0 = true := fun _ => i7
    have eL := cellsI_len L
    have eT : List.take i (cellsI L) = cellsI L := List.take_of_length_le (by omega)
    by_cases hi : i < l.length
    · rw [timesS_step hi] at i3
      obtain ⟨g1, g2⟩ := hgd i hi
      obtain ⟨x, hx⟩ : ∃ x, x = l.getD i 0 := ⟨_, rfl⟩
      rw [← hx] at i3 g1 g2
      have hm : x * n ≤ (1073741824 + K) * 1073741824 := Int.mul_le_mul g2 n1 n0 (by omega)
      have hm0 : 0 ≤ x * n := Int.mul_nonneg g1 n0
      have hx' := hx.symm
      simp (disch := omega) only [spar, List.foldl, List.replicate, ints, madeA, i6', i7', hx', eL, eT, i2, go_sem, wrap64_id, Int.tdiv_eq_ediv_of_nonneg, Int.tmod_eq_emod_of_nonneg]
      repeat' first
        | ((first | refine fnQ_pure1 ?_ ?_ | refine fnQ_pure0 ?_ ?_); (next => repeat' first | exact rvs_n | refine rvs_t ?_ | (simp [go_sem]; done)); simp only [go_sem]; (first | exact VLe.refl _ | refine VLe_int ?_ | refine VLe_bool ?_ | refine VLe_str ?_ | skip))
        | (with_reducible refine And.intro ?_ ?_)
        | with_reducible intro _
      all_goals first
        | omega
        | (simp; done)
        | skip
      refine hK' _ _ (i + 1, L ++ [(x * n + c) % 1073741824], (x * n + c) / 1073741824, .mem (verOf (some O) + 1) 3 [.int .i64 ((x * n + c) % 1073741824)], O2, v + 1) ⟨by simp only; omega, by simp [i2], by simp [i3], by simp only; omega, by simp only; omega, rfl, i7⟩ (by simp only; omega) ?_
      simp only [cellsI_snoc]
      refine Wk.temps ?_
      (simp only [items, ints, spar, List.foldl, List.replicate, go_sem, VLes_nil, VLes_cons, VLe_undef_iff, VLe_self]; try (repeat' first | (with_reducible refine And.intro ?_ ?_) | (refine VLe_int ?_; omega) | (refine VLe_bool ?_; rfl) | exact VLe.refl _))
    · have e : i = l.length := by omega
      subst e
      rw [List.drop_length] at i3
      simp (disch := omega) only [spar, List.foldl, List.replicate, ints, madeA, i6', i7', eL, eT, go_sem, wrap64_id, Int.tdiv_eq_ediv_of_nonneg, Int.tmod_eq_emod_of_nonneg]
      repeat' first
        | ((first | refine fnQ_pure1 ?_ ?_ | refine fnQ_pure0 ?_ ?_); (next => repeat' first | exact rvs_n | refine rvs_t ?_ | (simp [go_sem]; done)); simp only [go_sem]; (first | exact VLe.refl _ | refine VLe_int ?_ | refine VLe_bool ?_ | refine VLe_str ?_ | skip))
        | (with_reducible refine And.intro ?_ ?_)
        | with_reducible intro _
      all_goals first
        | omega
        | (simp; done)
        | skip
      rw [i3, show timesS [] n c = [c] from rfl, ← cellsI_snoc, if_pos (by rw [cellsI_len]; simp; omega)]
      exact ints_of (by simp; omega)
theorem t98o (l : List Int) (n : Int) (K : Int) (k w m : Nat) (h : List AObj) (hk : getO k h = some (.mem w 3 (cellsI l))) (hm' : l.length = m) (hl : l.length ≤ 1000) (hK : 0 ≤ K) (hK2 : K ≤ 900) (hd : ∀ x ∈ l, 0 ≤ x ∧ x ≤ 1073741824 + K) (n0 : 0 ≤ n) (n1 : n ≤ 1073741824) : ACalls Try.prog 98 [.osl k w 1 0 m, .int .i64 n] h (ints (timesS l n 0)) h := by
  have hgd : ∀ i, i < l.length → 0 ≤ l.getD i 0 ∧ l.getD i 0 ≤ 1073741824 + K := fun i hi => hd _ (by rw [List.getD_eq_getElem?_getD, List.getElem?_eq_getElem hi]; exact List.getElem_mem hi)
  subst hm'
  have hkl : k < h.length := getO_lt hk
  have hL : ∀ X, liveS (h ++ X) k w = true := fun X => by rw [liveS_left hkl]; unfold liveS; rw [hk]; simp
  have hC : ∀ X, cellsOf (h ++ X) k w = some (cellsI l) := fun X => by rw [cellsOf_left hkl]; exact cellsOf_of hk
  refine acalls_of fn98 (by simp) ?_
  simp only [List.length_cons, List.length_nil, Nat.reduceAdd, Nat.reduceSub, List.replicate, List.cons_append, List.nil_append, List.append_nil]
  simp (disch := omega) only [c98, ints, madeA, hL, hC, go_sem, wrap64_id, Int.tdiv_eq_ediv_of_nonneg, Int.tmod_eq_emod_of_nonneg]
  refine loop_of (T := fun i : Nat × List Int × Int × AObj × AObj × Nat => spar 35 [(0, .osl k w 1 0 l.length), (1, .int .i64 n), (5, .osl (h.length + 1) i.2.2.2.2.2 1 0 i.1), (6, .int .i64 i.2.2.1), (7, .int .i64 i.1)])
    (H := fun i => h ++ [.emp 1, .mem i.2.2.2.2.2 3 (cellsI i.2.1), i.2.2.2.1, i.2.2.2.2.1, .emp 0, .emp 0])
    (inv := fun i => i.1 ≤ l.length ∧ i.2.1.length = i.1 ∧ timesS l n 0 = i.2.1 ++ timesS (l.drop i.1) n i.2.2.1 ∧ 0 ≤ i.2.2.1 ∧ i.2.2.1 ≤ 1073741824 + K + 2 ∧ site [i.2.2.2.1] 0 = true ∧ site [i.2.2.2.2.1] 0 = true) (m := fun i => l.length - i.1)
    (0, [], 0, .emp 0, .emp 0, 1) ⟨by simp only; omega, rfl, by simp, by simp, by simp only; omega, rfl, rfl⟩ (Wk.temps ?_) ?_
  · (simp only [items, ints, spar, List.foldl, List.replicate, go_sem, VLes_nil, VLes_cons, VLe_undef_iff, VLe_self]; try (repeat' first | (with_reducible refine And.intro ?_ ?_) | (refine VLe_int ?_; omega) | (refine VLe_bool ?_; rfl) | exact VLe.refl _))
  · rintro ⟨i, L, c, O, O2, v⟩ ⟨i1, i2, i3, i4, i5, i6, i7⟩ K' hK'
    simp only at i1 i2 i3 i4 i5 i6 i7 hK'
    have i6' : ∀ m, site (O :: m) 0 = true := fun _ => i6
    have i7' : ∀ m, site (O2 :: m) 0 = true := fun _ => i7
    have eL := cellsI_len L
    have eT : List.take i (cellsI L) = cellsI L := List.take_of_length_le (by omega)
    by_cases hi : i < l.length
    · rw [timesS_step hi] at i3
      obtain ⟨g1, g2⟩ := hgd i hi
      obtain ⟨x, hx⟩ : ∃ x, x = l.getD i 0 := ⟨_, rfl⟩
      rw [← hx] at i3 g1 g2
      have hm : x * n ≤ (1073741824 + K) * 1073741824 := Int.mul_le_mul g2 n1 n0 (by omega)
      have hm0 : 0 ≤ x * n := Int.mul_nonneg g1 n0
      have hx' : (cellsI l)[i]? = some (.int .i64 x) := by simp [cellsI, hx, List.getD_eq_getElem?_getD, hi]
      have hcl : (cellsI l).length = l.length := cellsI_len l
      simp (disch := omega) only [spar, List.foldl, List.replicate, ints, madeA, i6', i7', hx', eL, eT, i2, hL, hC, hcl, go_sem, wrap64_id, Int.tdiv_eq_ediv_of_nonneg, Int.tmod_eq_emod_of_nonneg]
      repeat' first
        | ((first | refine fnQ_pure1 ?_ ?_ | refine fnQ_pure0 ?_ ?_); (next => repeat' first | exact rvs_n | refine rvs_t ?_ | (simp [go_sem]; done)); simp only [go_sem]; (first | exact VLe.refl _ | refine VLe_int ?_ | refine VLe_bool ?_ | refine VLe_str ?_ | skip))
        | (with_reducible refine And.intro ?_ ?_)
        | with_reducible intro _
      all_goals first
        | omega
        | (simp; done)
        | skip
      refine hK' _ _ (i + 1, L ++ [(x * n + c) % 1073741824], (x * n + c) / 1073741824, .mem (verOf (some O) + 1) 3 [.int .i64 ((x * n + c) % 1073741824)], O2, v + 1) ⟨by simp only; omega, by simp [i2], by simp [i3], by simp only; omega, by simp only; omega, rfl, i7⟩ (by simp only; omega) ?_
      simp only [cellsI_snoc]
      refine Wk.temps ?_
      (simp only [items, ints, spar, List.foldl, List.replicate, go_sem, VLes_nil, VLes_cons, VLe_undef_iff, VLe_self]; try (repeat' first | (with_reducible refine And.intro ?_ ?_) | (refine VLe_int ?_; omega) | (refine VLe_bool ?_; rfl) | exact VLe.refl _))
    · have e : i = l.length := by omega
      subst e
      rw [List.drop_length] at i3
      simp (disch := omega) only [spar, List.foldl, List.replicate, ints, madeA, i6', i7', eL, eT, hL, hC, go_sem, wrap64_id, Int.tdiv_eq_ediv_of_nonneg, Int.tmod_eq_emod_of_nonneg]
      repeat' first
        | ((first | refine fnQ_pure1 ?_ ?_ | refine fnQ_pure0 ?_ ?_); (next => repeat' first | exact rvs_n | refine rvs_t ?_ | (simp [go_sem]; done)); simp only [go_sem]; (first | exact VLe.refl _ | refine VLe_int ?_ | refine VLe_bool ?_ | refine VLe_str ?_ | skip))
        | (with_reducible refine And.intro ?_ ?_)
        | with_reducible intro _
      all_goals first
        | omega
        | (simp; done)
        | skip
      rw [i3, show timesS [] n c = [c] from rfl, ← cellsI_snoc, if_pos (by rw [cellsI_len]; simp; omega)]
      exact ints_of (by simp; omega)
theorem t99 (a b : List Int) (h : List AObj) (ha : a.length ≤ 1000) (hab : a.length = b.length) : ACalls Try.prog 99 [ints a, ints b] h (.bool (mostGo a b a.length)) h := by
  refine acalls_of fn99 (by simp) ?_
  simp only [List.length_cons, List.length_nil, Nat.reduceAdd, Nat.reduceSub, List.replicate, List.cons_append, List.nil_append, List.append_nil]
  simp (disch := omega) only [c99, ints, go_sem, wrap64_id, Int.tdiv_eq_ediv_of_nonneg, Int.tmod_eq_emod_of_nonneg]
  refine loop_of (T := fun i : Nat => spar 40 [(0, ints a), (1, ints b), (5, .int .i64 ((i : Int) - 1))]) (H := fun _ => h) (inv := fun i => i ≤ a.length ∧ mostGo a b a.length = mostGo a b i) (m := fun i => i) a.length ⟨by omega, rfl⟩ (Wk.temps ?_) ?_
  · (simp only [items, ints, spar, List.foldl, List.replicate, go_sem, VLes_nil, VLes_cons, VLe_undef_iff, VLe_self]; try (repeat' first | (with_reducible refine And.intro ?_ ?_) | (refine VLe_int ?_; omega) | (refine VLe_bool ?_; rfl) | exact VLe.refl _))
    all_goals trace_state
  · rintro i ⟨i1, i2⟩ K hK
    rw [i2]
    cases i with
    | zero =>
      simp (disch := omega) only [spar, List.foldl, List.replicate, ints, go_sem, wrap64_id, Int.tdiv_eq_ediv_of_nonneg, Int.tmod_eq_emod_of_nonneg]
      repeat' first
        | ((first | refine fnQ_pure1 ?_ ?_ | refine fnQ_pure0 ?_ ?_); (next => repeat' first | exact rvs_n | refine rvs_t ?_ | (simp [go_sem]; done)); simp only [go_sem]; (first | exact VLe.refl _ | refine VLe_int ?_ | refine VLe_bool ?_ | refine VLe_str ?_ | skip))
        | (with_reducible refine And.intro ?_ ?_)
        | with_reducible intro _
      all_goals first
        | omega
        | trace_state
    | succ i =>
      have hx : ((i + 1 : Nat) : Int) - 1 = i := by omega
      rw [hx]
      by_cases e : a.getD i 0 = b.getD i 0
      · simp (disch := omega) only [spar, List.foldl, List.replicate, ints, e, go_sem, wrap64_id, Int.tdiv_eq_ediv_of_nonneg, Int.tmod_eq_emod_of_nonneg]
        repeat' first
          | ((first | refine fnQ_pure1 ?_ ?_ | refine fnQ_pure0 ?_ ?_); (next => repeat' first | exact rvs_n | refine rvs_t ?_ | (simp [go_sem]; done)); simp only [go_sem]; (first | exact VLe.refl _ | refine VLe_int ?_ | refine VLe_bool ?_ | refine VLe_str ?_ | skip))
          | (with_reducible refine And.intro ?_ ?_)
          | with_reducible intro _
        all_goals first
          | omega
          | skip
        refine hK _ _ i ⟨by omega, by rw [i2]; simp only [mostGo, if_pos e]⟩ (by omega) (Wk.temps ?_)
        (simp only [items, ints, spar, List.foldl, List.replicate, go_sem, VLes_nil, VLes_cons, VLe_undef_iff, VLe_self]; try (repeat' first | (with_reducible refine And.intro ?_ ?_) | (refine VLe_int ?_; omega) | (refine VLe_bool ?_; rfl) | exact VLe.refl _))
      · simp (disch := omega) only [spar, List.foldl, List.replicate, ints, e, go_sem, wrap64_id, Int.tdiv_eq_ediv_of_nonneg, Int.tmod_eq_emod_of_nonneg]
        repeat' first
          | ((first | refine fnQ_pure1 ?_ ?_ | refine fnQ_pure0 ?_ ?_); (next => repeat' first | exact rvs_n | refine rvs_t ?_ | (simp [go_sem]; done)); simp only [go_sem]; (first | exact VLe.refl _ | refine VLe_int ?_ | refine VLe_bool ?_ | refine VLe_str ?_ | skip))
          | (with_reducible refine And.intro ?_ ?_)
          | with_reducible intro _
        all_goals first
          | omega
          | skip
        simp only [mostGo, if_neg e]

theorem t84 (change total : Int) (h : List AObj) (c0 : -4000000000000 ≤ change) (c1 : change ≤ 4000000000000) (s1 : total ≤ 9223372036854775807) : ACalls Try.prog 84 [.int .i64 change, .int .i64 total] h (.int .i64 (badness change total)) h := by
  by_cases h0 : change = 0
  · subst h0
    refine acalls_of fn84 (by simp) ?_
    simp only [List.length_cons, List.length_nil, Nat.reduceAdd, Nat.reduceSub, List.replicate, List.cons_append, List.nil_append, List.append_nil]
    simp (disch := omega) only [c84, go_sem, wrap64_id, Int.tdiv_eq_ediv_of_nonneg, Int.tmod_eq_emod_of_nonneg]
    repeat' first
      | ((first | refine fnQ_pure1 ?_ ?_ | refine fnQ_pure0 ?_ ?_); (next => repeat' first | exact rvs_n | refine rvs_t ?_ | (simp [go_sem]; done)); simp only [go_sem]; (first | exact VLe.refl _ | refine VLe_int ?_ | refine VLe_bool ?_ | refine VLe_str ?_ | skip))
      | (with_reducible refine And.intro ?_ ?_)
      | with_reducible intro _
    all_goals first
      | omega
      | trace_state
  · by_cases h1 : total ≤ 0
    · have e : badness change total = 10000 := by unfold badness; rw [if_neg h0, if_pos h1]
      rw [e]
      refine acalls_of fn84 (by simp) ?_
      simp only [List.length_cons, List.length_nil, Nat.reduceAdd, Nat.reduceSub, List.replicate, List.cons_append, List.nil_append, List.append_nil]
      simp (disch := omega) only [c84, h0, h1, go_sem, wrap64_id, Int.tdiv_eq_ediv_of_nonneg, Int.tmod_eq_emod_of_nonneg]
      repeat' first
        | ((first | refine fnQ_pure1 ?_ ?_ | refine fnQ_pure0 ?_ ?_); (next => repeat' first | exact rvs_n | refine rvs_t ?_ | (simp [go_sem]; done)); simp only [go_sem]; (first | exact VLe.refl _ | refine VLe_int ?_ | refine VLe_bool ?_ | refine VLe_str ?_ | skip))
        | (with_reducible refine And.intro ?_ ?_)
        | with_reducible intro _
      all_goals first
        | omega
        | trace_state
    · obtain ⟨c, hc⟩ : ∃ c, c = min (max change (-change)) 1073741824 := ⟨_, rfl⟩
      obtain ⟨t, ht⟩ : ∃ t, t = min total 1073741824 := ⟨_, rfl⟩
      rw [badness_eq h0 h1 hc ht]
      have hc' : max (max (-1073741824) (min 1073741824 change)) (0 - max (-1073741824) (min 1073741824 change)) = c := by omega
      have cc : 0 ≤ c ∧ c ≤ 1073741824 := by omega
      have tt : 0 < t ∧ t ≤ 1073741824 := by omega
      have q1 : ∀ x ∈ [c], 0 ≤ x ∧ x ≤ 1073741824 + 0 := by intro x hx; simp at hx; omega
      have q1' : ∀ x ∈ [c], 0 ≤ x := fun x hx => (q1 x hx).1
      have q2 : ∀ x ∈ timesS [c] c 0, 0 ≤ x ∧ x ≤ 1073741824 + 2 := fun x hx => ⟨timesS_nonneg q1' cc.1 (by omega) x hx, by have := timesS_le (K := 0) (by omega) (by omega) cc.1 cc.2 q1 (by omega) (by omega) x hx; omega⟩
      have q2' : ∀ x ∈ timesS [c] c 0, 0 ≤ x := fun x hx => (q2 x hx).1
      have q3 : ∀ x ∈ timesS (timesS [c] c 0) c 0, 0 ≤ x ∧ x ≤ 1073741824 + 4 := fun x hx => ⟨timesS_nonneg q2' cc.1 (by omega) x hx, by have := timesS_le (K := 2) (by omega) (by omega) cc.1 cc.2 q2 (by omega) (by omega) x hx; omega⟩
      have r1 : ∀ x ∈ [t], 0 ≤ x ∧ x ≤ 1073741824 + 0 := by intro x hx; simp at hx; omega
      have r1' : ∀ x ∈ [t], 0 ≤ x := fun x hx => (r1 x hx).1
      have r2 : ∀ x ∈ timesS [t] t 0, 0 ≤ x ∧ x ≤ 1073741824 + 2 := fun x hx => ⟨timesS_nonneg r1' (by omega) (by omega) x hx, by have := timesS_le (K := 0) (n := t) (by omega) (by omega) (by omega) (by omega) r1 (by omega) (by omega) x hx; omega⟩
      have r2' : ∀ x ∈ timesS [t] t 0, 0 ≤ x := fun x hx => (r2 x hx).1
      have r3 : ∀ x ∈ belowD t, 0 ≤ x ∧ x ≤ 1073741824 + 4 := fun x hx => ⟨timesS_nonneg r2' (by omega) (by omega) x hx, by have := timesS_le (K := 2) (n := t) (by omega) (by omega) (by omega) (by omega) r2 (by omega) (by omega) x hx; omega⟩
      have k1 : ∀ (X : List AObj), ACalls Try.prog 98 [.osl h.length 1 1 0 1, .int .i64 c] (h ++ .mem 1 3 [.int .i64 c] :: X) (ints (timesS [c] c 0)) (h ++ .mem 1 3 [.int .i64 c] :: X) := fun X => t98o [c] c 0 h.length 1 1 _ (by rw [getO_app0]; rfl) rfl (by simp) (by omega) (by omega) q1 cc.1 cc.2
      have k2 : ∀ h : List AObj, ACalls Try.prog 98 [ints (timesS [c] c 0), .int .i64 c] h (ints (timesS (timesS [c] c 0) c 0)) h := fun h => t98 _ c 2 h (by simp [timesS_len]) (by omega) (by omega) q2 cc.1 cc.2
      have k3 : ∀ h : List AObj, ACalls Try.prog 98 [ints (timesS (timesS [c] c 0) c 0), .int .i64 100] h (ints (aboveD c)) h := fun h => t98 _ 100 4 h (by simp [timesS_len]) (by omega) (by omega) q3 (by omega) (by omega)
      have k4 : ∀ (O : AObj) (X : List AObj), ACalls Try.prog 98 [.osl (h.length + 1) 1 1 0 1, .int .i64 t] (h ++ O :: .mem 1 3 [.int .i64 t] :: X) (ints (timesS [t] t 0)) (h ++ O :: .mem 1 3 [.int .i64 t] :: X) := fun O X => t98o [t] t 0 (h.length + 1) 1 1 _ (by rw [getO_app]; rfl) rfl (by simp) (by omega) (by omega) r1 (by omega) (by omega)
      have k5 : ∀ h : List AObj, ACalls Try.prog 98 [ints (timesS [t] t 0), .int .i64 t] h (ints (belowD t)) h := fun h => t98 _ t 2 h (by simp [timesS_len]) (by omega) (by omega) r2 (by omega) (by omega)
      have ht' : min total 1073741824 = t := ht.symm
      refine acalls_of fn84 (by simp) ?_
      simp only [List.length_cons, List.length_nil, Nat.reduceAdd, Nat.reduceSub, List.replicate, List.cons_append, List.nil_append, List.append_nil]
      simp (disch := omega) only [c84, h0, h1, madeA, hc', ht', go_sem, wrap64_id, Int.tdiv_eq_ediv_of_nonneg, Int.tmod_eq_emod_of_nonneg]
      repeat' first
        | ((first | refine callA_pure (k1 _) ?_ ?_ | refine callA_pure (k2 _) ?_ ?_ | refine callA_pure (k3 _) ?_ ?_ | refine callA_pure (k4 _ _) ?_ ?_ | refine callA_pure (k5 _) ?_ ?_); (next => repeat' first | exact flags_n | refine flags_c (by first | rfl | assumption) ?_); simp (disch := omega) only [h0, h1, madeA, hc', ht', go_sem, wrap64_id, Int.tdiv_eq_ediv_of_nonneg, Int.tmod_eq_emod_of_nonneg])
        | ((first | refine callG_pure (fun e => ⟨?_, k1 _⟩) ?_ | refine callG_pure (fun e => ⟨?_, k2 _⟩) ?_ | refine callG_pure (fun e => ⟨?_, k3 _⟩) ?_ | refine callG_pure (fun e => ⟨?_, k4 _ _⟩) ?_ | refine callG_pure (fun e => ⟨?_, k5 _⟩) ?_); (next => repeat' first | exact flags_n | refine flags_c (by first | rfl | assumption) ?_); simp (disch := omega) only [h0, h1, madeA, hc', ht', go_sem, wrap64_id, Int.tdiv_eq_ediv_of_nonneg, Int.tmod_eq_emod_of_nonneg])
        | ((first | refine fnQ_pure1 ?_ ?_ | refine fnQ_pure0 ?_ ?_); (next => repeat' first | exact rvs_n | refine rvs_t ?_ | (simp [go_sem]; done)); simp only [go_sem]; (first | exact VLe.refl _ | refine VLe_int ?_ | refine VLe_bool ?_ | refine VLe_str ?_ | skip))
        | (with_reducible refine And.intro ?_ ?_)
        | with_reducible intro _
      all_goals first
        | omega
        | skip
      obtain ⟨Q, hQ⟩ : ∃ Q, Q = 100 * c ^ 3 / t ^ 3 := ⟨_, rfl⟩
      rw [← hQ]
      have ht3 : 0 < t ^ 3 := Int.pow_pos tt.1
      have hQ0 : 0 ≤ Q := by rw [hQ]; exact Int.ediv_nonneg (Int.mul_nonneg (by omega) (Int.pow_nonneg cc.1)) (by omega)
      refine loop_of (T := fun i : Int × Int => spar 55 [(7, ints (aboveD c)), (8, ints (belowD t)), (9, .int .i64 i.1), (10, .int .i64 i.2)]) (H := fun _ => h ++ [.mem 1 3 [.int .i64 c], .mem 1 3 [.int .i64 t]])
        (inv := fun i => 0 ≤ i.1 ∧ i.1 ≤ i.2 ∧ i.2 ≤ 10000 ∧ i.1 ≤ Q ∧ (i.2 = 10000 ∨ Q ≤ i.2)) (m := fun i => (i.2 - i.1).toNat) (0, 10000) ⟨by simp, by simp, by simp, hQ0, .inl rfl⟩ (Wk.temps ?_) ?_
      · (simp only [items, ints, spar, List.foldl, List.replicate, go_sem, VLes_nil, VLes_cons, VLe_undef_iff, VLe_self]; try (repeat' first | (with_reducible refine And.intro ?_ ?_) | (refine VLe_int ?_; omega) | (refine VLe_bool ?_; rfl) | exact VLe.refl _))
      · rintro ⟨lo, hi⟩ ⟨i1, i2, i3, i4, i5⟩ K hK
        simp only at i1 i2 i3 i4 i5 hK
        by_cases hlt : lo < hi
        · obtain ⟨m, hm⟩ : ∃ m, m = (lo + hi + 1) / 2 := ⟨_, rfl⟩
          have m0 : 0 ≤ m := by omega
          have k6 : ∀ h : List AObj, ACalls Try.prog 98 [ints (belowD t), .int .i64 m] h (ints (timesS (belowD t) m 0)) h := fun h => t98 _ m 4 h (by simp [belowD, timesS_len]) (by omega) (by omega) r3 m0 (by omega)
          have k7 : ∀ h : List AObj, ACalls Try.prog 99 [ints (timesS (belowD t) m 0), ints (aboveD c)] h (.bool (decide (m ≤ Q))) h := fun h => by
            have e4 : (timesS (belowD t) m 0).length = 4 := by simp [belowD, timesS_len]
            have := t99 (timesS (belowD t) m 0) (aboveD c) h (by omega) (by rw [e4]; simp [aboveD, timesS_len])
            rw [e4, cmp_val cc.1 (by omega) m0] at this
            simp only [mul_le_iff ht3, ← hQ] at this
            exact this
          have hm' := hm.symm
          by_cases hd : m ≤ Q
          · simp (disch := omega) only [spar, List.foldl, List.replicate, hm', go_sem, wrap64_id, Int.tdiv_eq_ediv_of_nonneg, Int.tmod_eq_emod_of_nonneg]
            repeat' first
              | ((first | refine callA_pure (k6 _) ?_ ?_ | refine callA_pure (k7 _) ?_ ?_); (next => repeat' first | exact flags_n | refine flags_c (by first | rfl | assumption) ?_); simp (disch := omega) only [hm', hd, go_sem, wrap64_id, Int.tdiv_eq_ediv_of_nonneg, Int.tmod_eq_emod_of_nonneg])
              | ((first | refine callG_pure (fun e => ⟨?_, k6 _⟩) ?_ | refine callG_pure (fun e => ⟨?_, k7 _⟩) ?_); (next => repeat' first | exact flags_n | refine flags_c (by first | rfl | assumption) ?_); simp (disch := omega) only [hm', hd, go_sem, wrap64_id, Int.tdiv_eq_ediv_of_nonneg, Int.tmod_eq_emod_of_nonneg])
              | ((first | refine fnQ_pure1 ?_ ?_ | refine fnQ_pure0 ?_ ?_); (next => repeat' first | exact rvs_n | refine rvs_t ?_ | (simp [go_sem]; done)); simp only [go_sem]; (first | exact VLe.refl _ | refine VLe_int ?_ | refine VLe_bool ?_ | refine VLe_str ?_ | skip))
              | (with_reducible refine And.intro ?_ ?_)
              | with_reducible intro _
            all_goals first
              | omega
              | skip
            refine hK _ _ (m, hi) ⟨by simp only; omega, by simp only; omega, i3, hd, i5⟩ (by simp only; omega) (Wk.temps ?_)
            (simp only [items, ints, spar, List.foldl, List.replicate, go_sem, VLes_nil, VLes_cons, VLe_undef_iff, VLe_self]; try (repeat' first | (with_reducible refine And.intro ?_ ?_) | (refine VLe_int ?_; omega) | (refine VLe_bool ?_; rfl) | exact VLe.refl _))
          · simp (disch := omega) only [spar, List.foldl, List.replicate, hm', go_sem, wrap64_id, Int.tdiv_eq_ediv_of_nonneg, Int.tmod_eq_emod_of_nonneg]
            repeat' first
              | ((first | refine callA_pure (k6 _) ?_ ?_ | refine callA_pure (k7 _) ?_ ?_); (next => repeat' first | exact flags_n | refine flags_c (by first | rfl | assumption) ?_); simp (disch := omega) only [hm', hd, go_sem, wrap64_id, Int.tdiv_eq_ediv_of_nonneg, Int.tmod_eq_emod_of_nonneg])
              | ((first | refine callG_pure (fun e => ⟨?_, k6 _⟩) ?_ | refine callG_pure (fun e => ⟨?_, k7 _⟩) ?_); (next => repeat' first | exact flags_n | refine flags_c (by first | rfl | assumption) ?_); simp (disch := omega) only [hm', hd, go_sem, wrap64_id, Int.tdiv_eq_ediv_of_nonneg, Int.tmod_eq_emod_of_nonneg])
              | ((first | refine fnQ_pure1 ?_ ?_ | refine fnQ_pure0 ?_ ?_); (next => repeat' first | exact rvs_n | refine rvs_t ?_ | (simp [go_sem]; done)); simp only [go_sem]; (first | exact VLe.refl _ | refine VLe_int ?_ | refine VLe_bool ?_ | refine VLe_str ?_ | skip))
              | (with_reducible refine And.intro ?_ ?_)
              | with_reducible intro _
            all_goals first
              | omega
              | skip
            refine hK _ _ (lo, m - 1) ⟨i1, by simp only; omega, by simp only; omega, i4, by simp only; omega⟩ (by simp only; omega) (Wk.temps ?_)
            (simp only [items, ints, spar, List.foldl, List.replicate, go_sem, VLes_nil, VLes_cons, VLe_undef_iff, VLe_self]; try (repeat' first | (with_reducible refine And.intro ?_ ?_) | (refine VLe_int ?_; omega) | (refine VLe_bool ?_; rfl) | exact VLe.refl _))
        · simp (disch := omega) only [spar, List.foldl, List.replicate, go_sem, wrap64_id, Int.tdiv_eq_ediv_of_nonneg, Int.tmod_eq_emod_of_nonneg]
          repeat' first
            | ((first | refine fnQ_pure1 ?_ ?_ | refine fnQ_pure0 ?_ ?_); (next => repeat' first | exact rvs_n | refine rvs_t ?_ | (simp [go_sem]; done)); simp only [go_sem]; (first | exact VLe.refl _ | refine VLe_int ?_ | refine VLe_bool ?_ | refine VLe_str ?_ | skip))
            | (with_reducible refine And.intro ?_ ?_)
            | with_reducible intro _
          all_goals first
            | omega
            | skip
end

section
/-! the text C3 -/
open Go Go.Proofs AF P48
set_option maxRecDepth 100000
theorem t82 (l : List It) (a b : Nat) (h : List AObj) (hv : Valid l) (hab : a ≤ b) (hb : b ≤ l.length) :
    ACalls Try.prog 82 [items l, .int .i64 a, .int .i64 b] h (.tup [.int .i64 (if atBreak l b then sumOf Item.width l (begin_ l a b) b + (it l b).width else sumOf Item.width l (begin_ l a b) b), .int .i64 (sumOf Item.stretch l (begin_ l a b) b), .int .i64 (sumOf Item.shrink l (begin_ l a b) b)]) h := by
  have hl := hv.len
  obtain ⟨f, hf⟩ : ∃ f, f = begin_ l a b := ⟨_, rfl⟩
  have hfb := begin_le l hab
  rw [← hf] at hfb ⊢
  have hc53 : ∀ h : List AObj, ACalls Try.prog 53 [items l, .int .i64 a, .int .i64 b] h (.int .i64 f) h := fun h => by rw [hf]; exact t53 l a b h hab hb (by omega)
  have bW : ∀ c, c ≤ 300 → 0 ≤ sumOf Item.width l f c ∧ sumOf Item.width l f c ≤ 400000000000 := fun c hc => sumOf_bound _ l (fun i => (hv.num i).1) f c hc
  have bT : ∀ c, c ≤ 300 → 0 ≤ sumOf Item.stretch l f c ∧ sumOf Item.stretch l f c ≤ 400000000000 := fun c hc => sumOf_bound _ l (fun i => (hv.num i).2.1) f c hc
  have bS : ∀ c, c ≤ 300 → 0 ≤ sumOf Item.shrink l f c ∧ sumOf Item.shrink l f c ≤ 400000000000 := fun c hc => sumOf_bound _ l (fun i => (hv.num i).2.2.1) f c hc
  refine acalls_of fn82 (by simp) ?_
  simp only [List.length_cons, List.length_nil, Nat.reduceAdd, Nat.reduceSub, List.replicate, List.cons_append, List.nil_append, List.append_nil]
  simp (disch := omega) only [c82, go_sem, wrap64_id, Int.tdiv_eq_ediv_of_nonneg, Int.tmod_eq_emod_of_nonneg]
  repeat' first
    | ((first | refine callA_pure (hc53 _) ?_ ?_); (next => repeat' first | exact flags_n | refine flags_c (by first | rfl | assumption) ?_); simp (disch := omega) only [go_sem, wrap64_id, Int.tdiv_eq_ediv_of_nonneg, Int.tmod_eq_emod_of_nonneg])
    | ((first | refine callG_pure (fun e => ⟨?_, hc53 _⟩) ?_); (next => repeat' first | exact flags_n | refine flags_c (by first | rfl | assumption) ?_); simp (disch := omega) only [go_sem, wrap64_id, Int.tdiv_eq_ediv_of_nonneg, Int.tmod_eq_emod_of_nonneg])
    | ((first | refine fnQ_pure1 ?_ ?_ | refine fnQ_pure0 ?_ ?_); (next => repeat' first | exact rvs_n | refine rvs_t ?_ | (simp [go_sem]; done)); simp only [go_sem]; (first | exact VLe.refl _ | refine VLe_int ?_ | refine VLe_bool ?_ | refine VLe_str ?_ | skip))
    | (with_reducible refine And.intro ?_ ?_)
    | with_reducible intro _
  all_goals first
    | omega
    | skip
  refine loop_of (T := fun i : Nat => spar 71 [(0, items l), (2, .int .i64 b), (9, .int .i64 (sumOf Item.width l f i)), (10, .int .i64 (sumOf Item.stretch l f i)), (11, .int .i64 (sumOf Item.shrink l f i)), (12, .int .i64 i)]) (H := fun _ => h) (inv := fun i => f ≤ i ∧ i ≤ b) (m := fun i => b - i) f ⟨by omega, by omega⟩ ?_ ?_
  · rw [sumOf_self, sumOf_self, sumOf_self]
    refine Wk.temps ?_
    (simp only [items, ints, spar, List.foldl, List.replicate, go_sem, VLes_nil, VLes_cons, VLe_undef_iff, VLe_self]; try (repeat' first | (with_reducible refine And.intro ?_ ?_) | (refine VLe_int ?_; omega) | (refine VLe_bool ?_; rfl) | exact VLe.refl _))
  · rintro i ⟨i1, i2⟩ K hK
    have q1 := bW i (by omega)
    have q2 := bT i (by omega)
    have q3 := bS i (by omega)
    have q4 := hv.num i
    have q5 := hv.num b
    by_cases hi : i < b
    · have s1 := sumOf_snoc Item.width l i1
      have s2 := sumOf_snoc Item.stretch l i1
      have s3 := sumOf_snoc Item.shrink l i1
      by_cases hk : (it l i).kind = 3
      · rw [if_pos hk] at s1 s2 s3
        simp (disch := omega) only [spar, List.foldl, List.replicate, items, itemC, hk, go_sem, wrap64_id, Int.tdiv_eq_ediv_of_nonneg, Int.tmod_eq_emod_of_nonneg]
        repeat' first
          | ((first | refine fnQ_pure1 ?_ ?_ | refine fnQ_pure0 ?_ ?_); (next => repeat' first | exact rvs_n | refine rvs_t ?_ | (simp [go_sem]; done)); simp only [go_sem]; (first | exact VLe.refl _ | refine VLe_int ?_ | refine VLe_bool ?_ | refine VLe_str ?_ | skip))
          | (with_reducible refine And.intro ?_ ?_)
          | with_reducible intro _
        all_goals first
          | omega
          | skip
        refine hK _ _ (i + 1) ⟨by omega, by omega⟩ (by omega) ?_
        rw [s1, s2, s3, Int.add_zero, Int.add_zero, Int.add_zero]
        refine Wk.temps ?_
        (simp only [itemC, items, ints, spar, List.foldl, List.replicate, go_sem, VLes_nil, VLes_cons, VLe_undef_iff, VLe_self]; try (repeat' first | (with_reducible refine And.intro ?_ ?_) | (refine VLe_int ?_; omega) | (refine VLe_bool ?_; rfl) | exact VLe.refl _))
      · rw [if_neg hk] at s1 s2 s3
        simp (disch := omega) only [spar, List.foldl, List.replicate, items, itemC, hk, go_sem, wrap64_id, Int.tdiv_eq_ediv_of_nonneg, Int.tmod_eq_emod_of_nonneg]
        repeat' first
          | ((first | refine fnQ_pure1 ?_ ?_ | refine fnQ_pure0 ?_ ?_); (next => repeat' first | exact rvs_n | refine rvs_t ?_ | (simp [go_sem]; done)); simp only [go_sem]; (first | exact VLe.refl _ | refine VLe_int ?_ | refine VLe_bool ?_ | refine VLe_str ?_ | skip))
          | (with_reducible refine And.intro ?_ ?_)
          | with_reducible intro _
        all_goals first
          | omega
          | skip
        refine hK _ _ (i + 1) ⟨by omega, by omega⟩ (by omega) ?_
        rw [s1, s2, s3]
        refine Wk.temps ?_
        (simp only [itemC, items, ints, spar, List.foldl, List.replicate, go_sem, VLes_nil, VLes_cons, VLe_undef_iff, VLe_self]; try (repeat' first | (with_reducible refine And.intro ?_ ?_) | (refine VLe_int ?_; omega) | (refine VLe_bool ?_; rfl) | exact VLe.refl _))
    · have e : i = b := by omega
      subst e
      unfold atBreak
      by_cases hk : i < l.length
      · by_cases h3 : (it l i).kind = 3
        · simp (disch := omega) only [spar, List.foldl, List.replicate, items, itemC, h3, hk, go_sem, wrap64_id, Int.tdiv_eq_ediv_of_nonneg, Int.tmod_eq_emod_of_nonneg]
          repeat' first
            | ((first | refine fnQ_pure1 ?_ ?_ | refine fnQ_pure0 ?_ ?_); (next => repeat' first | exact rvs_n | refine rvs_t ?_ | (simp [go_sem]; done)); simp only [go_sem]; (first | exact VLe.refl _ | refine VLe_int ?_ | refine VLe_bool ?_ | refine VLe_str ?_ | skip))
            | (with_reducible refine And.intro ?_ ?_)
            | with_reducible intro _
          all_goals first
            | omega
            | skip
        · simp (disch := omega) only [spar, List.foldl, List.replicate, items, itemC, h3, hk, go_sem, wrap64_id, Int.tdiv_eq_ediv_of_nonneg, Int.tmod_eq_emod_of_nonneg]
          repeat' first
            | ((first | refine fnQ_pure1 ?_ ?_ | refine fnQ_pure0 ?_ ?_); (next => repeat' first | exact rvs_n | refine rvs_t ?_ | (simp [go_sem]; done)); simp only [go_sem]; (first | exact VLe.refl _ | refine VLe_int ?_ | refine VLe_bool ?_ | refine VLe_str ?_ | skip))
            | (with_reducible refine And.intro ?_ ?_)
            | with_reducible intro _
          all_goals first
            | omega
            | skip
      · simp (disch := omega) only [spar, List.foldl, List.replicate, items, itemC, hk, go_sem, wrap64_id, Int.tdiv_eq_ediv_of_nonneg, Int.tmod_eq_emod_of_nonneg]
        repeat' first
          | ((first | refine fnQ_pure1 ?_ ?_ | refine fnQ_pure0 ?_ ?_); (next => repeat' first | exact rvs_n | refine rvs_t ?_ | (simp [go_sem]; done)); simp only [go_sem]; (first | exact VLe.refl _ | refine VLe_int ?_ | refine VLe_bool ?_ | refine VLe_str ?_ | skip))
          | (with_reducible refine And.intro ?_ ?_)
          | with_reducible intro _
        all_goals first
          | omega
          | skip
theorem t52 (l : List It) (width : Int) (a b : Nat) (h : List AObj) (hv : Valid l) (w0 : 0 ≤ width) (w1 : width ≤ 1073741824) (hab : a ≤ b) (hb : b ≤ l.length) :
    ACalls Try.prog 52 [items l, .int .i64 width, .int .i64 a, .int .i64 b] h (.tup [.int .i64 (lineOf l width a b).1, .int .i64 (lineOf l width a b).2.1, .bool (lineOf l width a b).2.2]) h := by
  obtain ⟨f, hf⟩ : ∃ f, f = begin_ l a b := ⟨_, rfl⟩
  have hl := hv.len
  have bW := sumOf_bound _ l (fun i => (hv.num i).1) f b (by omega)
  have bT := sumOf_bound _ l (fun i => (hv.num i).2.1) f b (by omega)
  have bS := sumOf_bound _ l (fun i => (hv.num i).2.2.1) f b (by omega)
  have hbn := hv.num b
  obtain ⟨n, hn⟩ : ∃ n, n = if atBreak l b then sumOf Item.width l f b + (it l b).width else sumOf Item.width l f b := ⟨_, rfl⟩
  have hn0 : 0 ≤ n ∧ n ≤ 500000000000 := by rw [hn]; split <;> omega
  have h82 : ∀ h : List AObj, ACalls Try.prog 82 [items l, .int .i64 a, .int .i64 b] h (.tup [.int .i64 n, .int .i64 (sumOf Item.stretch l f b), .int .i64 (sumOf Item.shrink l f b)]) h := fun h => by have := t82 l a b h hv hab hb; rw [← hf, ← hn] at this; exact this
  have hfit : lineOf l width a b = if 0 ≤ width - n then (if b = l.length ∨ forced l b = true then (0, 0, true) else (badness (width - n) (sumOf Item.stretch l f b), width - n, true)) else if -(width - n) ≤ sumOf Item.shrink l f b then (badness (-(width - n)) (sumOf Item.shrink l f b), width - n, true) else (0, 0, false) := by
    unfold lineOf fit
    rw [← hf]
    simp only [← hn]
  rw [hfit]
  by_cases h1 : 0 ≤ width - n
  · rw [if_pos h1]
    have hx : ¬ width < n := by omega
    have hx2 : n ≤ width := by omega
    by_cases h2 : b = l.length ∨ forced l b = true
    · rw [if_pos h2]
      refine acalls_of fn52 (by simp) ?_
      simp only [List.length_cons, List.length_nil, Nat.reduceAdd, Nat.reduceSub, List.replicate, List.cons_append, List.nil_append, List.append_nil]
      simp (disch := omega) only [c52, items, go_sem, wrap64_id, Int.tdiv_eq_ediv_of_nonneg, Int.tmod_eq_emod_of_nonneg]
      repeat' first
        | ((first | refine callA_pure (h82 _) ?_ ?_ | refine callA_pure (t83 l b _) ?_ ?_); (next => repeat' first | exact flags_n | refine flags_c (by first | rfl | assumption) ?_); simp (disch := omega) only [hx, hx2, items, go_sem, wrap64_id, Int.tdiv_eq_ediv_of_nonneg, Int.tmod_eq_emod_of_nonneg])
        | ((first | refine callG_pure (fun e => ⟨?_, h82 _⟩) ?_ | refine callG_pure (fun e => ⟨?_, t83 l b _⟩) ?_); (next => repeat' first | exact flags_n | refine flags_c (by first | rfl | assumption) ?_); simp (disch := omega) only [hx, hx2, items, go_sem, wrap64_id, Int.tdiv_eq_ediv_of_nonneg, Int.tmod_eq_emod_of_nonneg])
        | ((first | refine fnQ_pure1 ?_ ?_ | refine fnQ_pure0 ?_ ?_); (next => repeat' first | exact rvs_n | refine rvs_t ?_ | (simp [go_sem]; done)); simp only [go_sem]; (first | exact VLe.refl _ | refine VLe_int ?_ | refine VLe_bool ?_ | refine VLe_str ?_ | skip))
        | (with_reducible refine And.intro ?_ ?_)
        | with_reducible intro _
      all_goals first
        | omega
        | grind
    · rw [if_neg h2]
      rw [not_or] at h2
      obtain ⟨g1, g2⟩ := h2
      have g2' : forced l b = false := by simpa using g2
      refine acalls_of fn52 (by simp) ?_
      simp only [List.length_cons, List.length_nil, Nat.reduceAdd, Nat.reduceSub, List.replicate, List.cons_append, List.nil_append, List.append_nil]
      simp (disch := omega) only [c52, items, go_sem, wrap64_id, Int.tdiv_eq_ediv_of_nonneg, Int.tmod_eq_emod_of_nonneg]
      repeat' first
        | ((first | refine callA_pure (h82 _) ?_ ?_ | refine callA_pure (t83 l b _) ?_ ?_ | refine callA_pure (t84 (width - n) (sumOf Item.stretch l f b) _ (by omega) (by omega) (by omega)) ?_ ?_); (next => repeat' first | exact flags_n | refine flags_c (by first | rfl | assumption) ?_); simp (disch := omega) only [hx, hx2, items, g2', go_sem, wrap64_id, Int.tdiv_eq_ediv_of_nonneg, Int.tmod_eq_emod_of_nonneg])
        | ((first | refine callG_pure (fun e => ⟨?_, h82 _⟩) ?_ | refine callG_pure (fun e => ⟨?_, t83 l b _⟩) ?_ | refine callG_pure (fun e => ⟨?_, t84 (width - n) (sumOf Item.stretch l f b) _ (by omega) (by omega) (by omega)⟩) ?_); (next => repeat' first | exact flags_n | refine flags_c (by first | rfl | assumption) ?_); simp (disch := omega) only [hx, hx2, items, g2', go_sem, wrap64_id, Int.tdiv_eq_ediv_of_nonneg, Int.tmod_eq_emod_of_nonneg])
        | ((first | refine fnQ_pure1 ?_ ?_ | refine fnQ_pure0 ?_ ?_); (next => repeat' first | exact rvs_n | refine rvs_t ?_ | (simp [go_sem]; done)); simp only [go_sem]; (first | exact VLe.refl _ | refine VLe_int ?_ | refine VLe_bool ?_ | refine VLe_str ?_ | skip))
        | (with_reducible refine And.intro ?_ ?_)
        | with_reducible intro _
      all_goals first
        | omega
        | grind
  · rw [if_neg h1]
    have hx2 : ¬ n ≤ width := by omega
    have hx3 : n - width = -(width - n) := by omega
    by_cases h2 : -(width - n) ≤ sumOf Item.shrink l f b
    · rw [if_pos h2]
      have hx4 : ¬ sumOf Item.shrink l f b < n - width := by omega
      rw [← hx3]
      refine acalls_of fn52 (by simp) ?_
      simp only [List.length_cons, List.length_nil, Nat.reduceAdd, Nat.reduceSub, List.replicate, List.cons_append, List.nil_append, List.append_nil]
      simp (disch := omega) only [c52, items, go_sem, wrap64_id, Int.tdiv_eq_ediv_of_nonneg, Int.tmod_eq_emod_of_nonneg]
      repeat' first
        | ((first | refine callA_pure (h82 _) ?_ ?_ | refine callA_pure (t83 l b _) ?_ ?_ | refine callA_pure (t84 (n - width) (sumOf Item.shrink l f b) _ (by omega) (by omega) (by omega)) ?_ ?_); (next => repeat' first | exact flags_n | refine flags_c (by first | rfl | assumption) ?_); simp (disch := omega) only [hx2, items, hx4, go_sem, wrap64_id, Int.tdiv_eq_ediv_of_nonneg, Int.tmod_eq_emod_of_nonneg])
        | ((first | refine callG_pure (fun e => ⟨?_, h82 _⟩) ?_ | refine callG_pure (fun e => ⟨?_, t83 l b _⟩) ?_ | refine callG_pure (fun e => ⟨?_, t84 (n - width) (sumOf Item.shrink l f b) _ (by omega) (by omega) (by omega)⟩) ?_); (next => repeat' first | exact flags_n | refine flags_c (by first | rfl | assumption) ?_); simp (disch := omega) only [hx2, items, hx4, go_sem, wrap64_id, Int.tdiv_eq_ediv_of_nonneg, Int.tmod_eq_emod_of_nonneg])
        | ((first | refine fnQ_pure1 ?_ ?_ | refine fnQ_pure0 ?_ ?_); (next => repeat' first | exact rvs_n | refine rvs_t ?_ | (simp [go_sem]; done)); simp only [go_sem]; (first | exact VLe.refl _ | refine VLe_int ?_ | refine VLe_bool ?_ | refine VLe_str ?_ | skip))
        | (with_reducible refine And.intro ?_ ?_)
        | with_reducible intro _
      all_goals first
        | omega
        | grind
    · rw [if_neg h2]
      have hx4 : sumOf Item.shrink l f b < n - width := by omega
      refine acalls_of fn52 (by simp) ?_
      simp only [List.length_cons, List.length_nil, Nat.reduceAdd, Nat.reduceSub, List.replicate, List.cons_append, List.nil_append, List.append_nil]
      simp (disch := omega) only [c52, items, go_sem, wrap64_id, Int.tdiv_eq_ediv_of_nonneg, Int.tmod_eq_emod_of_nonneg]
      repeat' first
        | ((first | refine callA_pure (h82 _) ?_ ?_ | refine callA_pure (t83 l b _) ?_ ?_); (next => repeat' first | exact flags_n | refine flags_c (by first | rfl | assumption) ?_); simp (disch := omega) only [hx2, items, hx4, go_sem, wrap64_id, Int.tdiv_eq_ediv_of_nonneg, Int.tmod_eq_emod_of_nonneg])
        | ((first | refine callG_pure (fun e => ⟨?_, h82 _⟩) ?_ | refine callG_pure (fun e => ⟨?_, t83 l b _⟩) ?_); (next => repeat' first | exact flags_n | refine flags_c (by first | rfl | assumption) ?_); simp (disch := omega) only [hx2, items, hx4, go_sem, wrap64_id, Int.tdiv_eq_ediv_of_nonneg, Int.tmod_eq_emod_of_nonneg])
        | ((first | refine fnQ_pure1 ?_ ?_ | refine fnQ_pure0 ?_ ?_); (next => repeat' first | exact rvs_n | refine rvs_t ?_ | (simp [go_sem]; done)); simp only [go_sem]; (first | exact VLe.refl _ | refine VLe_int ?_ | refine VLe_bool ?_ | refine VLe_str ?_ | skip))
        | (with_reducible refine And.intro ?_ ?_)
        | with_reducible intro _
      all_goals first
        | omega
        | grind
theorem t54 (l : List It) (width : Int) (a b : Nat) (h : List AObj) (hv : Valid l) (w0 : 0 ≤ width) (w1 : width ≤ 1073741824) (hab : a ≤ b) (hb : b ≤ l.length) :
    ACalls Try.prog 54 [items l, .int .i64 width, .int .i64 a, .int .i64 b] h (.tup [.int .i64 ((cost l width a b).getD 0), .bool (cost l width a b).isSome]) h := by
  have hbn := hv.num b
  have hr := fit_nonneg l width (sumOf Item.width l (begin_ l a b) b) (sumOf Item.stretch l (begin_ l a b) b) (sumOf Item.shrink l (begin_ l a b) b) b
  obtain ⟨c, hc⟩ : ∃ c, c = lineOf l width a b := ⟨_, rfl⟩
  have hr' : 0 ≤ c.1 ∧ c.1 ≤ 10000 := by rw [hc]; exact hr
  have h52 : ∀ h : List AObj, ACalls Try.prog 52 [items l, .int .i64 width, .int .i64 a, .int .i64 b] h (.tup [.int .i64 c.1, .int .i64 c.2.1, .bool c.2.2]) h := fun h => by rw [hc]; exact t52 l width a b h hv w0 w1 hab hb
  unfold cost
  rw [← hc]
  cases hc2 : c.2.2 with
  | false =>
    rw [hc2] at h52
    refine acalls_of fn54 (by simp) ?_
    simp only [List.length_cons, List.length_nil, Nat.reduceAdd, Nat.reduceSub, List.replicate, List.cons_append, List.nil_append, List.append_nil]
    simp (disch := omega) only [c54, items, itemC, go_sem, wrap64_id, Int.tdiv_eq_ediv_of_nonneg, Int.tmod_eq_emod_of_nonneg]
    repeat' first
      | ((first | refine callA_pure (h52 _) ?_ ?_ | refine callA_pure (t83 l b _) ?_ ?_); (next => repeat' first | exact flags_n | refine flags_c (by first | rfl | assumption) ?_); simp (disch := omega) only [items, itemC, go_sem, wrap64_id, Int.tdiv_eq_ediv_of_nonneg, Int.tmod_eq_emod_of_nonneg])
      | ((first | refine callG_pure (fun e => ⟨?_, h52 _⟩) ?_ | refine callG_pure (fun e => ⟨?_, t83 l b _⟩) ?_); (next => repeat' first | exact flags_n | refine flags_c (by first | rfl | assumption) ?_); simp (disch := omega) only [items, itemC, go_sem, wrap64_id, Int.tdiv_eq_ediv_of_nonneg, Int.tmod_eq_emod_of_nonneg])
      | ((first | refine fnQ_pure1 ?_ ?_ | refine fnQ_pure0 ?_ ?_); (next => repeat' first | exact rvs_n | refine rvs_t ?_ | (simp [go_sem]; done)); simp only [go_sem]; (first | exact VLe.refl _ | refine VLe_int ?_ | refine VLe_bool ?_ | refine VLe_str ?_ | skip))
      | (with_reducible refine And.intro ?_ ?_)
      | with_reducible intro _
    all_goals first
      | omega
      | skip
    all_goals trace_state
  | true =>
    rw [hc2] at h52
    obtain ⟨p, hp⟩ : ∃ p, p = penalty l b := ⟨_, rfl⟩
    rw [← hp]
    unfold penalty atBreak at hp
    refine acalls_of fn54 (by simp) ?_
    simp only [List.length_cons, List.length_nil, Nat.reduceAdd, Nat.reduceSub, List.replicate, List.cons_append, List.nil_append, List.append_nil]
    simp (disch := omega) only [c54, items, itemC, go_sem, wrap64_id, Int.tdiv_eq_ediv_of_nonneg, Int.tmod_eq_emod_of_nonneg]
    repeat' first
      | ((first | refine callA_pure (h52 _) ?_ ?_ | refine callA_pure (t83 l b _) ?_ ?_); (next => repeat' first | exact flags_n | refine flags_c (by first | rfl | assumption) ?_); simp (disch := omega) only [items, itemC, go_sem, wrap64_id, Int.tdiv_eq_ediv_of_nonneg, Int.tmod_eq_emod_of_nonneg])
      | ((first | refine callG_pure (fun e => ⟨?_, h52 _⟩) ?_ | refine callG_pure (fun e => ⟨?_, t83 l b _⟩) ?_); (next => repeat' first | exact flags_n | refine flags_c (by first | rfl | assumption) ?_); simp (disch := omega) only [items, itemC, go_sem, wrap64_id, Int.tdiv_eq_ediv_of_nonneg, Int.tmod_eq_emod_of_nonneg])
      | ((first | refine fnQ_pure1 ?_ ?_ | refine fnQ_pure0 ?_ ?_); (next => repeat' first | exact rvs_n | refine rvs_t ?_ | (simp [go_sem]; done)); simp only [go_sem]; (first | exact VLe.refl _ | refine VLe_int ?_ | refine VLe_bool ?_ | refine VLe_str ?_ | skip))
      | (with_reducible refine And.intro ?_ ?_)
      | with_reducible intro _
    all_goals first
      | omega
      | skip
    all_goals
      refine VLe_tup (VLes2 (VLe_int ?_) (VLes2 (VLe_bool rfl) VLes.nil))
      try simp only [Option.getD_some]
      grind
end

section
/-! the text C4 -/
open Go Go.Proofs AF P48
set_option maxRecDepth 100000
theorem listGo_step (l : List It) (bs : List Int) (frm i : Nat) (hi : i < bs.length) : listGo l frm (bs.drop i) = ((decide ((frm : Int) ≤ bs.getD i 0) && (decide (bs.getD i 0 ≤ l.length) && (ends l (bs.getD i 0).toNat && free l frm (bs.getD i 0).toNat))) && listGo l ((bs.getD i 0).toNat + 1) (bs.drop (i + 1))) := by
  rw [List.drop_eq_getElem_cons hi]
  have e : bs[i] = bs.getD i 0 := by simp [List.getD_eq_getElem?_getD, hi]
  rw [e]
  simp only [listGo]
theorem lastIs_eq (l : List It) (bs : List Int) : lastIs l bs = (decide (0 < bs.length) && decide (bs.getD (bs.length - 1) 0 = l.length)) := by
  unfold lastIs
  rw [List.getLast?_eq_getElem?]
  cases bs with
  | nil => simp
  | cons a r => simp [List.getD_eq_getElem?_getD]
theorem t51 (l : List It) (bs : List Int) (h : List AObj) (hl : l.length ≤ 300) (hb : bs.length ≤ 1000000) : ACalls Try.prog 51 [items l, ints bs] h (.bool (listS l bs)) h := by
  have hnl : (items l).flag = true := rfl
  unfold listS
  rw [lastIs_eq]
  refine acalls_of fn51 (by simp) ?_
  simp only [List.length_cons, List.length_nil, Nat.reduceAdd, Nat.reduceSub, List.replicate, List.cons_append, List.nil_append, List.append_nil]
  simp (disch := omega) only [c51, ints, go_sem, wrap64_id, Int.tdiv_eq_ediv_of_nonneg, Int.tmod_eq_emod_of_nonneg]
  refine loop_of (T := fun i : Nat × Nat => spar 56 [(0, items l), (1, ints bs), (5, .int .i64 i.2), (6, .int .i64 i.1)]) (H := fun _ => h) (inv := fun i => i.1 ≤ bs.length ∧ i.2 ≤ l.length + 1 ∧ listGo l 0 bs = listGo l i.2 (bs.drop i.1)) (m := fun i => bs.length - i.1) (0, 0) ⟨by simp only; omega, by simp only; omega, by simp⟩ (Wk.temps ?_) ?_
  · (simp only [items, ints, spar, List.foldl, List.replicate, go_sem, VLes_nil, VLes_cons, VLe_undef_iff, VLe_self]; try (repeat' first | (with_reducible refine And.intro ?_ ?_) | (refine VLe_int ?_; omega) | (refine VLe_bool ?_; rfl) | exact VLe.refl _))
  · rintro ⟨i, frm⟩ ⟨i1, i2, i3⟩ K hK
    simp only at i1 i2 i3 hK
    rw [i3]
    by_cases hi : i < bs.length
    · rw [listGo_step l bs frm i hi] at i3 ⊢
      obtain ⟨x, hx⟩ : ∃ x, x = bs.getD i 0 := ⟨_, rfl⟩
      rw [← hx] at i3 ⊢
      have hx' := hx.symm
      by_cases g1 : (frm : Int) ≤ x
      · by_cases g2 : x ≤ l.length
        · obtain ⟨n, rfl⟩ : ∃ n : Nat, x = n := ⟨x.toNat, by omega⟩
          rw [Int.toNat_natCast] at i3 ⊢
          have hn : n ≤ l.length := by omega
          cases g3 : ends l n with
          | false =>
            simp (disch := omega) only [spar, List.foldl, List.replicate, ints, items, hx', go_sem, wrap64_id, Int.tdiv_eq_ediv_of_nonneg, Int.tmod_eq_emod_of_nonneg]
            repeat' first
              | (refine callG_false ((.bool false)) ?_; simp (disch := omega) only [ints, items, hx', g3, go_sem, wrap64_id, Int.tdiv_eq_ediv_of_nonneg, Int.tmod_eq_emod_of_nonneg])
              | ((first | refine callA_pure (t56 l n _ hn (by omega)) ?_ ?_ | refine callA_pure (t57 l frm n _ (by omega) (by omega)) ?_ ?_); (next => repeat' first | exact flags_n | refine flags_c (by first | rfl | assumption) ?_); simp (disch := omega) only [ints, items, hx', g3, go_sem, wrap64_id, Int.tdiv_eq_ediv_of_nonneg, Int.tmod_eq_emod_of_nonneg])
              | ((first | refine callG_pure (fun e => ⟨?_, t56 l n _ hn (by omega)⟩) ?_ | refine callG_pure (fun e => ⟨?_, t57 l frm n _ (by omega) (by omega)⟩) ?_); (next => repeat' first | exact flags_n | refine flags_c (by first | rfl | assumption) ?_); simp (disch := omega) only [ints, items, hx', g3, go_sem, wrap64_id, Int.tdiv_eq_ediv_of_nonneg, Int.tmod_eq_emod_of_nonneg])
              | ((first | refine fnQ_pure1 ?_ ?_ | refine fnQ_pure0 ?_ ?_); (next => repeat' first | exact rvs_n | refine rvs_t ?_ | (simp [go_sem]; done)); simp only [go_sem]; (first | exact VLe.refl _ | refine VLe_int ?_ | refine VLe_bool ?_ | refine VLe_str ?_ | skip))
              | (with_reducible refine And.intro ?_ ?_)
              | with_reducible intro _
            all_goals first
              | omega
              | (simp; done)
              | skip
          | true =>
            cases g4 : free l frm n with
            | false =>
              simp (disch := omega) only [spar, List.foldl, List.replicate, ints, items, hx', go_sem, wrap64_id, Int.tdiv_eq_ediv_of_nonneg, Int.tmod_eq_emod_of_nonneg]
              repeat' first
                | (refine callG_false ((.bool false)) ?_; simp (disch := omega) only [ints, items, hx', g3, g4, go_sem, wrap64_id, Int.tdiv_eq_ediv_of_nonneg, Int.tmod_eq_emod_of_nonneg])
                | ((first | refine callA_pure (t56 l n _ hn (by omega)) ?_ ?_ | refine callA_pure (t57 l frm n _ (by omega) (by omega)) ?_ ?_); (next => repeat' first | exact flags_n | refine flags_c (by first | rfl | assumption) ?_); simp (disch := omega) only [ints, items, hx', g3, g4, go_sem, wrap64_id, Int.tdiv_eq_ediv_of_nonneg, Int.tmod_eq_emod_of_nonneg])
                | ((first | refine callG_pure (fun e => ⟨?_, t56 l n _ hn (by omega)⟩) ?_ | refine callG_pure (fun e => ⟨?_, t57 l frm n _ (by omega) (by omega)⟩) ?_); (next => repeat' first | exact flags_n | refine flags_c (by first | rfl | assumption) ?_); simp (disch := omega) only [ints, items, hx', g3, g4, go_sem, wrap64_id, Int.tdiv_eq_ediv_of_nonneg, Int.tmod_eq_emod_of_nonneg])
                | ((first | refine fnQ_pure1 ?_ ?_ | refine fnQ_pure0 ?_ ?_); (next => repeat' first | exact rvs_n | refine rvs_t ?_ | (simp [go_sem]; done)); simp only [go_sem]; (first | exact VLe.refl _ | refine VLe_int ?_ | refine VLe_bool ?_ | refine VLe_str ?_ | skip))
                | (with_reducible refine And.intro ?_ ?_)
                | with_reducible intro _
              all_goals first
                | omega
                | (simp; done)
                | skip
            | true =>
              rw [g3, g4] at i3
              simp (disch := omega) only [spar, List.foldl, List.replicate, ints, items, hx', go_sem, wrap64_id, Int.tdiv_eq_ediv_of_nonneg, Int.tmod_eq_emod_of_nonneg]
              repeat' first
                | (refine callG_false ((.bool false)) ?_; simp (disch := omega) only [ints, items, hx', g3, g4, go_sem, wrap64_id, Int.tdiv_eq_ediv_of_nonneg, Int.tmod_eq_emod_of_nonneg])
                | ((first | refine callA_pure (t56 l n _ hn (by omega)) ?_ ?_ | refine callA_pure (t57 l frm n _ (by omega) (by omega)) ?_ ?_); (next => repeat' first | exact flags_n | refine flags_c (by first | rfl | assumption) ?_); simp (disch := omega) only [ints, items, hx', g3, g4, go_sem, wrap64_id, Int.tdiv_eq_ediv_of_nonneg, Int.tmod_eq_emod_of_nonneg])
                | ((first | refine callG_pure (fun e => ⟨?_, t56 l n _ hn (by omega)⟩) ?_ | refine callG_pure (fun e => ⟨?_, t57 l frm n _ (by omega) (by omega)⟩) ?_); (next => repeat' first | exact flags_n | refine flags_c (by first | rfl | assumption) ?_); simp (disch := omega) only [ints, items, hx', g3, g4, go_sem, wrap64_id, Int.tdiv_eq_ediv_of_nonneg, Int.tmod_eq_emod_of_nonneg])
                | ((first | refine fnQ_pure1 ?_ ?_ | refine fnQ_pure0 ?_ ?_); (next => repeat' first | exact rvs_n | refine rvs_t ?_ | (simp [go_sem]; done)); simp only [go_sem]; (first | exact VLe.refl _ | refine VLe_int ?_ | refine VLe_bool ?_ | refine VLe_str ?_ | skip))
                | (with_reducible refine And.intro ?_ ?_)
                | with_reducible intro _
              all_goals first
                | omega
                | (simp; done)
                | skip
              refine hK _ _ (i + 1, n + 1) ⟨by simp only; omega, by simp only; omega, ?_⟩ (by simp only; omega) (Wk.temps ?_)
              · rw [i3]
                simp [g1, g2]
              · (simp only [items, ints, spar, List.foldl, List.replicate, go_sem, VLes_nil, VLes_cons, VLe_undef_iff, VLe_self]; try (repeat' first | (with_reducible refine And.intro ?_ ?_) | (refine VLe_int ?_; omega) | (refine VLe_bool ?_; rfl) | exact VLe.refl _))
        · have g2' : (l.length : Int) < x := by omega
          have g3' : (x < (frm : Int)) = False := eq_false (by omega)
          simp (disch := omega) only [spar, List.foldl, List.replicate, ints, items, hx', g2', g3', go_sem, wrap64_id, Int.tdiv_eq_ediv_of_nonneg, Int.tmod_eq_emod_of_nonneg]
          repeat' first
            | (refine callG_false ((.bool false)) ?_; simp (disch := omega) only [ints, items, hx', g2', g3', go_sem, wrap64_id, Int.tdiv_eq_ediv_of_nonneg, Int.tmod_eq_emod_of_nonneg])
            | ((first | refine fnQ_pure1 ?_ ?_ | refine fnQ_pure0 ?_ ?_); (next => repeat' first | exact rvs_n | refine rvs_t ?_ | (simp [go_sem]; done)); simp only [go_sem]; (first | exact VLe.refl _ | refine VLe_int ?_ | refine VLe_bool ?_ | refine VLe_str ?_ | skip))
            | (with_reducible refine And.intro ?_ ?_)
            | with_reducible intro _
          all_goals first
            | omega
            | (simp [g2]; done)
            | skip
      · have g1' : x < (frm : Int) := by omega
        simp (disch := omega) only [spar, List.foldl, List.replicate, ints, items, hx', g1', go_sem, wrap64_id, Int.tdiv_eq_ediv_of_nonneg, Int.tmod_eq_emod_of_nonneg]
        repeat' first
          | (refine callG_false ((.bool false)) ?_; simp (disch := omega) only [ints, items, hx', g1', go_sem, wrap64_id, Int.tdiv_eq_ediv_of_nonneg, Int.tmod_eq_emod_of_nonneg])
          | ((first | refine fnQ_pure1 ?_ ?_ | refine fnQ_pure0 ?_ ?_); (next => repeat' first | exact rvs_n | refine rvs_t ?_ | (simp [go_sem]; done)); simp only [go_sem]; (first | exact VLe.refl _ | refine VLe_int ?_ | refine VLe_bool ?_ | refine VLe_str ?_ | skip))
          | (with_reducible refine And.intro ?_ ?_)
          | with_reducible intro _
        all_goals first
          | omega
          | (simp [g1]; done)
          | skip
    · have e : i = bs.length := by omega
      subst e
      have hx1 : ((bs.length : Int) - 1).toNat = bs.length - 1 := by omega
      rw [List.drop_length]
      simp (disch := omega) only [spar, List.foldl, List.replicate, ints, items, hx1, go_sem, wrap64_id, Int.tdiv_eq_ediv_of_nonneg, Int.tmod_eq_emod_of_nonneg]
      repeat' first
        | ((first | refine fnQ_pure1 ?_ ?_ | refine fnQ_pure0 ?_ ?_); (next => repeat' first | exact rvs_n | refine rvs_t ?_ | (simp [go_sem]; done)); simp only [go_sem]; (first | exact VLe.refl _ | refine VLe_int ?_ | refine VLe_bool ?_ | refine VLe_str ?_ | skip))
        | (with_reducible refine And.intro ?_ ?_)
        | with_reducible intro _
      all_goals first
        | omega
        | (simp [listGo]; done)
        | skip
      all_goals trace_state

theorem listS_at {l : List It} {bs : List Int} (h : listS l bs = true) : brokenS l bs = true := by rw [broken_list]; exact h
/-- The costs of lines, from an index on. -/
def costGo (l : List It) (width : Int) : Nat → List Nat → Option Int
  | _, [] => some 0
  | frm, b :: r => match cost l width frm b with
    | some c => (costGo l width (b + 1) r).map (c + ·)
    | none => none
theorem costGo_lines {l : List It} {width : Int} : ∀ {ns : List Nat} {frm : Nat}, costGo l width frm ns = (linesGo l width frm ns).map (sumCost l) := by
  intro ns
  induction ns with
  | nil => intro frm; rfl
  | cons b r ih =>
    intro frm
    simp only [costGo, linesGo, cost]
    cases hl : (lineOf l width frm b).2.2 with
    | false => simp
    | true =>
      simp only [if_true, ih, Option.map_map]
      cases linesGo l width (b + 1) r with
      | none => rfl
      | some ls => simp [sumCost, mkLine]
theorem costGo_step {l : List It} {width : Int} {frm i : Nat} {bs : List Int} (hi : i < bs.length) : costGo l width frm ((natsOf bs).drop i) = match cost l width frm (bs.getD i 0).toNat with
    | some c => (costGo l width ((bs.getD i 0).toNat + 1) ((natsOf bs).drop (i + 1))).map (c + ·)
    | none => none := by
  rw [nats_drop bs hi]; rfl
theorem costS_eq {l : List It} {width : Int} {bs : List Int} (hw : checkW l width = 0) (hb : brokenS l bs = true) : costS l width bs = match costGo l width 0 (natsOf bs) with
    | some c => (c, 0)
    | none => (0, 21) := by
  unfold costS linesS
  rw [if_pos hw, if_pos hb, costGo_lines]
  cases linesGo l width 0 (natsOf bs) <;> simp
set_option maxHeartbeats 4000000 in
theorem t24 (l : List It) (width : Int) (bs : List Int) (h : List AObj) (hl : l.length ≤ 300) (hb : bs.length ≤ 1000000) : ACalls Try.prog 24 [items l, .int .i64 width, ints bs] h (.tup [.int .i64 (costS l width bs).1, .int .i64 (costS l width bs).2]) h := by
  by_cases hw : checkW l width = 0
  · obtain ⟨hc, w0, w1⟩ := checkW_range l width hw
    have hv := Valid.of hl hc
    cases hbr : listS l bs with
    | false =>
      have e : costS l width bs = (0, 23) := by unfold costS linesS; rw [if_pos hw, broken_list, hbr]; simp
      rw [e]
      refine acalls_of fn24 (by simp) ?_
      simp only [List.length_cons, List.length_nil, Nat.reduceAdd, Nat.reduceSub, List.replicate, List.cons_append, List.nil_append, List.append_nil]
      simp (disch := omega) only [c24, go_sem, wrap64_id, Int.tdiv_eq_ediv_of_nonneg, Int.tmod_eq_emod_of_nonneg]
      repeat' first
        | ((first | refine callA_pure (t50 l width _ (by omega)) ?_ ?_ | refine callA_pure (t51 l bs _ hl hb) ?_ ?_); (next => repeat' first | exact flags_n | refine flags_c (by first | rfl | assumption) ?_); simp (disch := omega) only [hw, hbr, go_sem, wrap64_id, Int.tdiv_eq_ediv_of_nonneg, Int.tmod_eq_emod_of_nonneg])
        | ((first | refine callG_pure (fun e => ⟨?_, t50 l width _ (by omega)⟩) ?_ | refine callG_pure (fun e => ⟨?_, t51 l bs _ hl hb⟩) ?_); (next => repeat' first | exact flags_n | refine flags_c (by first | rfl | assumption) ?_); simp (disch := omega) only [hw, hbr, go_sem, wrap64_id, Int.tdiv_eq_ediv_of_nonneg, Int.tmod_eq_emod_of_nonneg])
        | ((first | refine fnQ_pure1 ?_ ?_ | refine fnQ_pure0 ?_ ?_); (next => repeat' first | exact rvs_n | refine rvs_t ?_ | (simp [go_sem]; done)); simp only [go_sem]; (first | exact VLe.refl _ | refine VLe_int ?_ | refine VLe_bool ?_ | refine VLe_str ?_ | skip))
        | (with_reducible refine And.intro ?_ ?_)
        | with_reducible intro _
      all_goals first
        | omega
        | skip
    | true =>
      have hbk := listS_at hbr
      rw [costS_eq hw hbk]
      refine acalls_of fn24 (by simp) ?_
      simp only [List.length_cons, List.length_nil, Nat.reduceAdd, Nat.reduceSub, List.replicate, List.cons_append, List.nil_append, List.append_nil]
      simp (disch := omega) only [c24, go_sem, wrap64_id, Int.tdiv_eq_ediv_of_nonneg, Int.tmod_eq_emod_of_nonneg]
      repeat' first
        | ((first | refine callA_pure (t50 l width _ (by omega)) ?_ ?_ | refine callA_pure (t51 l bs _ hl hb) ?_ ?_); (next => repeat' first | exact flags_n | refine flags_c (by first | rfl | assumption) ?_); simp (disch := omega) only [hw, hbr, go_sem, wrap64_id, Int.tdiv_eq_ediv_of_nonneg, Int.tmod_eq_emod_of_nonneg])
        | ((first | refine callG_pure (fun e => ⟨?_, t50 l width _ (by omega)⟩) ?_ | refine callG_pure (fun e => ⟨?_, t51 l bs _ hl hb⟩) ?_); (next => repeat' first | exact flags_n | refine flags_c (by first | rfl | assumption) ?_); simp (disch := omega) only [hw, hbr, go_sem, wrap64_id, Int.tdiv_eq_ediv_of_nonneg, Int.tmod_eq_emod_of_nonneg])
        | ((first | refine fnQ_pure1 ?_ ?_ | refine fnQ_pure0 ?_ ?_); (next => repeat' first | exact rvs_n | refine rvs_t ?_ | (simp [go_sem]; done)); simp only [go_sem]; (first | exact VLe.refl _ | refine VLe_int ?_ | refine VLe_bool ?_ | refine VLe_str ?_ | skip))
        | (with_reducible refine And.intro ?_ ?_)
        | with_reducible intro _
      all_goals first
        | omega
        | skip
      refine loop_of (T := fun i : Nat × Int => spar 52 [(0, items l), (1, .int .i64 width), (2, ints bs), (9, .int .i64 i.2), (10, .int .i64 (frmI bs i.1)), (11, .int .i64 i.1)]) (H := fun _ => h)
        (inv := fun i => i.1 ≤ bs.length ∧ 0 ≤ i.2 ∧ i.2 ≤ 20000 * i.1 ∧ costGo l width 0 (natsOf bs) = (costGo l width (frmI bs i.1) ((natsOf bs).drop i.1)).map (i.2 + ·)) (m := fun i => bs.length - i.1) (0, 0) ⟨by simp only; omega, by simp, by simp, ?_⟩ (Wk.temps ?_) ?_
      · simp only [List.drop_zero, Int.zero_add]
        show _ = Option.map _ (costGo l width 0 (natsOf bs))
        simp
      · (simp only [items, ints, spar, List.foldl, List.replicate, go_sem, VLes_nil, VLes_cons, VLe_undef_iff, VLe_self]; try (repeat' first | (with_reducible refine And.intro ?_ ?_) | (refine VLe_int ?_; omega) | (refine VLe_bool ?_; rfl) | exact VLe.refl _))
      · rintro ⟨i, s⟩ ⟨i1, i2, i3, i4⟩ K hK
        simp only at i1 i2 i3 i4 hK
        rw [i4]
        by_cases hi : i < bs.length
        · obtain ⟨b0, b1, b2⟩ := broken_at hbk hi
          rw [costGo_step hi] at i4 ⊢
          obtain ⟨to, hto⟩ : ∃ to : Nat, bs.getD i 0 = to := ⟨(bs.getD i 0).toNat, by omega⟩
          rw [hto] at b0 b1 b2 i4 ⊢
          rw [Int.toNat_natCast] at i4 ⊢
          have hfr : frmI bs (i + 1) = to + 1 := by unfold frmI; rw [if_neg (by omega)]; show (bs.getD i 0).toNat + 1 = _; omega
          obtain ⟨frm, hfm⟩ : ∃ f, f = frmI bs i := ⟨_, rfl⟩
          rw [← hfm] at b2 i4 ⊢
          have hc54 : ∀ h : List AObj, ACalls Try.prog 54 [items l, .int .i64 width, .int .i64 frm, .int .i64 to] h (.tup [.int .i64 ((cost l width frm to).getD 0), .bool (cost l width frm to).isSome]) h := fun h => t54 l width frm to h hv w0 w1 (by omega) (by omega)
          cases hco : cost l width frm to with
          | none =>
            rw [hco] at hc54
            simp only [Option.isSome_none, Option.getD_none] at hc54
            simp (disch := omega) only [spar, List.foldl, List.replicate, ints, hto, go_sem, wrap64_id, Int.tdiv_eq_ediv_of_nonneg, Int.tmod_eq_emod_of_nonneg]
            repeat' first
              | ((first | refine callA_pure (hc54 _) ?_ ?_); (next => repeat' first | exact flags_n | refine flags_c (by first | rfl | assumption) ?_); simp (disch := omega) only [ints, hto, go_sem, wrap64_id, Int.tdiv_eq_ediv_of_nonneg, Int.tmod_eq_emod_of_nonneg])
              | ((first | refine callG_pure (fun e => ⟨?_, hc54 _⟩) ?_); (next => repeat' first | exact flags_n | refine flags_c (by first | rfl | assumption) ?_); simp (disch := omega) only [ints, hto, go_sem, wrap64_id, Int.tdiv_eq_ediv_of_nonneg, Int.tmod_eq_emod_of_nonneg])
              | ((first | refine fnQ_pure1 ?_ ?_ | refine fnQ_pure0 ?_ ?_); (next => repeat' first | exact rvs_n | refine rvs_t ?_ | (simp [go_sem]; done)); simp only [go_sem]; (first | exact VLe.refl _ | refine VLe_int ?_ | refine VLe_bool ?_ | refine VLe_str ?_ | skip))
              | (with_reducible refine And.intro ?_ ?_)
              | with_reducible intro _
            all_goals first
              | omega
              | skip
          | some c =>
            rw [hco] at i4 hc54
            simp only [Option.isSome_some, Option.getD_some] at hc54
            have hcb : 0 ≤ c ∧ c ≤ 20000 := by
              unfold cost at hco
              split at hco
              · simp only [Option.some.injEq] at hco
                have h1 := fit_nonneg l width (sumOf Item.width l (begin_ l frm to) to) (sumOf Item.stretch l (begin_ l frm to) to) (sumOf Item.shrink l (begin_ l frm to) to) to
                have h2 : 0 ≤ (lineOf l width frm to).1 ∧ (lineOf l width frm to).1 ≤ 10000 := h1
                have h3 := penalty_nonneg hc to
                omega
              · cases hco
            simp (disch := omega) only [spar, List.foldl, List.replicate, ints, hto, go_sem, wrap64_id, Int.tdiv_eq_ediv_of_nonneg, Int.tmod_eq_emod_of_nonneg]
            repeat' first
              | ((first | refine callA_pure (hc54 _) ?_ ?_); (next => repeat' first | exact flags_n | refine flags_c (by first | rfl | assumption) ?_); simp (disch := omega) only [ints, hto, go_sem, wrap64_id, Int.tdiv_eq_ediv_of_nonneg, Int.tmod_eq_emod_of_nonneg])
              | ((first | refine callG_pure (fun e => ⟨?_, hc54 _⟩) ?_); (next => repeat' first | exact flags_n | refine flags_c (by first | rfl | assumption) ?_); simp (disch := omega) only [ints, hto, go_sem, wrap64_id, Int.tdiv_eq_ediv_of_nonneg, Int.tmod_eq_emod_of_nonneg])
              | ((first | refine fnQ_pure1 ?_ ?_ | refine fnQ_pure0 ?_ ?_); (next => repeat' first | exact rvs_n | refine rvs_t ?_ | (simp [go_sem]; done)); simp only [go_sem]; (first | exact VLe.refl _ | refine VLe_int ?_ | refine VLe_bool ?_ | refine VLe_str ?_ | skip))
              | (with_reducible refine And.intro ?_ ?_)
              | with_reducible intro _
            all_goals first
              | omega
              | skip
            refine hK _ _ (i + 1, s + c) ⟨by simp only; omega, by simp only; omega, by simp only; omega, ?_⟩ (by simp only; omega) ?_
            · simp only [hfr]
              rw [i4]
              simp [Option.map_map, Function.comp_def, Int.add_assoc]
            · simp only [hfr]
              refine Wk.temps ?_
              (simp only [items, ints, spar, List.foldl, List.replicate, go_sem, VLes_nil, VLes_cons, VLe_undef_iff, VLe_self]; try (repeat' first | (with_reducible refine And.intro ?_ ?_) | (refine VLe_int ?_; omega) | (refine VLe_bool ?_; rfl) | exact VLe.refl _))
        · have e : i = bs.length := by omega
          subst e
          have e0 : (natsOf bs).drop bs.length = [] := by rw [show bs.length = (natsOf bs).length by simp [natsOf], List.drop_length]
          rw [e0]
          simp (disch := omega) only [spar, List.foldl, List.replicate, ints, costGo, go_sem, wrap64_id, Int.tdiv_eq_ediv_of_nonneg, Int.tmod_eq_emod_of_nonneg]
          repeat' first
            | ((first | refine fnQ_pure1 ?_ ?_ | refine fnQ_pure0 ?_ ?_); (next => repeat' first | exact rvs_n | refine rvs_t ?_ | (simp [go_sem]; done)); simp only [go_sem]; (first | exact VLe.refl _ | refine VLe_int ?_ | refine VLe_bool ?_ | refine VLe_str ?_ | skip))
            | (with_reducible refine And.intro ?_ ?_)
            | with_reducible intro _
          all_goals first
            | omega
            | skip
          rw [Int.add_zero]
          exact VLe.refl _
  · have e : costS l width bs = (0, checkW l width) := by unfold costS linesS; rw [if_neg hw, if_neg hw]
    rw [e]
    refine acalls_of fn24 (by simp) ?_
    simp only [List.length_cons, List.length_nil, Nat.reduceAdd, Nat.reduceSub, List.replicate, List.cons_append, List.nil_append, List.append_nil]
    simp (disch := omega) only [c24, go_sem, wrap64_id, Int.tdiv_eq_ediv_of_nonneg, Int.tmod_eq_emod_of_nonneg]
    repeat' first
      | ((first | refine callA_pure (t50 l width _ (by omega)) ?_ ?_); (next => repeat' first | exact flags_n | refine flags_c (by first | rfl | assumption) ?_); simp (disch := omega) only [hw, go_sem, wrap64_id, Int.tdiv_eq_ediv_of_nonneg, Int.tmod_eq_emod_of_nonneg])
      | ((first | refine callG_pure (fun e => ⟨?_, t50 l width _ (by omega)⟩) ?_); (next => repeat' first | exact flags_n | refine flags_c (by first | rfl | assumption) ?_); simp (disch := omega) only [hw, go_sem, wrap64_id, Int.tdiv_eq_ediv_of_nonneg, Int.tmod_eq_emod_of_nonneg])
      | ((first | refine fnQ_pure1 ?_ ?_ | refine fnQ_pure0 ?_ ?_); (next => repeat' first | exact rvs_n | refine rvs_t ?_ | (simp [go_sem]; done)); simp only [go_sem]; (first | exact VLe.refl _ | refine VLe_int ?_ | refine VLe_bool ?_ | refine VLe_str ?_ | skip))
      | (with_reducible refine And.intro ?_ ?_)
      | with_reducible intro _
    all_goals first
      | omega
      | skip
end

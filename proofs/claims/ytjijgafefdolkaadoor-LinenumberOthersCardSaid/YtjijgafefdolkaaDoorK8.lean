import Derived.Test.YtjijgafefdolkaaDoorK7
import Derived.Test.YtjijgafefdolkaaDoorK2
import Derived.Test.YtjijgafefdolkaaDoorProg
set_option linter.all false
set_option linter.unusedSimpArgs false
set_option linter.unusedVariables false
set_option linter.unusedSectionVars false
section
open Go Go.Proofs AF HY
namespace LN
set_option maxRecDepth 100000
def margL (E j : Nat) : List Int := (List.range j).map fun i => (((i + 1) * E : Nat) : Int)
theorem marg_succ (E j : Nat) : margL E (j + 1) = margL E j ++ [(((j + 1) * E : Nat) : Int)] := by unfold margL; rw [List.range_succ, List.map_append]; rfl
theorem marg_len (E j : Nat) : (margL E j).length = j := by simp [margL]
theorem t9e (n e : Int) (h : List AObj) (hb : n < 0 ∨ 4096 < n ∨ e < 1 ∨ 4096 < e) : ACalls Tryd.prog 9 [.int .i64 n, .int .i64 e] h (.tup [.nl, .int .i64 2]) h := by
  by_cases g1 : n < 0
  · have k1 : (n < 0) = True := eq_true g1
    refine acalls_of fn9l (by simp) ?_
    simp only [List.length_cons, List.length_nil, Nat.reduceAdd, Nat.reduceSub, List.replicate, List.cons_append, List.nil_append, List.append_nil]
    simp (disch := omega) only [c9l, k1, go_sem, wrap64_id, Int.tdiv_eq_ediv_of_nonneg, Int.tmod_eq_emod_of_nonneg]
    repeat' first
      | ((first | refine fnQ_pure1 ?_ ?_ | refine fnQ_pure0 ?_ ?_); (next => repeat' first | exact rvs_n | refine rvs_t ?_ | (simp [go_sem]; done)); simp only [go_sem]; (first | exact VLe.refl _ | refine VLe_int ?_ | refine VLe_bool ?_ | refine VLe_str ?_ | skip))
      | (with_reducible refine And.intro ?_ ?_)
      | with_reducible intro _
    all_goals first
      | omega
      | (rename_i hx; revert hx; simp; done)
      | (simp; done)
      | skip
  have k1 : (n < 0) = False := eq_false g1
  by_cases g2 : 4096 < n
  · have k2 : (4096 < n) = True := eq_true g2
    refine acalls_of fn9l (by simp) ?_
    simp only [List.length_cons, List.length_nil, Nat.reduceAdd, Nat.reduceSub, List.replicate, List.cons_append, List.nil_append, List.append_nil]
    simp (disch := omega) only [c9l, k1, k2, go_sem, wrap64_id, Int.tdiv_eq_ediv_of_nonneg, Int.tmod_eq_emod_of_nonneg]
    repeat' first
      | ((first | refine fnQ_pure1 ?_ ?_ | refine fnQ_pure0 ?_ ?_); (next => repeat' first | exact rvs_n | refine rvs_t ?_ | (simp [go_sem]; done)); simp only [go_sem]; (first | exact VLe.refl _ | refine VLe_int ?_ | refine VLe_bool ?_ | refine VLe_str ?_ | skip))
      | (with_reducible refine And.intro ?_ ?_)
      | with_reducible intro _
    all_goals first
      | omega
      | (rename_i hx; revert hx; simp; done)
      | (simp; done)
      | skip
  have k2 : (4096 < n) = False := eq_false g2
  by_cases g3 : e < 1
  · have k3 : (e < 1) = True := eq_true g3
    refine acalls_of fn9l (by simp) ?_
    simp only [List.length_cons, List.length_nil, Nat.reduceAdd, Nat.reduceSub, List.replicate, List.cons_append, List.nil_append, List.append_nil]
    simp (disch := omega) only [c9l, k1, k2, k3, go_sem, wrap64_id, Int.tdiv_eq_ediv_of_nonneg, Int.tmod_eq_emod_of_nonneg]
    repeat' first
      | ((first | refine fnQ_pure1 ?_ ?_ | refine fnQ_pure0 ?_ ?_); (next => repeat' first | exact rvs_n | refine rvs_t ?_ | (simp [go_sem]; done)); simp only [go_sem]; (first | exact VLe.refl _ | refine VLe_int ?_ | refine VLe_bool ?_ | refine VLe_str ?_ | skip))
      | (with_reducible refine And.intro ?_ ?_)
      | with_reducible intro _
    all_goals first
      | omega
      | (rename_i hx; revert hx; simp; done)
      | (simp; done)
      | skip
  have k3 : (e < 1) = False := eq_false g3
  have k4 : (4096 < e) = True := eq_true (by rcases hb with h | h | h | h <;> first | contradiction | exact h)
  refine acalls_of fn9l (by simp) ?_
  simp only [List.length_cons, List.length_nil, Nat.reduceAdd, Nat.reduceSub, List.replicate, List.cons_append, List.nil_append, List.append_nil]
  simp (disch := omega) only [c9l, k1, k2, k3, k4, go_sem, wrap64_id, Int.tdiv_eq_ediv_of_nonneg, Int.tmod_eq_emod_of_nonneg]
  repeat' first
    | ((first | refine fnQ_pure1 ?_ ?_ | refine fnQ_pure0 ?_ ?_); (next => repeat' first | exact rvs_n | refine rvs_t ?_ | (simp [go_sem]; done)); simp only [go_sem]; (first | exact VLe.refl _ | refine VLe_int ?_ | refine VLe_bool ?_ | refine VLe_str ?_ | skip))
    | (with_reducible refine And.intro ?_ ?_)
    | with_reducible intro _
  all_goals first
    | omega
    | (rename_i hx; revert hx; simp; done)
    | (simp; done)
    | skip
theorem t9 (N E : Nat) (h : List AObj) (hN : N ≤ 4096) (h1 : 1 ≤ E) (hE : E ≤ 4096) : ACalls Tryd.prog 9 [.int .i64 (N : Int), .int .i64 (E : Int)] h (.tup [intsN (margL E (N / E)), .int .i64 0]) h := by
  have k1 : ((N : Int) < 0) = False := eq_false (by omega)
  have k2 : (4096 < (N : Int)) = False := eq_false (by omega)
  have k3 : ((E : Int) < 1) = False := eq_false (by omega)
  have k4 : (4096 < (E : Int)) = False := eq_false (by omega)
  refine acalls_of fn9l (by simp) ?_
  simp only [List.length_cons, List.length_nil, Nat.reduceAdd, Nat.reduceSub, List.replicate, List.cons_append, List.nil_append, List.append_nil]
  simp (disch := omega) only [c9l, k1, k2, k3, k4, go_sem, wrap64_id, Int.tdiv_eq_ediv_of_nonneg, Int.tmod_eq_emod_of_nonneg]
  repeat' first
    | ((first | refine fnQ_pure1 ?_ ?_ | refine fnQ_pure0 ?_ ?_); (next => repeat' first | exact rvs_n | refine rvs_t ?_ | (simp [go_sem]; done)); simp only [go_sem]; (first | exact VLe.refl _ | refine VLe_int ?_ | refine VLe_bool ?_ | refine VLe_str ?_ | skip))
    | (with_reducible refine And.intro ?_ ?_)
    | with_reducible intro _
  all_goals first
    | omega
    | (rename_i hx; revert hx; simp; done)
    | (simp; done)
    | skip
  refine loop_of (T := fun i : Nat × Nat × AObj => spar 34 [(0, .int .i64 N), (1, .int .i64 E), (6, .osl (h.length + 1) i.2.1 1 0 i.1), (7, .int .i64 (((i.1 + 1) * E : Nat) : Int))])
    (H := fun i => h ++ [.emp 1, ownO i.2.1 3 (intsC (margL E i.1)), i.2.2, .emp 0])
    (inv := fun i => i.1 ≤ N / E ∧ site [i.2.2] 0 = true) (m := fun i => N / E - i.1) (0, 1, .emp 0) ⟨Nat.zero_le _, rfl⟩ (Wk.temps ?_) ?_
  · rw [show ((0 + 1) * E : Nat) = E by omega]
    (simp only [spar, List.foldl, List.replicate, go_sem, VLes_nil, VLes_cons, VLe_undef_iff, VLe_self]; try (repeat' first | (with_reducible refine And.intro ?_ ?_) | (refine VLe_int ?_; omega) | (refine VLe_bool ?_; rfl) | exact VLe.refl _))
  rintro ⟨j, v, O⟩ ⟨i1, i2⟩ K hK
  simp only at i1 i2 hK
  have i2' : ∀ m, site (O :: m) 0 = true := fun _ => i2
  have eL := marg_len E j
  have eC := intsC_len (margL E j)
  rw [eL] at eC
  have eT : List.take j (intsC (margL E j)) = intsC (margL E j) := List.take_of_length_le (by omega)
  have hjE : j * E ≤ N := Nat.le_trans (Nat.mul_le_mul_right E i1) (Nat.div_mul_le_self N E)
  have hdm := Nat.div_add_mod N E
  have hmod := Nat.mod_lt N (show 0 < E by omega)
  have hjN : j ≤ 4096 := by have := Nat.div_le_self N E; omega
  have hmul : (j + 1) * E = j * E + E := Nat.succ_mul j E
  by_cases hj : j < N / E
  · have hle : (j + 1) * E ≤ N := Nat.le_trans (Nat.mul_le_mul_right E hj) (Nat.div_mul_le_self N E)
    have hn2 : (j + 1 + 1) * E = (j + 1) * E + E := Nat.succ_mul (j + 1) E
    obtain ⟨p, hp⟩ : ∃ p, p = (j + 1) * E := ⟨_, rfl⟩
    rw [← hp] at hle hn2 ⊢
    have q1 : ((p : Int) ≤ N) = True := eq_true (by omega)
    have hsn : intsC (margL E (j + 1)) = intsC (margL E j) ++ [.int .i64 (p : Int)] := by rw [marg_succ, intsC_snoc, ← hp]
    simp (disch := omega) only [spar, List.foldl, List.replicate, i2', eC, eT, q1, go_sem, wrap64_id, Int.tdiv_eq_ediv_of_nonneg, Int.tmod_eq_emod_of_nonneg]
    repeat' first
      | ((first | refine fnQ_pure1 ?_ ?_ | refine fnQ_pure0 ?_ ?_); (next => repeat' first | exact rvs_n | refine rvs_t ?_ | (simp [go_sem]; done)); simp only [go_sem]; (first | exact VLe.refl _ | refine VLe_int ?_ | refine VLe_bool ?_ | refine VLe_str ?_ | skip))
      | (with_reducible refine And.intro ?_ ?_)
      | with_reducible intro _
    all_goals first
      | omega
      | (rename_i hx; revert hx; simp; done)
      | (simp; done)
      | skip
    refine hK _ _ (j + 1, v + 1, .mem (verOf (some O) + 1) 3 (AV.int IntKind.i64 ↑p :: List.drop 1 (madeA [AV.int IntKind.i64 0] 1))) ⟨hj, rfl⟩ (by simp only; omega) ?_
    simp only
    rw [hn2, Int.natCast_add, hsn]
    refine Wk.temps ?_
    (simp only [spar, List.foldl, List.replicate, go_sem, VLes_nil, VLes_cons, VLe_undef_iff, VLe_self]; try (repeat' first | (with_reducible refine And.intro ?_ ?_) | (refine VLe_int ?_; omega) | (refine VLe_bool ?_; rfl) | exact VLe.refl _))
  · have e : j = N / E := by omega
    have hgt : N < (j + 1) * E := by
      rw [hmul, e]
      have : E * (N / E) = N / E * E := Nat.mul_comm _ _
      omega
    obtain ⟨p, hp⟩ : ∃ p, p = (j + 1) * E := ⟨_, rfl⟩
    rw [← hp] at hgt ⊢
    have q1 : ((p : Int) ≤ N) = False := eq_false (by omega)
    rw [← e]
    simp (disch := omega) only [spar, List.foldl, List.replicate, q1, go_sem, wrap64_id, Int.tdiv_eq_ediv_of_nonneg, Int.tmod_eq_emod_of_nonneg]
    repeat' first
      | ((first | refine fnQ_pure1 ?_ ?_ | refine fnQ_pure0 ?_ ?_); (next => repeat' first | exact rvs_n | refine rvs_t ?_ | (simp [go_sem]; done)); simp only [go_sem]; (first | exact VLe.refl _ | refine VLe_int ?_ | refine VLe_bool ?_ | refine VLe_str ?_ | skip))
      | (with_reducible refine And.intro ?_ ?_)
      | with_reducible intro _
    all_goals first
      | omega
      | (rename_i hx; revert hx; simp; done)
      | (simp; done)
      | skip
    have key : ∀ (fz : Nat → Bool) (h : List AObj) (n : Nat), VLe (slOf (some (ownO v 3 (intsC (margL E j)))) v 1 0 j (rei fz h (n + 1))) (intsN (margL E j)) := fun fz h n => by
      have := slOf_intsN (v := v) (n := n) (L := margL E j) (fz := fz) (h := h)
      rwa [eL] at this
    exact VLe_tup ⟨key _ _ 5, VLe.refl _, trivial⟩
end LN
end

section
namespace P48
structure Item where
  kind : Int
  width : Int
  stretch : Int
  shrink : Int
  penalty : Int
  text : List UInt8
  deriving DecidableEq, Inhabited

def it (l : List Item) (i : Nat) : Item := l.getD i default
theorem it_eq {l : List Item} {i : Nat} (h : i < l.length) : it l i = l[i] := by simp [it, h]
theorem drop_it {l : List Item} {i : Nat} (h : i < l.length) : l.drop i = it l i :: l.drop (i + 1) := by
  rw [it_eq h]; exact List.drop_eq_getElem_cons h
def isLen (n : Int) : Bool := decide (0 ≤ n) && decide (n ≤ 1073741824)

def checkItem (x : Item) : Int :=
  if x.kind < 1 ∨ 3 < x.kind then 8
  else if ¬ (isLen x.width = true ∧ isLen x.stretch = true ∧ isLen x.shrink = true) then 2
  else if x.penalty ≠ -10000 ∧ (x.penalty < 0 ∨ 10000 < x.penalty) then 2
  else if (x.kind ≠ 2 ∧ (x.stretch ≠ 0 ∨ x.shrink ≠ 0)) ∨ (x.kind ≠ 3 ∧ x.penalty ≠ 0) ∨ (x.kind = 2 ∧ x.text ≠ []) then 1
  else 0

def checkGo : List Item → Int → Int
  | [], s => if 1073741824 < s then 4 else 0
  | x :: r, s => if checkItem x = 0 then checkGo r (s + x.width + x.stretch + x.shrink) else checkItem x
def check (l : List Item) : Int := if 4096 < l.length then 4 else checkGo l 0
def forced (l : List Item) (i : Nat) : Bool := decide (i < l.length) && (decide ((it l i).kind = 3) && decide ((it l i).penalty = -10000))
def atBreak (l : List Item) (to : Nat) : Bool := decide (to < l.length) && decide ((it l to).kind = 3)
def penalty (l : List Item) (to : Nat) : Int := if atBreak l to && !forced l to then (it l to).penalty else 0

def behind (n : Nat) (p : List Int) (to : Nat) : Int := if to = n then 0 else p.getD (to + 1) 0
def pick (l : List Item) (p : List Int) (frm : Nat) (a : List (Nat × Int)) : Option Nat :=
  (a.find? fun x => decide (0 ≤ behind l.length p x.1 ∧ x.2 + behind l.length p x.1 = p.getD frm 0)).map (·.1)
end P48
end

section
namespace P48

structure ItemOk (x : Item) : Prop where
  k1 : 1 ≤ x.kind
  k3 : x.kind ≤ 3
  w0 : 0 ≤ x.width
  w1 : x.width ≤ 1073741824
  s0 : 0 ≤ x.stretch
  s1 : x.stretch ≤ 1073741824
  h0 : 0 ≤ x.shrink
  h1 : x.shrink ≤ 1073741824
  p : x.penalty = -10000 ∨ (0 ≤ x.penalty ∧ x.penalty ≤ 10000)
  sz : x.kind ≠ 2 → x.stretch = 0 ∧ x.shrink = 0
  pz : x.kind ≠ 3 → x.penalty = 0
  tz : x.kind = 2 → x.text = []

theorem checkItem_iff {x : Item} : checkItem x = 0 ↔ ItemOk x := by
  unfold checkItem isLen
  constructor
  · intro h
    split at h
    · omega
    · split at h
      · omega
      · split at h
        · omega
        · split at h
          · omega
          · rename_i h1 h2 h3 h4
            simp only [Bool.and_eq_true, decide_eq_true_eq, Decidable.not_not] at h2
            simp only [not_or, not_and, Decidable.not_not] at h4
            refine ⟨by omega, by omega, by omega, by omega, by omega, by omega, by omega, by omega, by omega, fun h => ?_, fun h => h4.2.1 h, fun h => h4.2.2 h⟩
            have := h4.1 h
            omega
  · intro h
    obtain ⟨a1, a2, a3, a4, a5, a6, a7, a8, a9, b1, b2, b3⟩ := h
    rw [if_neg (by omega), if_neg (by simp only [Bool.and_eq_true, decide_eq_true_eq]; omega), if_neg (by omega), if_neg]
    rintro (⟨h, h'⟩ | ⟨h, h'⟩ | ⟨h, h'⟩)
    · have := b1 h; omega
    · exact h' (b2 h)
    · exact h' (b3 h)

end P48
end

section
open Go Go.Proofs AF HY P48
namespace LN
set_option maxRecDepth 100000
abbrev It := P48.Item
def itemC (x : It) : List AV := [.int .i64 x.kind, .int .i64 x.width, .int .i64 x.stretch, .int .i64 x.shrink, .int .i64 x.penalty, .str x.text]
def items (l : List It) : AV := .sl l.length fun i => itemC (it l i)
def ints (l : List Int) : AV := .sl l.length fun i => [.int .i64 (l.getD i 0)]

theorem flag_items (l : List It) : (items l).flag = true := rfl
theorem strip_items (l : List It) : (items l).strip = items l := rfl
theorem flag_ints (l : List Int) : (ints l).flag = true := rfl
theorem strip_ints (l : List Int) : (ints l).strip = ints l := rfl
attribute [go_sem] flag_items strip_items flag_ints strip_ints

theorem p110 (n : Int) (h : List AObj) : ACalls Tryd.prog 110 [.int .i64 n] h (.bool (isLen n)) h := by
  refine acalls_of fn110l (by simp) ?_
  simp only [List.length_cons, List.length_nil, Nat.reduceAdd, Nat.reduceSub, List.replicate, List.cons_append, List.nil_append, List.append_nil]
  simp (disch := omega) only [c110l, go_sem, wrap64_id, Int.tdiv_eq_ediv_of_nonneg, Int.tmod_eq_emod_of_nonneg]
  repeat' first
    | ((first | refine fnQ_pure1 ?_ ?_ | refine fnQ_pure0 ?_ ?_); (next => repeat' first | exact rvs_n | refine rvs_t ?_ | (simp [go_sem]; done)); simp only [go_sem]; (first | exact VLe.refl _ | refine VLe_int ?_ | refine VLe_bool ?_ | refine VLe_str ?_ | skip))
    | (with_reducible refine And.intro ?_ ?_)
    | with_reducible intro _
theorem p111 (n : Int) (h : List AObj) : ACalls Tryd.prog 111 [.int .i64 n] h (.bool (isLen n)) h := by
  refine acalls_of fn111l (by simp) ?_
  simp only [List.length_cons, List.length_nil, Nat.reduceAdd, Nat.reduceSub, List.replicate, List.cons_append, List.nil_append, List.append_nil]
  simp (disch := omega) only [c111l, go_sem, wrap64_id, Int.tdiv_eq_ediv_of_nonneg, Int.tmod_eq_emod_of_nonneg]
  repeat' first
    | ((first | refine fnQ_pure1 ?_ ?_ | refine fnQ_pure0 ?_ ?_); (next => repeat' first | exact rvs_n | refine rvs_t ?_ | (simp [go_sem]; done)); simp only [go_sem]; (first | exact VLe.refl _ | refine VLe_int ?_ | refine VLe_bool ?_ | refine VLe_str ?_ | skip))
    | (with_reducible refine And.intro ?_ ?_)
    | with_reducible intro _
theorem p89 (x : It) (h : List AObj) : ACalls Tryd.prog 89 [.agg (itemC x)] h (.int .i64 (checkItem x)) h := by
  refine acalls_of fn89l (by simp) ?_
  simp only [List.length_cons, List.length_nil, Nat.reduceAdd, Nat.reduceSub, List.replicate, List.cons_append, List.nil_append, List.append_nil]
  simp (disch := omega) only [c89l, itemC, go_sem, wrap64_id, Int.tdiv_eq_ediv_of_nonneg, Int.tmod_eq_emod_of_nonneg]
  repeat' first
    | ((first | refine callA_pure (p110 _ _) ?_ ?_); (next => repeat' first | exact flags_n | refine flags_c (by first | rfl | assumption) ?_); simp (disch := omega) only [go_sem, wrap64_id, Int.tdiv_eq_ediv_of_nonneg, Int.tmod_eq_emod_of_nonneg])
    | ((first | refine callU_of (fun _ => p110 _ _) ?_ ?_); (next => repeat' first | exact flags_n | refine flags_c (by first | rfl | assumption) ?_); simp (disch := omega) only [go_sem, wrap64_id, Int.tdiv_eq_ediv_of_nonneg, Int.tmod_eq_emod_of_nonneg])
    | ((first | refine callG_pure (fun e => ⟨?_, p110 _ _⟩) ?_); (next => repeat' first | exact flags_n | refine flags_c (by first | rfl | assumption) ?_); simp (disch := omega) only [go_sem, wrap64_id, Int.tdiv_eq_ediv_of_nonneg, Int.tmod_eq_emod_of_nonneg])
    | ((first | refine fnQ_pure1 ?_ ?_ | refine fnQ_pure0 ?_ ?_); (next => repeat' first | exact rvs_n | refine rvs_t ?_ | (simp [go_sem]; done)); simp only [go_sem]; (first | exact VLe.refl _ | refine VLe_int ?_ | refine VLe_bool ?_ | refine VLe_str ?_ | skip))
    | (with_reducible refine And.intro ?_ ?_)
    | with_reducible intro _
  all_goals first
    | omega
    | grind [checkItem]
theorem p91 (x : It) (h : List AObj) : ACalls Tryd.prog 91 [.agg (itemC x)] h (.int .i64 (checkItem x)) h := by
  refine acalls_of fn91l (by simp) ?_
  simp only [List.length_cons, List.length_nil, Nat.reduceAdd, Nat.reduceSub, List.replicate, List.cons_append, List.nil_append, List.append_nil]
  simp (disch := omega) only [c91l, itemC, go_sem, wrap64_id, Int.tdiv_eq_ediv_of_nonneg, Int.tmod_eq_emod_of_nonneg]
  repeat' first
    | ((first | refine callA_pure (p111 _ _) ?_ ?_); (next => repeat' first | exact flags_n | refine flags_c (by first | rfl | assumption) ?_); simp (disch := omega) only [go_sem, wrap64_id, Int.tdiv_eq_ediv_of_nonneg, Int.tmod_eq_emod_of_nonneg])
    | ((first | refine callU_of (fun _ => p111 _ _) ?_ ?_); (next => repeat' first | exact flags_n | refine flags_c (by first | rfl | assumption) ?_); simp (disch := omega) only [go_sem, wrap64_id, Int.tdiv_eq_ediv_of_nonneg, Int.tmod_eq_emod_of_nonneg])
    | ((first | refine callG_pure (fun e => ⟨?_, p111 _ _⟩) ?_); (next => repeat' first | exact flags_n | refine flags_c (by first | rfl | assumption) ?_); simp (disch := omega) only [go_sem, wrap64_id, Int.tdiv_eq_ediv_of_nonneg, Int.tmod_eq_emod_of_nonneg])
    | ((first | refine fnQ_pure1 ?_ ?_ | refine fnQ_pure0 ?_ ?_); (next => repeat' first | exact rvs_n | refine rvs_t ?_ | (simp [go_sem]; done)); simp only [go_sem]; (first | exact VLe.refl _ | refine VLe_int ?_ | refine VLe_bool ?_ | refine VLe_str ?_ | skip))
    | (with_reducible refine And.intro ?_ ?_)
    | with_reducible intro _
  all_goals first
    | omega
    | grind [checkItem]

theorem p61 (l : List It) (h : List AObj) (hl : l.length ≤ 9223372036854775807) : ACalls Tryd.prog 61 [items l] h (.int .i64 (check l)) h := by
  refine acalls_of fn61l (by simp) ?_
  simp only [List.length_cons, List.length_nil, Nat.reduceAdd, Nat.reduceSub, List.replicate, List.cons_append, List.nil_append, List.append_nil]
  simp (disch := omega) only [c61l, items, itemC, go_sem, wrap64_id, Int.tdiv_eq_ediv_of_nonneg, Int.tmod_eq_emod_of_nonneg]
  repeat' first
    | (with_reducible refine And.intro ?_ ?_)
    | (with_reducible intro _)
  all_goals first
    | omega
    | skip
  · repeat' first
      | ((first | refine fnQ_pure1 ?_ ?_ | refine fnQ_pure0 ?_ ?_); (next => repeat' first | exact rvs_n | refine rvs_t ?_ | (simp [go_sem]; done)); simp only [go_sem]; (first | exact VLe.refl _ | refine VLe_int ?_ | refine VLe_bool ?_ | refine VLe_str ?_ | skip))
      | (with_reducible refine And.intro ?_ ?_)
      | with_reducible intro _
    simp [check]; omega
  · rename_i hlen
    refine loop_of (T := fun i : Nat × Int × AObj => spar 34 [(3, .int .i64 i.2.1), (10, items l), (11, .int .i64 l.length), (12, .int .i64 i.1)]) (H := fun i => h ++ [i.2.2])
      (inv := fun i => i.1 ≤ l.length ∧ site [i.2.2] 0 = true ∧ checkGo (l.drop i.1) i.2.1 = check l ∧ 0 ≤ i.2.1 ∧ i.2.1 ≤ 4000000000 * i.1) (m := fun i => l.length - i.1) (0, 0, .emp 0)
      ⟨by simp only; omega, rfl, by simp only [check, List.drop_zero]; rw [if_neg (by omega)], by simp only; omega, by simp only; omega⟩ (Wk.temps ?_) ?_
    · simp only [items, itemC, spar, List.foldl, List.replicate, go_sem, VLes_nil, VLes_cons, VLe_undef_iff, VLe_self]
      try (repeat' first | (with_reducible refine And.intro ?_ ?_) | (refine VLe_int ?_; omega) | (refine VLe_bool ?_; rfl))
    · rintro ⟨i, s, O⟩ ⟨i1, i2, i3, i4, i5⟩ K hK
      simp only at i1 i2 i3 i4 i5 hK
      by_cases hi : i < l.length
      · rw [drop_it hi, checkGo] at i3
        by_cases hx : checkItem (it l i) = 0
        · rw [if_pos hx] at i3
          obtain ⟨a1, a2, a3, a4, a5, a6, a7, a8, a9, b1, b2, b3⟩ := checkItem_iff.1 hx
          simp (disch := omega) only [spar, items, itemC, List.foldl, List.replicate, i2, go_sem, wrap64_id, Int.tdiv_eq_ediv_of_nonneg, Int.tmod_eq_emod_of_nonneg]
          repeat' first
            | ((first | refine callA_pure (p89 (it l i) _) ?_ ?_); (next => repeat' first | exact flags_n | refine flags_c (by first | rfl | assumption) ?_); simp (disch := omega) only [go_sem, wrap64_id, Int.tdiv_eq_ediv_of_nonneg, Int.tmod_eq_emod_of_nonneg])
            | ((first | refine callU_of (fun _ => p89 (it l i) _) ?_ ?_); (next => repeat' first | exact flags_n | refine flags_c (by first | rfl | assumption) ?_); simp (disch := omega) only [go_sem, wrap64_id, Int.tdiv_eq_ediv_of_nonneg, Int.tmod_eq_emod_of_nonneg])
            | ((first | refine callG_pure (fun e => ⟨?_, p89 (it l i) _⟩) ?_); (next => repeat' first | exact flags_n | refine flags_c (by first | rfl | assumption) ?_); simp (disch := omega) only [go_sem, wrap64_id, Int.tdiv_eq_ediv_of_nonneg, Int.tmod_eq_emod_of_nonneg])
            | ((first | refine fnQ_pure1 ?_ ?_ | refine fnQ_pure0 ?_ ?_); (next => repeat' first | exact rvs_n | refine rvs_t ?_ | (simp [go_sem]; done)); simp only [go_sem]; (first | exact VLe.refl _ | refine VLe_int ?_ | refine VLe_bool ?_ | refine VLe_str ?_ | skip))
            | (with_reducible refine And.intro ?_ ?_)
            | with_reducible intro _
          all_goals first
            | omega
            | skip
          refine hK _ _ (i + 1, s + (it l i).width + (it l i).stretch + (it l i).shrink, .mem (verOf (some O) + 1) 57 (itemC (it l i))) ⟨by simp only; omega, rfl, i3, by simp only; omega, by simp only; omega⟩ (by simp only; omega) (Wk.temps ?_)
          simp only [items, itemC, spar, List.foldl, List.replicate, go_sem, VLes_nil, VLes_cons, VLe_undef_iff, VLe_self]
          try (repeat' first | (with_reducible refine And.intro ?_ ?_) | (refine VLe_int ?_; omega) | (refine VLe_bool ?_; rfl))
        · rw [if_neg hx] at i3
          simp (disch := omega) only [spar, items, itemC, List.foldl, List.replicate, i2, go_sem, wrap64_id, Int.tdiv_eq_ediv_of_nonneg, Int.tmod_eq_emod_of_nonneg]
          repeat' first
            | ((first | refine callA_pure (p89 (it l i) _) ?_ ?_); (next => repeat' first | exact flags_n | refine flags_c (by first | rfl | assumption) ?_); simp (disch := omega) only [go_sem, wrap64_id, Int.tdiv_eq_ediv_of_nonneg, Int.tmod_eq_emod_of_nonneg])
            | ((first | refine callU_of (fun _ => p89 (it l i) _) ?_ ?_); (next => repeat' first | exact flags_n | refine flags_c (by first | rfl | assumption) ?_); simp (disch := omega) only [go_sem, wrap64_id, Int.tdiv_eq_ediv_of_nonneg, Int.tmod_eq_emod_of_nonneg])
            | ((first | refine callG_pure (fun e => ⟨?_, p89 (it l i) _⟩) ?_); (next => repeat' first | exact flags_n | refine flags_c (by first | rfl | assumption) ?_); simp (disch := omega) only [go_sem, wrap64_id, Int.tdiv_eq_ediv_of_nonneg, Int.tmod_eq_emod_of_nonneg])
            | ((first | refine fnQ_pure1 ?_ ?_ | refine fnQ_pure0 ?_ ?_); (next => repeat' first | exact rvs_n | refine rvs_t ?_ | (simp [go_sem]; done)); simp only [go_sem]; (first | exact VLe.refl _ | refine VLe_int ?_ | refine VLe_bool ?_ | refine VLe_str ?_ | skip))
            | (with_reducible refine And.intro ?_ ?_)
            | with_reducible intro _
          all_goals first
            | omega
            | exact i3
      · have e : i = l.length := by omega
        subst e
        rw [List.drop_length, checkGo] at i3
        simp (disch := omega) only [spar, items, itemC, List.foldl, List.replicate, i2, go_sem, wrap64_id, Int.tdiv_eq_ediv_of_nonneg, Int.tmod_eq_emod_of_nonneg]
        repeat' first
          | ((first | refine fnQ_pure1 ?_ ?_ | refine fnQ_pure0 ?_ ?_); (next => repeat' first | exact rvs_n | refine rvs_t ?_ | (simp [go_sem]; done)); simp only [go_sem]; (first | exact VLe.refl _ | refine VLe_int ?_ | refine VLe_bool ?_ | refine VLe_str ?_ | skip))
          | (with_reducible refine And.intro ?_ ?_)
          | with_reducible intro _
        all_goals first
          | omega
          | grind

theorem check_first {l : List It} (i : Nat) (hi : i < l.length) (h : ∀ j, j < i → checkItem (it l j) = 0) (hx : ¬ checkItem (it l i) = 0) : checkGo l 0 = checkItem (it l i) := by
  generalize (0 : Int) = s
  induction l generalizing i s with
  | nil => simp at hi
  | cons x l ih =>
    cases i with
    | zero => simp only [checkGo]; rw [if_neg (by simpa [it] using hx)]; rfl
    | succ i =>
      have h0 := h 0 (by omega)
      simp only [checkGo]
      rw [if_pos (by simpa [it] using h0)]
      have := ih i (by simpa using hi) (fun j hj => by have := h (j + 1) (by omega); simpa [it] using this) (by simpa [it] using hx) (s + x.width + x.stretch + x.shrink)
      simpa [it] using this
theorem checkGo_big : ∀ (l : List It) (s : Int), (∀ x ∈ l, checkItem x = 0) → 1073741824 < s → checkGo l s = 4 := by
  intro l
  induction l with
  | nil => intro s _ h; simp [checkGo, h]
  | cons x l ih =>
    intro s hx h
    have := checkItem_iff.1 (hx x (by simp))
    obtain ⟨a1, a2, a3, a4, a5, a6, a7, a8, a9, b1, b2, b3⟩ := this
    simp only [checkGo]
    rw [if_pos (hx x (by simp))]
    exact ih _ (fun y hy => hx y (by simp [hy])) (by omega)
theorem i2' {l : List It} (h : ∀ j, j < l.length → checkItem (it l j) = 0) : ∀ x ∈ l, checkItem x = 0 := by
  intro x hx
  obtain ⟨j, hj, rfl⟩ := List.getElem_of_mem hx
  rw [← it_eq hj]
  exact h j hj
theorem p64 (l : List It) (h : List AObj) (hl : l.length ≤ 9223372036854775807) : ACalls Tryd.prog 64 [items l] h (.int .i64 (check l)) h := by
  refine acalls_of fn64l (by simp) ?_
  simp only [List.length_cons, List.length_nil, Nat.reduceAdd, Nat.reduceSub, List.replicate, List.cons_append, List.nil_append, List.append_nil]
  simp (disch := omega) only [c64l, items, itemC, go_sem, wrap64_id, Int.tdiv_eq_ediv_of_nonneg, Int.tmod_eq_emod_of_nonneg]
  repeat' first
    | (with_reducible refine And.intro ?_ ?_)
    | (with_reducible intro _)
  all_goals first
    | omega
    | skip
  · repeat' first
      | ((first | refine fnQ_pure1 ?_ ?_ | refine fnQ_pure0 ?_ ?_); (next => repeat' first | exact rvs_n | refine rvs_t ?_ | (simp [go_sem]; done)); simp only [go_sem]; (first | exact VLe.refl _ | refine VLe_int ?_ | refine VLe_bool ?_ | refine VLe_str ?_ | skip))
      | (with_reducible refine And.intro ?_ ?_)
      | with_reducible intro _
    simp [check]; omega
  · rename_i hlen
    have ec : check l = checkGo l 0 := by unfold check; rw [if_neg (by omega)]
    rw [ec]
    refine loop_of (T := fun i : Nat => spar 51 [(0, items l), (3, .int .i64 i)]) (H := fun _ => h)
      (inv := fun i => i ≤ l.length ∧ (∀ j, j < i → checkItem (it l j) = 0)) (m := fun i => l.length - i) 0
      ⟨by omega, by omega⟩ (Wk.temps ?_) ?_
    · simp only [items, itemC, spar, List.foldl, List.replicate, go_sem, VLes_nil, VLes_cons, VLe_undef_iff, VLe_self]
      try (repeat' first | (with_reducible refine And.intro ?_ ?_) | (refine VLe_int ?_; omega) | (refine VLe_bool ?_; rfl))
    · rintro i ⟨i1, i2⟩ K hK
      by_cases hi : i < l.length
      · simp (disch := omega) only [spar, items, itemC, List.foldl, List.replicate, go_sem, wrap64_id, Int.tdiv_eq_ediv_of_nonneg, Int.tmod_eq_emod_of_nonneg]
        repeat' first
          | ((first | refine callA_pure (p91 (it l i) _) ?_ ?_); (next => repeat' first | exact flags_n | refine flags_c (by first | rfl | assumption) ?_); simp (disch := omega) only [go_sem, wrap64_id, Int.tdiv_eq_ediv_of_nonneg, Int.tmod_eq_emod_of_nonneg])
          | ((first | refine callU_of (fun _ => p91 (it l i) _) ?_ ?_); (next => repeat' first | exact flags_n | refine flags_c (by first | rfl | assumption) ?_); simp (disch := omega) only [go_sem, wrap64_id, Int.tdiv_eq_ediv_of_nonneg, Int.tmod_eq_emod_of_nonneg])
          | ((first | refine callG_pure (fun e => ⟨?_, p91 (it l i) _⟩) ?_); (next => repeat' first | exact flags_n | refine flags_c (by first | rfl | assumption) ?_); simp (disch := omega) only [go_sem, wrap64_id, Int.tdiv_eq_ediv_of_nonneg, Int.tmod_eq_emod_of_nonneg])
          | ((first | refine fnQ_pure1 ?_ ?_ | refine fnQ_pure0 ?_ ?_); (next => repeat' first | exact rvs_n | refine rvs_t ?_ | (simp [go_sem]; done)); simp only [go_sem]; (first | exact VLe.refl _ | refine VLe_int ?_ | refine VLe_bool ?_ | refine VLe_str ?_ | skip))
          | (with_reducible refine And.intro ?_ ?_)
          | with_reducible intro _
        all_goals first
          | omega
          | skip
        · rename_i h1 h2
          exact (check_first i hi i2 h2).symm
        · rename_i h1 h2
          refine hK _ _ (i + 1) ⟨by omega, fun j hj => ?_⟩ (by omega) (Wk.temps ?_)
          · rcases Nat.lt_succ_iff_lt_or_eq.1 hj with h3 | rfl
            · exact i2 j h3
            · exact h2
          · simp only [items, itemC, spar, List.foldl, List.replicate, go_sem, VLes_nil, VLes_cons, VLe_undef_iff, VLe_self]
            try (repeat' first | (with_reducible refine And.intro ?_ ?_) | (refine VLe_int ?_; omega) | (refine VLe_bool ?_; rfl))
      · have e : i = l.length := by omega
        subst e
        simp (disch := omega) only [spar, items, itemC, List.foldl, List.replicate, go_sem, wrap64_id, Int.tdiv_eq_ediv_of_nonneg, Int.tmod_eq_emod_of_nonneg]
        refine ⟨fun hc => absurd hc (by omega), fun _ => ?_⟩
        refine loop_of (T := fun i : Nat × Int => spar 51 [(0, items l), (5, .int .i64 i.2), (6, .int .i64 i.1)]) (H := fun _ => h)
          (inv := fun i => i.1 ≤ l.length ∧ checkGo (l.drop i.1) i.2 = checkGo l 0 ∧ 0 ≤ i.2 ∧ i.2 ≤ 1073741824) (m := fun i => l.length - i.1) (0, 0)
          ⟨by simp only; omega, rfl, by simp only; omega, by simp only; omega⟩ (Wk.temps ?_) ?_
        · simp only [items, itemC, spar, List.foldl, List.replicate, go_sem, VLes_nil, VLes_cons, VLe_undef_iff, VLe_self]
          try (repeat' first | (with_reducible refine And.intro ?_ ?_) | (refine VLe_int ?_; omega) | (refine VLe_bool ?_; rfl))
        · rintro ⟨i, s⟩ ⟨j1, j2, j3, j4⟩ K hK
          simp only at j1 j2 j3 j4 hK
          by_cases hi : i < l.length
          · rw [drop_it hi, checkGo, if_pos (i2 i hi)] at j2
            obtain ⟨a1, a2, a3, a4, a5, a6, a7, a8, a9, b1, b2, b3⟩ := checkItem_iff.1 (i2 i hi)
            simp (disch := omega) only [spar, items, itemC, List.foldl, List.replicate, go_sem, wrap64_id, Int.tdiv_eq_ediv_of_nonneg, Int.tmod_eq_emod_of_nonneg]
            repeat' first
              | ((first | refine fnQ_pure1 ?_ ?_ | refine fnQ_pure0 ?_ ?_); (next => repeat' first | exact rvs_n | refine rvs_t ?_ | (simp [go_sem]; done)); simp only [go_sem]; (first | exact VLe.refl _ | refine VLe_int ?_ | refine VLe_bool ?_ | refine VLe_str ?_ | skip))
              | (with_reducible refine And.intro ?_ ?_)
              | with_reducible intro _
            all_goals first
              | omega
              | skip
            · rename_i h1 h2
              rw [← j2]
              exact (checkGo_big _ _ (fun x hx => i2' i2 x (List.mem_of_mem_drop hx)) h2).symm
            · rename_i h1 h2
              refine hK _ _ (i + 1, s + (it l i).width + (it l i).stretch + (it l i).shrink) ⟨by simp only; omega, j2, by simp only; omega, by simp only; omega⟩ (by simp only; omega) (Wk.temps ?_)
              simp only [items, itemC, spar, List.foldl, List.replicate, go_sem, VLes_nil, VLes_cons, VLe_undef_iff, VLe_self]
              try (repeat' first | (with_reducible refine And.intro ?_ ?_) | (refine VLe_int ?_; omega) | (refine VLe_bool ?_; rfl))
          · have e : i = l.length := by omega
            subst e
            rw [List.drop_length, checkGo, if_neg (by omega)] at j2
            simp (disch := omega) only [spar, items, itemC, List.foldl, List.replicate, go_sem, wrap64_id, Int.tdiv_eq_ediv_of_nonneg, Int.tmod_eq_emod_of_nonneg]
            repeat' first
              | ((first | refine fnQ_pure1 ?_ ?_ | refine fnQ_pure0 ?_ ?_); (next => repeat' first | exact rvs_n | refine rvs_t ?_ | (simp [go_sem]; done)); simp only [go_sem]; (first | exact VLe.refl _ | refine VLe_int ?_ | refine VLe_bool ?_ | refine VLe_str ?_ | skip))
              | (with_reducible refine And.intro ?_ ?_)
              | with_reducible intro _
            all_goals first
              | omega
              | exact j2

end LN
end

section
open Go Go.Proofs AF HY P48
namespace LN
set_option maxRecDepth 100000
structure Ln where
  frm : Int
  to : Int
  bad : Int
  chg : Int
  text : List UInt8
  deriving Inhabited
def lineC (x : Ln) : List AV := [.int .i64 x.frm, .int .i64 x.to, .int .i64 x.bad, .int .i64 x.chg, .str x.text]
def linesV (ls : List Ln) : AV := .sl ls.length fun i => lineC (ls.getD i default)
theorem flag_linesV (l : List Ln) : (linesV l).flag = true := rfl
theorem strip_linesV (l : List Ln) : (linesV l).strip = linesV l := rfl
attribute [go_sem] flag_linesV strip_linesV
def scan (i : Int) : List Ln → Nat → Int → Option Int
  | [], _, c => some c
  | x :: r, n, c => if i < x.frm ∨ x.to ≤ i then scan i r (n + 1) c else if 0 < c then none else scan i r (n + 1) ((n : Int) + 1)
def placesGo (ls : List Ln) : List It → Nat → Int → List Int → Option (List Int)
  | [], _, _, out => some out
  | x :: r, i, last, out => if x.kind ≠ 1 then placesGo ls r (i + 1) last out else match scan i ls 0 0 with
    | none => none
    | some c => if c = 0 ∨ c < last then none else placesGo ls r (i + 1) c (out.set i c)
def placesO (l : List It) (ls : List Ln) : Option (List Int) := placesGo ls l 0 0 (List.replicate l.length 0)
def placesT : Option (List Int) → AV
  | none => .tup [.nl, .bool false]
  | some out => .tup [intsV out, .bool true]
theorem drop_ln {ls : List Ln} {k : Nat} (h : k < ls.length) : ls.drop k = ls.getD k default :: ls.drop (k + 1) := by
  rw [List.drop_eq_getElem_cons h]; simp [List.getD_eq_getElem?_getD, h]
theorem set_same {out : List Int} {i : Nat} (h : out.getD i 0 = 0) (hi : i < out.length) : out.set i 0 = out := by
  apply List.ext_getElem (by simp)
  intro j h1 h2
  rw [List.getElem_set]
  split
  · rename_i e; subst e
    rw [List.getD_eq_getElem?_getD, List.getElem?_eq_getElem hi] at h
    exact h.symm
  · rfl
theorem made_zeros : ∀ n, madeA [AV.int .i64 0] n = intsC (List.replicate n 0) := by
  intro n
  induction n with
  | zero => rfl
  | succ n ih => rw [madeA, ih]; rfl
set_option maxHeartbeats 8000000 in
theorem t62 (l : List It) (ls : List Ln) (h : List AObj) (hl : l.length ≤ 100000) (hls : ls.length ≤ 100000) : ACalls Tryd.prog 62 [items l, linesV ls] h (placesT (placesO l ls)) h := by
  obtain ⟨R, hR⟩ : ∃ R, R = placesO l ls := ⟨_, rfl⟩
  rw [← hR]
  have hR2 : R = placesGo ls l 0 0 (List.replicate l.length 0) := hR
  refine acalls_of fn62l (by simp) ?_
  simp only [List.length_cons, List.length_nil, Nat.reduceAdd, Nat.reduceSub, List.replicate, List.cons_append, List.nil_append, List.append_nil]
  simp (disch := omega) only [c62l, items, itemC, linesV, lineC, go_sem, wrap64_id, Int.tdiv_eq_ediv_of_nonneg, Int.tmod_eq_emod_of_nonneg]
  repeat' first
    | ((first | refine fnQ_pure1 ?_ ?_ | refine fnQ_pure0 ?_ ?_); (next => repeat' first | exact rvs_n | refine rvs_t ?_ | (simp [go_sem]; done)); simp only [go_sem]; (first | exact VLe.refl _ | refine VLe_int ?_ | refine VLe_bool ?_ | refine VLe_str ?_ | skip))
    | (with_reducible refine And.intro ?_ ?_)
    | with_reducible intro _
  all_goals first
    | omega
    | (rename_i hx; revert hx; simp; done)
    | (simp; done)
    | skip
  rw [made_zeros]
  refine loop_of (T := fun i : Nat × Int × List Int × AObj × AObj => spar 72 [(1, linesV ls), (6, .osl (h.length + 1) 1 1 0 l.length), (7, .int .i64 i.2.1), (15, items l), (16, .int .i64 l.length), (17, .int .i64 i.1)])
    (H := fun i => h ++ [.emp 1, .mem 1 3 (intsC i.2.2.1), i.2.2.2.1, i.2.2.2.2])
    (inv := fun i => i.1 ≤ l.length ∧ i.2.2.1.length = l.length ∧ (∀ j, i.1 ≤ j → i.2.2.1.getD j 0 = 0) ∧ R = placesGo ls (l.drop i.1) i.1 i.2.1 i.2.2.1 ∧ site [i.2.2.2.1] 0 = true ∧ site [i.2.2.2.2] 0 = true) (m := fun i => l.length - i.1)
    (0, 0, List.replicate l.length 0, .emp 0, .emp 0) ⟨Nat.zero_le _, by simp, fun j _ => zeros_get _ _, hR2, rfl, rfl⟩ (Wk.temps ?_) ?_
  · (simp only [items, itemC, linesV, lineC, spar, List.foldl, List.replicate, go_sem, VLes_nil, VLes_cons, VLe_undef_iff, VLe_self]; try (repeat' first | (with_reducible refine And.intro ?_ ?_) | (refine VLe_int ?_; omega) | (refine VLe_bool ?_; rfl) | exact VLe.refl _))
  rintro ⟨i, last, out, O1, O2⟩ ⟨i1, i2, i3, i4, i5, i6⟩ K hK
  simp only at i1 i2 i3 i4 i5 i6 hK
  have i5' : ∀ m, site (O1 :: m) 0 = true := fun _ => i5
  have i6' : ∀ m, site (O2 :: m) 0 = true := fun _ => i6
  by_cases hi : i < l.length
  · have hdr := drop_it hi
    rw [hdr] at i4
    simp only [placesGo] at i4
    by_cases hk : (it l i).kind = 1
    · have q1 : ((it l i).kind = 1) = True := eq_true hk
      rw [if_neg (fun hc => hc hk)] at i4
      simp (disch := omega) only [spar, items, itemC, linesV, lineC, List.foldl, List.replicate, i5', i6', q1, go_sem, wrap64_id, Int.tdiv_eq_ediv_of_nonneg, Int.tmod_eq_emod_of_nonneg]
      repeat' first
        | ((first | refine fnQ_pure1 ?_ ?_ | refine fnQ_pure0 ?_ ?_); (next => repeat' first | exact rvs_n | refine rvs_t ?_ | (simp [go_sem]; done)); simp only [go_sem]; (first | exact VLe.refl _ | refine VLe_int ?_ | refine VLe_bool ?_ | refine VLe_str ?_ | skip))
        | (with_reducible refine And.intro ?_ ?_)
        | with_reducible intro _
      all_goals first
        | omega
        | (rename_i hx; revert hx; simp; done)
        | (simp; done)
        | skip
      have e0 := set_same (i3 i (Nat.le_refl _)) (by omega)
      rw [show intsC out = intsC (out.set i 0) by rw [e0]]
      refine loop_of (T := fun k : Nat × Int × AObj => spar 72 [(1, linesV ls), (6, .osl (h.length + 1) 1 1 0 l.length), (7, .int .i64 last), (8, .int .i64 i), (15, items l), (16, .int .i64 l.length), (17, .int .i64 i), (25, linesV ls), (26, .int .i64 ls.length), (27, .int .i64 k.1)])
        (H := fun k => h ++ [.emp 1, .mem 1 3 (intsC (out.set i k.2.1)), .mem (verOf (some O1) + 1) 57 (itemC (it l i)), k.2.2])
        (inv := fun k => k.1 ≤ ls.length ∧ scan i ls 0 0 = scan i (ls.drop k.1) k.1 k.2.1 ∧ 0 ≤ k.2.1 ∧ site [k.2.2] 0 = true) (m := fun k => ls.length - k.1) (0, 0, O2)
        ⟨Nat.zero_le _, rfl, Int.le_refl _, i6⟩ (Wk.temps ?_) ?_
      · (simp only [items, itemC, linesV, lineC, hk, spar, List.foldl, List.replicate, go_sem, VLes_nil, VLes_cons, VLe_undef_iff, VLe_self]; try (repeat' first | (with_reducible refine And.intro ?_ ?_) | (refine VLe_int ?_; omega) | (refine VLe_bool ?_; rfl) | exact VLe.refl _))
      rintro ⟨k, c, O⟩ ⟨k1, k2, k3, k4⟩ K2 hK2
      simp only at k1 k2 k3 k4 hK2
      have k4' : ∀ m, site (O :: m) 0 = true := fun _ => k4
      have hsl : (out.set i c).length = l.length := by simp [i2]
      have eC := intsC_len (out.set i c)
      rw [hsl] at eC
      have eg := intsC_get (all := out.set i c) (a := i) (by omega)
      have egc : (out.set i c).getD i 0 = c := by rw [getD_set, if_pos ⟨rfl, by omega⟩]
      rw [egc] at eg
      have q0 : ((i : Int) < l.length) = True := eq_true (by omega)
      by_cases hk2 : k < ls.length
      · rw [drop_ln hk2] at k2
        simp only [scan] at k2
        obtain ⟨x, hx⟩ : ∃ x, x = ls.getD k default := ⟨_, rfl⟩
        have ex := hx.symm
        rw [ex] at k2
        by_cases a1 : (i : Int) < x.frm
        · have q2 : ((i : Int) < x.frm) = True := eq_true a1
          rw [if_pos (.inl a1)] at k2
          simp (disch := omega) only [spar, items, itemC, linesV, lineC, List.foldl, List.replicate, k4', ex, q2, go_sem, wrap64_id, Int.tdiv_eq_ediv_of_nonneg, Int.tmod_eq_emod_of_nonneg]
          repeat' first
            | ((first | refine fnQ_pure1 ?_ ?_ | refine fnQ_pure0 ?_ ?_); (next => repeat' first | exact rvs_n | refine rvs_t ?_ | (simp [go_sem]; done)); simp only [go_sem]; (first | exact VLe.refl _ | refine VLe_int ?_ | refine VLe_bool ?_ | refine VLe_str ?_ | skip))
            | (with_reducible refine And.intro ?_ ?_)
            | with_reducible intro _
          all_goals first
            | omega
            | (rename_i hx; revert hx; simp; done)
            | (simp; done)
            | skip
          refine hK2 _ _ (k + 1, c, .mem (verOf (some O) + 1) 60 (lineC x)) ⟨hk2, k2, k3, rfl⟩ (by simp only; omega) (Wk.temps ?_)
          (simp only [items, itemC, linesV, lineC, spar, List.foldl, List.replicate, go_sem, VLes_nil, VLes_cons, VLe_undef_iff, VLe_self]; try (repeat' first | (with_reducible refine And.intro ?_ ?_) | (refine VLe_int ?_; omega) | (refine VLe_bool ?_; rfl) | exact VLe.refl _))
        have q2 : ((i : Int) < x.frm) = False := eq_false a1
        by_cases a2 : x.to ≤ i
        · have q3 : (x.to ≤ (i : Int)) = True := eq_true a2
          rw [if_pos (.inr a2)] at k2
          simp (disch := omega) only [spar, items, itemC, linesV, lineC, List.foldl, List.replicate, k4', ex, q2, q3, go_sem, wrap64_id, Int.tdiv_eq_ediv_of_nonneg, Int.tmod_eq_emod_of_nonneg]
          repeat' first
            | ((first | refine fnQ_pure1 ?_ ?_ | refine fnQ_pure0 ?_ ?_); (next => repeat' first | exact rvs_n | refine rvs_t ?_ | (simp [go_sem]; done)); simp only [go_sem]; (first | exact VLe.refl _ | refine VLe_int ?_ | refine VLe_bool ?_ | refine VLe_str ?_ | skip))
            | (with_reducible refine And.intro ?_ ?_)
            | with_reducible intro _
          all_goals first
            | omega
            | (rename_i hx; revert hx; simp; done)
            | (simp; done)
            | skip
          refine hK2 _ _ (k + 1, c, .mem (verOf (some O) + 1) 60 (lineC x)) ⟨hk2, k2, k3, rfl⟩ (by simp only; omega) (Wk.temps ?_)
          (simp only [items, itemC, linesV, lineC, spar, List.foldl, List.replicate, go_sem, VLes_nil, VLes_cons, VLe_undef_iff, VLe_self]; try (repeat' first | (with_reducible refine And.intro ?_ ?_) | (refine VLe_int ?_; omega) | (refine VLe_bool ?_; rfl) | exact VLe.refl _))
        have q3 : (x.to ≤ (i : Int)) = False := eq_false a2
        rw [if_neg (by rintro (h | h) <;> contradiction)] at k2
        by_cases a3 : 0 < c
        · have q4 : (0 < c) = True := eq_true a3
          rw [if_pos a3] at k2
          have hV : R = none := by rw [i4, k2]
          rw [hV]
          simp (disch := omega) only [spar, items, itemC, linesV, lineC, List.foldl, List.replicate, k4', ex, q2, q3, q4, eC, eg, q0, go_sem, wrap64_id, Int.tdiv_eq_ediv_of_nonneg, Int.tmod_eq_emod_of_nonneg]
          repeat' first
            | ((first | refine fnQ_pure1 ?_ ?_ | refine fnQ_pure0 ?_ ?_); (next => repeat' first | exact rvs_n | refine rvs_t ?_ | (simp [go_sem]; done)); simp only [go_sem]; (first | exact VLe.refl _ | refine VLe_int ?_ | refine VLe_bool ?_ | refine VLe_str ?_ | skip))
            | (with_reducible refine And.intro ?_ ?_)
            | with_reducible intro _
          all_goals first
            | omega
            | (rename_i hx; revert hx; simp; done)
            | (simp; done)
            | skip
        · have q4 : (0 < c) = False := eq_false a3
          rw [if_neg a3] at k2
          have es := intsC_set (out.set i c) (a := i) ((k : Int) + 1) (by omega)
          rw [List.set_set] at es
          simp (disch := omega) only [spar, items, itemC, linesV, lineC, List.foldl, List.replicate, k4', ex, q2, q3, q4, eC, eg, q0, go_sem, wrap64_id, Int.tdiv_eq_ediv_of_nonneg, Int.tmod_eq_emod_of_nonneg]
          repeat' first
            | ((first | refine fnQ_pure1 ?_ ?_ | refine fnQ_pure0 ?_ ?_); (next => repeat' first | exact rvs_n | refine rvs_t ?_ | (simp [go_sem]; done)); simp only [go_sem]; (first | exact VLe.refl _ | refine VLe_int ?_ | refine VLe_bool ?_ | refine VLe_str ?_ | skip))
            | (with_reducible refine And.intro ?_ ?_)
            | with_reducible intro _
          all_goals first
            | omega
            | (rename_i hx; revert hx; simp; done)
            | (simp; done)
            | skip
          rw [es]
          refine hK2 _ _ (k + 1, (k : Int) + 1, .mem (verOf (some O) + 1) 60 (lineC x)) ⟨hk2, k2, by simp only; omega, rfl⟩ (by simp only; omega) (Wk.temps ?_)
          (simp only [items, itemC, linesV, lineC, spar, List.foldl, List.replicate, go_sem, VLes_nil, VLes_cons, VLe_undef_iff, VLe_self]; try (repeat' first | (with_reducible refine And.intro ?_ ?_) | (refine VLe_int ?_; omega) | (refine VLe_bool ?_; rfl) | exact VLe.refl _))
      · have e : k = ls.length := by omega
        subst e
        rw [List.drop_length] at k2
        simp only [scan] at k2
        rw [k2] at i4
        simp only at i4
        by_cases b1 : c = 0
        · have q5 : (c = 0) = True := eq_true b1
          rw [if_pos (.inl b1)] at i4
          rw [i4]
          simp (disch := omega) only [spar, items, itemC, linesV, lineC, List.foldl, List.replicate, k4', eC, eg, q0, q5, go_sem, wrap64_id, Int.tdiv_eq_ediv_of_nonneg, Int.tmod_eq_emod_of_nonneg]
          repeat' first
            | ((first | refine fnQ_pure1 ?_ ?_ | refine fnQ_pure0 ?_ ?_); (next => repeat' first | exact rvs_n | refine rvs_t ?_ | (simp [go_sem]; done)); simp only [go_sem]; (first | exact VLe.refl _ | refine VLe_int ?_ | refine VLe_bool ?_ | refine VLe_str ?_ | skip))
            | (with_reducible refine And.intro ?_ ?_)
            | with_reducible intro _
          all_goals first
            | omega
            | (rename_i hx; revert hx; simp; done)
            | (simp; done)
            | skip
        have q5 : (c = 0) = False := eq_false b1
        by_cases b2 : c < last
        · have q6 : (c < last) = True := eq_true b2
          rw [if_pos (.inr b2)] at i4
          rw [i4]
          simp (disch := omega) only [spar, items, itemC, linesV, lineC, List.foldl, List.replicate, k4', eC, eg, q0, q5, q6, go_sem, wrap64_id, Int.tdiv_eq_ediv_of_nonneg, Int.tmod_eq_emod_of_nonneg]
          repeat' first
            | ((first | refine fnQ_pure1 ?_ ?_ | refine fnQ_pure0 ?_ ?_); (next => repeat' first | exact rvs_n | refine rvs_t ?_ | (simp [go_sem]; done)); simp only [go_sem]; (first | exact VLe.refl _ | refine VLe_int ?_ | refine VLe_bool ?_ | refine VLe_str ?_ | skip))
            | (with_reducible refine And.intro ?_ ?_)
            | with_reducible intro _
          all_goals first
            | omega
            | (rename_i hx; revert hx; simp; done)
            | (simp; done)
            | skip
        have q6 : (c < last) = False := eq_false b2
        rw [if_neg (by rintro (h | h) <;> contradiction)] at i4
        simp (disch := omega) only [spar, items, itemC, linesV, lineC, List.foldl, List.replicate, k4', eC, eg, q0, q5, q6, go_sem, wrap64_id, Int.tdiv_eq_ediv_of_nonneg, Int.tmod_eq_emod_of_nonneg]
        repeat' first
          | ((first | refine fnQ_pure1 ?_ ?_ | refine fnQ_pure0 ?_ ?_); (next => repeat' first | exact rvs_n | refine rvs_t ?_ | (simp [go_sem]; done)); simp only [go_sem]; (first | exact VLe.refl _ | refine VLe_int ?_ | refine VLe_bool ?_ | refine VLe_str ?_ | skip))
          | (with_reducible refine And.intro ?_ ?_)
          | with_reducible intro _
        all_goals first
          | omega
          | (rename_i hx; revert hx; simp; done)
          | (simp; done)
          | skip
        refine hK _ _ (i + 1, c, out.set i c, .mem (verOf (some O1) + 1) 57 (itemC (it l i)), O) ⟨hi, hsl, fun j hj => ?_, i4, rfl, k4⟩ (by simp only; omega) (Wk.temps ?_)
        · rw [getD_set, if_neg (by rintro ⟨h, _⟩; simp only at hj; omega)]
          exact i3 j (by simp only at hj; omega)
        · (simp only [items, itemC, linesV, lineC, spar, List.foldl, List.replicate, go_sem, VLes_nil, VLes_cons, VLe_undef_iff, VLe_self]; try (repeat' first | (with_reducible refine And.intro ?_ ?_) | (refine VLe_int ?_; omega) | (refine VLe_bool ?_; rfl) | exact VLe.refl _))
    · have q1 : ((it l i).kind = 1) = False := eq_false hk
      rw [if_pos hk] at i4
      simp (disch := omega) only [spar, items, itemC, linesV, lineC, List.foldl, List.replicate, i5', i6', q1, go_sem, wrap64_id, Int.tdiv_eq_ediv_of_nonneg, Int.tmod_eq_emod_of_nonneg]
      repeat' first
        | ((first | refine fnQ_pure1 ?_ ?_ | refine fnQ_pure0 ?_ ?_); (next => repeat' first | exact rvs_n | refine rvs_t ?_ | (simp [go_sem]; done)); simp only [go_sem]; (first | exact VLe.refl _ | refine VLe_int ?_ | refine VLe_bool ?_ | refine VLe_str ?_ | skip))
        | (with_reducible refine And.intro ?_ ?_)
        | with_reducible intro _
      all_goals first
        | omega
        | (rename_i hx; revert hx; simp; done)
        | (simp; done)
        | skip
      refine hK _ _ (i + 1, last, out, .mem (verOf (some O1) + 1) 57 (itemC (it l i)), O2) ⟨hi, i2, fun j hj => i3 j (by simp only at hj; omega), i4, rfl, i6⟩ (by simp only; omega) (Wk.temps ?_)
      (simp only [items, itemC, linesV, lineC, spar, List.foldl, List.replicate, go_sem, VLes_nil, VLes_cons, VLe_undef_iff, VLe_self]; try (repeat' first | (with_reducible refine And.intro ?_ ?_) | (refine VLe_int ?_; omega) | (refine VLe_bool ?_; rfl) | exact VLe.refl _))
  · have e : i = l.length := by omega
    subst e
    rw [List.drop_length] at i4
    have hV : R = some out := i4
    rw [hV]
    have eC := intsC_len out
    simp (disch := omega) only [spar, items, itemC, linesV, lineC, List.foldl, List.replicate, go_sem, wrap64_id, Int.tdiv_eq_ediv_of_nonneg, Int.tmod_eq_emod_of_nonneg]
    repeat' first
      | ((first | refine fnQ_pure1 ?_ ?_ | refine fnQ_pure0 ?_ ?_); (next => repeat' first | exact rvs_n | refine rvs_t ?_ | (simp [go_sem]; done)); simp only [go_sem]; (first | exact VLe.refl _ | refine VLe_int ?_ | refine VLe_bool ?_ | refine VLe_str ?_ | skip))
      | (with_reducible refine And.intro ?_ ?_)
      | with_reducible intro _
    all_goals first
      | omega
      | (rename_i hx; revert hx; simp; done)
      | (simp; done)
      | skip
    rw [if_pos (by omega)]
    exact VLe_tup ⟨intsV_of i2, VLe.refl _, trivial⟩
end LN
end

section
open Go Go.Proofs AF HY P48
namespace LN
set_option maxRecDepth 100000
def cont (l : List It) (i : Nat) : Bool := decide (2 ≤ i) && (decide ((it l (i - 1)).kind = 3) && (decide ((it l (i - 1)).penalty ≠ -10000) && decide ((it l (i - 2)).kind = 1)))
def wordsD (l : List It) : Nat → List (Int × Int) × Int × Int
  | 0 => ([], -1, -1)
  | i + 1 => if (it l i).kind ≠ 1 then wordsD l i else if cont l i = true then ((wordsD l i).1, (wordsD l i).2.1, i) else
      (if 0 ≤ (wordsD l i).2.1 then (wordsD l i).1 ++ [(wordsD l i).2] else (wordsD l i).1, i, i)
def wordsF (l : List It) : List (Int × Int) := if 0 ≤ (wordsD l l.length).2.1 then (wordsD l l.length).1 ++ [(wordsD l l.length).2] else (wordsD l l.length).1
def wordsX (l : List It) : List (List AV) := (wordsF l).map fun p => [.int .i64 p.1, .int .i64 p.2]
theorem words_step (l : List It) (i : Nat) : (wordsD l i).1 <+: (wordsD l (i + 1)).1 := by
  rw [wordsD]
  split
  · exact List.prefix_rfl
  · split
    · exact List.prefix_rfl
    · split
      · exact List.prefix_append _ _
      · exact List.prefix_rfl
theorem words_pre (l : List It) : ∀ n i, (wordsD l i).1 <+: (wordsD l (i + n)).1 := by
  intro n
  induction n with
  | zero => intro i; exact List.prefix_rfl
  | succ n ih => intro i; exact (ih i).trans (words_step l (i + n))
theorem words_fin (l : List It) {i : Nat} (hi : i ≤ l.length) : (wordsD l i).1 <+: wordsF l := by
  have h := words_pre l (l.length - i) i
  rw [show i + (l.length - i) = l.length by omega] at h
  refine h.trans ?_
  unfold wordsF
  split
  · exact List.prefix_append _ _
  · exact List.prefix_rfl
def wordsFn (l : List It) : AV := .fn (.func 90) [] [.ip [items l]]
theorem flag_wordsFn (l : List It) : (wordsFn l).flag = true := rfl
theorem strip_wordsFn (l : List It) : (wordsFn l).strip = wordsFn l := rfl
attribute [go_sem] flag_wordsFn strip_wordsFn
theorem t63 (l : List It) (h : List AObj) : ACalls Tryd.prog 63 [items l] h (wordsFn l) h := by
  refine acalls_of fn63l (by simp) ?_
  simp only [List.length_cons, List.length_nil, Nat.reduceAdd, Nat.reduceSub, List.replicate, List.cons_append, List.nil_append, List.append_nil]
  simp (disch := omega) only [c63l, items, itemC, go_sem, wrap64_id, Int.tdiv_eq_ediv_of_nonneg, Int.tmod_eq_emod_of_nonneg]
  repeat' first
    | ((first | refine fnQ_pure1 ?_ ?_ | refine fnQ_pure0 ?_ ?_); (next => repeat' first | exact rvs_n | refine rvs_t ?_ | (simp [go_sem]; done)); simp only [go_sem]; (first | exact VLe.refl _ | refine VLe_int ?_ | refine VLe_bool ?_ | refine VLe_str ?_ | skip))
    | (with_reducible refine And.intro ?_ ?_)
    | with_reducible intro _
  all_goals first
    | omega
    | (rename_i hx; revert hx; simp; done)
    | (simp; done)
    | skip
theorem words_range (l : List It) : ∀ i, -1 ≤ (wordsD l i).2.1 ∧ (wordsD l i).2.1 < i + 1 := by
  intro i
  induction i with
  | zero => simp [wordsD]
  | succ i ih =>
    rw [wordsD]
    split
    · omega
    · split
      · simp only; omega
      · simp only; omega
end LN
end

section
open Go Go.Proofs AF HY P48
namespace LN
set_option maxRecDepth 100000
set_option maxHeartbeats 8000000 in
theorem it90 (l : List It) (hl : l.length ≤ 100000) : Iter Tryd.prog 90 [.ip [items l]] (wordsX l) := by
  intro h ts L S E hS hE body start hts
  refine acallsQ_of fn90l (by simp) ?_
  simp only [List.length_cons, List.length_nil, Nat.reduceAdd, Nat.reduceSub, List.replicate, List.cons_append, List.nil_append, List.append_nil]
  simp (disch := omega) only [c90l, items, itemC, go_sem, wrap64_id, Int.tdiv_eq_ediv_of_nonneg, Int.tmod_eq_emod_of_nonneg]
  repeat' first
    | ((first | refine fnQ_pure1 ?_ ?_ | refine fnQ_pure0 ?_ ?_); (next => repeat' first | exact rvs_n | refine rvs_t ?_ | (simp [go_sem]; done)); simp only [go_sem]; (first | exact VLe.refl _ | refine VLe_int ?_ | refine VLe_bool ?_ | refine VLe_str ?_ | skip))
    | (with_reducible refine And.intro ?_ ?_)
    | with_reducible intro _
  all_goals first
    | omega
    | (rename_i hx; revert hx; simp; done)
    | (simp; done)
    | skip
  refine loop_of (T := fun i : Nat × List AObj × AObj => spar 65 [(0, .yld h.length), (1, .ip [items l]), (3, .int .i64 (wordsD l i.1).2.1), (4, .int .i64 (wordsD l i.1).2.2), (7, items l), (8, .int .i64 l.length), (9, .int .i64 i.1)])
    (H := fun i => i.2.1 ++ [.lp .ready ts L] ++ [i.2.2])
    (inv := fun i => i.1 ≤ l.length ∧ S (wordsD l i.1).1.length i.2.1 ∧ site [i.2.2] 0 = true) (m := fun i => l.length - i.1) (0, h, .emp 0) ⟨Nat.zero_le _, start, rfl⟩ (Wk.temps ?_) ?_
  · (simp only [items, itemC, wordsD, spar, List.foldl, List.replicate, go_sem, VLes_nil, VLes_cons, VLe_undef_iff, VLe_self]; try (repeat' first | (with_reducible refine And.intro ?_ ?_) | (refine VLe_int ?_; omega) | (refine VLe_bool ?_; rfl) | exact VLe.refl _))
  rintro ⟨i, hh, O⟩ ⟨i1, i2, i3⟩ K hK
  simp only at i1 i2 i3 hK
  obtain ⟨hlen, hlow⟩ := hS _ _ i2
  have hb : (h ++ [AObj.lp LS.ready ts L]).length = (hh ++ [AObj.lp LS.ready ts L]).length := by simp [hlen]
  rw [hb]
  have i3' : ∀ m, site (O :: m) 0 = true := fun _ => i3
  have hrg := words_range l i
  have hfin := fun (h : i + 1 ≤ l.length) => words_fin l h
  obtain ⟨d, f, t, hW⟩ : ∃ d f t, wordsD l i = (d, f, t) := ⟨_, _, _, rfl⟩
  rw [hW] at i2 hrg
  simp only at i2 hrg
  by_cases hi : i < l.length
  · have q0 : ((i : Int) < l.length) = True := eq_true (by omega)
    have hst : wordsD l (i + 1) = if (it l i).kind ≠ 1 then (d, f, t) else if cont l i = true then (d, f, (i : Int)) else (if 0 ≤ f then d ++ [(f, t)] else d, (i : Int), (i : Int)) := by
      rw [wordsD, hW]
    by_cases hk : (it l i).kind = 1
    · have q1 : ((it l i).kind = 1) = True := eq_true hk
      rw [if_neg (fun hc => hc hk)] at hst
      simp (disch := omega) only [spar, items, itemC, List.foldl, List.replicate, i3', q0, q1, hW, go_sem, wrap64_id, Int.tdiv_eq_ediv_of_nonneg, Int.tmod_eq_emod_of_nonneg]
      repeat' first
        | ((first | refine fnQ_pure1 ?_ ?_ | refine fnQ_pure0 ?_ ?_); (next => repeat' first | exact rvs_n | refine rvs_t ?_ | (simp [go_sem]; done)); simp only [go_sem]; (first | exact VLe.refl _ | refine VLe_int ?_ | refine VLe_bool ?_ | refine VLe_str ?_ | skip))
        | (with_reducible refine And.intro ?_ ?_)
        | with_reducible intro _
      all_goals first
        | omega
        | (rename_i hx; revert hx; simp; done)
        | (simp; done)
        | skip
      · rename_i a1
        have hc : cont l i = true := by
          unfold cont
          rw [show (i - 1 : Nat) = ((i : Int) - 1).toNat by omega, show (i - 2 : Nat) = ((i : Int) - 2).toNat by omega]
          simp only [Bool.and_eq_true, decide_eq_true_eq]
          exact ⟨by omega, a1.1.1.2, a1.1.2, a1.2⟩
        rw [if_pos hc] at hst
        refine hK _ _ (i + 1, hh, .mem (verOf (some O) + 1) 57 (itemC (it l i))) ⟨hi, by simp only; rw [hst]; exact i2, rfl⟩ (by simp only; omega) ?_
        simp only
        rw [hst]
        refine Wk.temps ?_
        (simp only [items, itemC, spar, List.foldl, List.replicate, go_sem, VLes_nil, VLes_cons, VLe_undef_iff, VLe_self]; try (repeat' first | (with_reducible refine And.intro ?_ ?_) | (refine VLe_int ?_; omega) | (refine VLe_bool ?_; rfl) | exact VLe.refl _))
      · exact ⟨.ready, ts, L, by rw [List.append_assoc]; exact getO_i hlen⟩
      · rename_i a1 hf
        have hc : ¬ cont l i = true := by
          unfold cont
          rw [show (i - 1 : Nat) = ((i : Int) - 1).toNat by omega, show (i - 2 : Nat) = ((i : Int) - 2).toNat by omega]
          simp only [Bool.and_eq_true, decide_eq_true_eq]
          rintro ⟨b1, b2, b3, b4⟩
          exact a1 ⟨⟨by omega, b2⟩, b3⟩ b4
        have qf : (0 ≤ f) = True := eq_true hf
        rw [if_neg hc, if_pos hf] at hst
        have hpre : d ++ [(f, t)] <+: wordsF l := by have := hfin hi; rwa [hst] at this
        obtain ⟨r, hr⟩ := hpre
        have hlt : d.length < (wordsX l).length := by unfold wordsX; rw [List.length_map, ← hr]; simp
        have hx : (wordsX l)[d.length] = [.int .i64 f, .int .i64 t] := by
          unfold wordsX
          simp only [List.getElem_map, ← hr]
          simp
        have hb' := body d.length hh [.mem (verOf (some O) + 1) 57 (itemC (it l i))] hlt i2
        rw [hx] at hb'
        rw [List.append_assoc]
        refine AYield.mono ?_ hb'
        rintro v h' ⟨hh', ⟨rfl, hn, rfl⟩ | ⟨st, rfl, hs', rfl⟩⟩
        · simp (disch := omega) only [qf, go_sem, wrap64_id, Int.tdiv_eq_ediv_of_nonneg, Int.tmod_eq_emod_of_nonneg]
          repeat' first
            | ((first | refine fnQ_pure1 ?_ ?_ | refine fnQ_pure0 ?_ ?_); (next => repeat' first | exact rvs_n | refine rvs_t ?_ | (simp [go_sem]; done)); simp only [go_sem]; (first | exact VLe.refl _ | refine VLe_int ?_ | refine VLe_bool ?_ | refine VLe_str ?_ | skip))
            | (with_reducible refine And.intro ?_ ?_)
            | with_reducible intro _
          all_goals first
            | omega
            | (rename_i hx; revert hx; simp; done)
            | (simp; done)
            | skip
          refine hK _ _ (i + 1, hh', .mem (verOf (some O) + 1) 57 (itemC (it l i))) ⟨hi, by simp only; rw [hst]; simpa using hn, rfl⟩ (by simp only; omega) ?_
          simp only
          rw [hst, List.append_assoc]
          refine Wk.temps ?_
          (simp only [items, itemC, spar, List.foldl, List.replicate, go_sem, VLes_nil, VLes_cons, VLe_undef_iff, VLe_self]; try (repeat' first | (with_reducible refine And.intro ?_ ?_) | (refine VLe_int ?_; omega) | (refine VLe_bool ?_; rfl) | exact VLe.refl _))
        · simp (disch := omega) only [qf, go_sem, wrap64_id, Int.tdiv_eq_ediv_of_nonneg, Int.tmod_eq_emod_of_nonneg]
          obtain ⟨r1, r2⟩ := (hE _ _ hs').ret (L := L) st hts
          rw [show hh' ++ AObj.lp st ts L :: [AObj.mem (verOf (some O) + 1) 57 (itemC (it l i))] = (hh' ++ [AObj.lp st ts L]) ++ [AObj.mem (verOf (some O) + 1) 57 (itemC (it l i))] by simp]
          exact fnQ_eff trivial r1 r2 ⟨_, .inr ⟨st, hs', rfl⟩⟩ (VLe.refl _)
      · rename_i a1 hf _
        have hc : ¬ cont l i = true := by
          unfold cont
          rw [show (i - 1 : Nat) = ((i : Int) - 1).toNat by omega, show (i - 2 : Nat) = ((i : Int) - 2).toNat by omega]
          simp only [Bool.and_eq_true, decide_eq_true_eq]
          rintro ⟨b1, b2, b3, b4⟩
          exact a1 ⟨⟨by omega, b2⟩, b3⟩ b4
        rw [if_neg hc, if_neg hf] at hst
        refine hK _ _ (i + 1, hh, .mem (verOf (some O) + 1) 57 (itemC (it l i))) ⟨hi, by simp only; rw [hst]; exact i2, rfl⟩ (by simp only; omega) ?_
        simp only
        rw [hst]
        refine Wk.temps ?_
        (simp only [items, itemC, spar, List.foldl, List.replicate, go_sem, VLes_nil, VLes_cons, VLe_undef_iff, VLe_self]; try (repeat' first | (with_reducible refine And.intro ?_ ?_) | (refine VLe_int ?_; omega) | (refine VLe_bool ?_; rfl) | exact VLe.refl _))
    · have q1 : ((it l i).kind = 1) = False := eq_false hk
      rw [if_pos hk] at hst
      simp (disch := omega) only [spar, items, itemC, List.foldl, List.replicate, i3', q0, q1, hW, go_sem, wrap64_id, Int.tdiv_eq_ediv_of_nonneg, Int.tmod_eq_emod_of_nonneg]
      repeat' first
        | ((first | refine fnQ_pure1 ?_ ?_ | refine fnQ_pure0 ?_ ?_); (next => repeat' first | exact rvs_n | refine rvs_t ?_ | (simp [go_sem]; done)); simp only [go_sem]; (first | exact VLe.refl _ | refine VLe_int ?_ | refine VLe_bool ?_ | refine VLe_str ?_ | skip))
        | (with_reducible refine And.intro ?_ ?_)
        | with_reducible intro _
      all_goals first
        | omega
        | (rename_i hx; revert hx; simp; done)
        | (simp; done)
        | skip
      refine hK _ _ (i + 1, hh, .mem (verOf (some O) + 1) 57 (itemC (it l i))) ⟨hi, by simp only; rw [hst]; exact i2, rfl⟩ (by simp only; omega) ?_
      simp only
      rw [hst]
      refine Wk.temps ?_
      (simp only [items, itemC, spar, List.foldl, List.replicate, go_sem, VLes_nil, VLes_cons, VLe_undef_iff, VLe_self]; try (repeat' first | (with_reducible refine And.intro ?_ ?_) | (refine VLe_int ?_; omega) | (refine VLe_bool ?_; rfl) | exact VLe.refl _))
  · have e : i = l.length := by omega
    subst e
    by_cases hf : 0 ≤ f
    · have q1 : (0 ≤ f) = True := eq_true hf
      simp (disch := omega) only [spar, items, itemC, List.foldl, List.replicate, q1, hW, go_sem, wrap64_id, Int.tdiv_eq_ediv_of_nonneg, Int.tmod_eq_emod_of_nonneg]
      repeat' first
        | ((first | refine fnQ_pure1 ?_ ?_ | refine fnQ_pure0 ?_ ?_); (next => repeat' first | exact rvs_n | refine rvs_t ?_ | (simp [go_sem]; done)); simp only [go_sem]; (first | exact VLe.refl _ | refine VLe_int ?_ | refine VLe_bool ?_ | refine VLe_str ?_ | skip))
        | (with_reducible refine And.intro ?_ ?_)
        | with_reducible intro _
      all_goals first
        | omega
        | (rename_i hx; revert hx; simp; done)
        | (simp; done)
        | skip
      · exact ⟨.ready, ts, L, by rw [List.append_assoc]; exact getO_i hlen⟩
      · have hF : wordsF l = d ++ [(f, t)] := by unfold wordsF; rw [hW]; simp only; rw [if_pos hf]
        have hlX : (wordsX l).length = d.length + 1 := by unfold wordsX; rw [hF]; simp
        have hx : (wordsX l)[d.length]'(by omega) = [.int .i64 f, .int .i64 t] := by
          unfold wordsX
          simp only [List.getElem_map, hF]
          simp
        have hb' := body d.length hh [O] (by omega) i2
        rw [hx] at hb'
        rw [List.append_assoc]
        refine AYield.mono ?_ hb'
        rintro v h' ⟨hh', ⟨rfl, hn, rfl⟩ | ⟨st, rfl, hs', rfl⟩⟩
        · obtain ⟨r1, r2⟩ := (hS _ _ hn).ret (L := L) .ready hts
          rw [show hh' ++ AObj.lp LS.ready ts L :: [O] = (hh' ++ [AObj.lp LS.ready ts L]) ++ [O] by simp]
          exact fnQ_effn trivial r1 r2 ⟨hh', .inl ⟨by rw [hlX]; exact hn, rfl⟩⟩ (VLe.refl _)
        · obtain ⟨r1, r2⟩ := (hE _ _ hs').ret (L := L) st hts
          rw [show hh' ++ AObj.lp st ts L :: [O] = (hh' ++ [AObj.lp st ts L]) ++ [O] by simp]
          exact fnQ_effn trivial r1 r2 ⟨_, .inr ⟨st, hs', rfl⟩⟩ (VLe.refl _)
    · have q1 : (0 ≤ f) = False := eq_false hf
      simp (disch := omega) only [spar, items, itemC, List.foldl, List.replicate, q1, hW, go_sem, wrap64_id, Int.tdiv_eq_ediv_of_nonneg, Int.tmod_eq_emod_of_nonneg]
      repeat' first
        | ((first | refine fnQ_pure1 ?_ ?_ | refine fnQ_pure0 ?_ ?_); (next => repeat' first | exact rvs_n | refine rvs_t ?_ | (simp [go_sem]; done)); simp only [go_sem]; (first | exact VLe.refl _ | refine VLe_int ?_ | refine VLe_bool ?_ | refine VLe_str ?_ | skip))
        | (with_reducible refine And.intro ?_ ?_)
        | with_reducible intro _
      all_goals first
        | omega
        | (rename_i hx; revert hx; simp; done)
        | (simp; done)
        | skip
      have hF : wordsF l = d := by unfold wordsF; rw [hW]; simp only; rw [if_neg hf]
      have hlX : (wordsX l).length = d.length := by unfold wordsX; rw [hF]; simp
      obtain ⟨r1, r2⟩ := (hS _ _ i2).ret (L := L) .ready hts
      exact fnQ_effn trivial r1 r2 ⟨hh, .inl ⟨by rw [hlX]; exact i2, rfl⟩⟩ (VLe.refl _)
end LN
end

section
open Go Go.Proofs AF HY P48
namespace LN
set_option maxRecDepth 100000
theorem words_in (l : List It) : ∀ i : Nat, (∀ p ∈ (wordsD l i).1, 0 ≤ p.1 ∧ p.1 < i ∧ 0 ≤ p.2 ∧ p.2 < i) ∧ (0 ≤ (wordsD l i).2.1 → (wordsD l i).2.1 < i ∧ 0 ≤ (wordsD l i).2.2 ∧ (wordsD l i).2.2 < i) := by
  intro i
  induction i with
  | zero => exact ⟨by simp [wordsD], by simp [wordsD]⟩
  | succ i ih =>
    obtain ⟨h1, h2⟩ := ih
    rw [wordsD]
    split
    · exact ⟨fun p hp => by have := h1 p hp; omega, fun h => by have := h2 h; omega⟩
    · split
      · exact ⟨fun p hp => by have := h1 p hp; omega, fun h => by have := h2 h; simp only; omega⟩
      · refine ⟨fun p hp => ?_, fun _ => by simp only; omega⟩
        simp only at hp
        split at hp
        · rename_i hf
          rcases List.mem_append.1 hp with hp | hp
          · have := h1 p hp; omega
          · rw [List.mem_singleton] at hp
            subst hp
            have := h2 hf
            omega
        · have := h1 p hp; omega
theorem words_ok {l : List It} : ∀ p ∈ wordsF l, 0 ≤ p.1 ∧ p.1 < l.length ∧ 0 ≤ p.2 ∧ p.2 < l.length := by
  intro p hp
  obtain ⟨h1, h2⟩ := words_in l l.length
  unfold wordsF at hp
  split at hp
  · rename_i hf
    rcases List.mem_append.1 hp with hp | hp
    · exact h1 p hp
    · rw [List.mem_singleton] at hp
      subst hp
      have := h2 hf
      omega
  · exact h1 p hp
theorem words_cnt (l : List It) : ∀ i : Nat, (wordsD l i).1.length ≤ i := by
  intro i
  induction i with
  | zero => simp [wordsD]
  | succ i ih =>
    rw [wordsD]
    split
    · omega
    · split
      · simp only; omega
      · simp only
        split
        · rw [List.length_append, List.length_singleton]; omega
        · omega
theorem wordsF_len (l : List It) : (wordsF l).length ≤ l.length + 1 := by
  have := words_cnt l l.length
  unfold wordsF
  split
  · rw [List.length_append, List.length_singleton]; omega
  · omega
def valsO (pk : Int → Int → Int) (l : List It) (out : List Int) : List Int := (wordsF l).map fun p => pk (out.getD p.1.toNat 0) (out.getD p.2.toNat 0)
def numsO (pk : Int → Int → Int) (l : List It) (ls : List Ln) : Int × List Int :=
  if check l ≠ 0 then (1, []) else if 4096 < ls.length then (4, []) else match placesO l ls with
    | none => (9, [])
    | some out => (0, valsO pk l out)
theorem low_intsC {L : List Int} {n : Nat} {c : AV} (h : c ∈ intsC L) : lowV n c = true := by
  unfold intsC at h
  obtain ⟨x, _, rfl⟩ := List.mem_map.1 h
  rfl
theorem take_getI (L : List Int) {i : Nat} (h : i < L.length) : L.take (i + 1) = L.take i ++ [L.getD i 0] := by
  rw [List.take_add_one, List.getElem?_eq_getElem h]
  simp [List.getD_eq_getElem?_getD, h]
theorem places_len {ls : List Ln} : ∀ {l : List It} {i : Nat} {last : Int} {out R : List Int}, placesGo ls l i last out = some R → R.length = out.length := by
  intro l
  induction l with
  | nil => intro i last out R h; cases h; rfl
  | cons x l ih =>
    intro i last out R h
    unfold placesGo at h
    split at h
    · exact ih h
    · split at h
      · cases h
      · split at h
        · cases h
        · rw [ih h]; simp
set_option maxHeartbeats 8000000 in
theorem t38 (pk : Int → Int → Int) (F : Nat) (l : List It) (ls : List Ln) (h : List AObj) (hl : l.length ≤ 100000) (hls : ls.length ≤ 100000)
    (hp : ∀ (a b : Int) (h : List AObj), ACalls Tryd.prog F [.int .i64 a, .int .i64 b] h (.int .i64 (pk a b)) h) :
    ACalls Tryd.prog 38 [items l, linesV ls, .fn (.func F) [] []] h (.tup [intsN (numsO pk l ls).2, .int .i64 (numsO pk l ls).1]) h := by
  have c61 := fun h => p61 l h (by omega)
  obtain ⟨R, hR⟩ : ∃ R, R = numsO pk l ls := ⟨_, rfl⟩
  rw [← hR]
  obtain ⟨e, he⟩ : ∃ e, e = check l := ⟨_, rfl⟩
  rw [← he] at c61
  by_cases g1 : e = 0
  · have k1 : (e = 0) = True := eq_true g1
    by_cases g2 : 4096 < ls.length
    · have k2 : (4096 < (ls.length : Int)) = True := eq_true (by omega)
      have hV : R = (4, []) := by rw [hR]; unfold numsO; rw [if_neg (by rw [← he]; exact fun hc => hc g1), if_pos g2]
      rw [hV]
      refine acalls_of fn38l (by simp) ?_
      simp only [List.length_cons, List.length_nil, Nat.reduceAdd, Nat.reduceSub, List.replicate, List.cons_append, List.nil_append, List.append_nil]
      simp (disch := omega) only [c38l, k1, k2, linesV, go_sem, wrap64_id, Int.tdiv_eq_ediv_of_nonneg, Int.tmod_eq_emod_of_nonneg]
      repeat' first
        | ((first | refine callA_pure (c61 _) ?_ ?_); (next => repeat' first | exact flags_n | refine flags_c (by first | rfl | assumption) ?_); simp (disch := omega) only [k1, k2, linesV, go_sem, wrap64_id, Int.tdiv_eq_ediv_of_nonneg, Int.tmod_eq_emod_of_nonneg])
        | ((first | refine callU_of (fun _ => c61 _) ?_ ?_); (next => repeat' first | exact flags_n | refine flags_c (by first | rfl | assumption) ?_); simp (disch := omega) only [k1, k2, linesV, go_sem, wrap64_id, Int.tdiv_eq_ediv_of_nonneg, Int.tmod_eq_emod_of_nonneg])
        | ((first | refine callG_pure (fun e => ⟨?_, c61 _⟩) ?_); (next => repeat' first | exact flags_n | refine flags_c (by first | rfl | assumption) ?_); simp (disch := omega) only [k1, k2, linesV, go_sem, wrap64_id, Int.tdiv_eq_ediv_of_nonneg, Int.tmod_eq_emod_of_nonneg])
        | ((first | refine fnQ_pure1 ?_ ?_ | refine fnQ_pure0 ?_ ?_); (next => repeat' first | exact rvs_n | refine rvs_t ?_ | (simp [go_sem]; done)); simp only [go_sem]; (first | exact VLe.refl _ | refine VLe_int ?_ | refine VLe_bool ?_ | refine VLe_str ?_ | skip))
        | (with_reducible refine And.intro ?_ ?_)
        | with_reducible intro _
      all_goals first
        | omega
        | (rename_i hx; revert hx; simp; done)
        | (simp; done)
        | skip
    have k2 : (4096 < (ls.length : Int)) = False := eq_false (by omega)
    have c62 := fun h => t62 l ls h hl hls
    have c63 := fun h => t63 l h
    have hV : R = match placesO l ls with
      | none => (9, [])
      | some out => (0, valsO pk l out) := by rw [hR]; unfold numsO; rw [if_neg (by rw [← he]; exact fun hc => hc g1), if_neg g2]
    cases ho : placesO l ls with
    | none =>
      rw [ho] at c62 hV
      rw [hV]
      have e0 : placesT none = .tup [.nl, .bool false] := rfl
      rw [e0] at c62
      refine acalls_of fn38l (by simp) ?_
      simp only [List.length_cons, List.length_nil, Nat.reduceAdd, Nat.reduceSub, List.replicate, List.cons_append, List.nil_append, List.append_nil]
      simp (disch := omega) only [c38l, k1, k2, linesV, go_sem, wrap64_id, Int.tdiv_eq_ediv_of_nonneg, Int.tmod_eq_emod_of_nonneg]
      repeat' first
        | ((first | refine callA_pure (c61 _) ?_ ?_ | refine callA_pure (c62 _) ?_ ?_); (next => repeat' first | exact flags_n | refine flags_c (by first | rfl | assumption) ?_); simp (disch := omega) only [k1, k2, linesV, go_sem, wrap64_id, Int.tdiv_eq_ediv_of_nonneg, Int.tmod_eq_emod_of_nonneg])
        | ((first | refine callU_of (fun _ => c61 _) ?_ ?_ | refine callU_of (fun _ => c62 _) ?_ ?_); (next => repeat' first | exact flags_n | refine flags_c (by first | rfl | assumption) ?_); simp (disch := omega) only [k1, k2, linesV, go_sem, wrap64_id, Int.tdiv_eq_ediv_of_nonneg, Int.tmod_eq_emod_of_nonneg])
        | ((first | refine callG_pure (fun e => ⟨?_, c61 _⟩) ?_ | refine callG_pure (fun e => ⟨?_, c62 _⟩) ?_); (next => repeat' first | exact flags_n | refine flags_c (by first | rfl | assumption) ?_); simp (disch := omega) only [k1, k2, linesV, go_sem, wrap64_id, Int.tdiv_eq_ediv_of_nonneg, Int.tmod_eq_emod_of_nonneg])
        | ((first | refine fnQ_pure1 ?_ ?_ | refine fnQ_pure0 ?_ ?_); (next => repeat' first | exact rvs_n | refine rvs_t ?_ | (simp [go_sem]; done)); simp only [go_sem]; (first | exact VLe.refl _ | refine VLe_int ?_ | refine VLe_bool ?_ | refine VLe_str ?_ | skip))
        | (with_reducible refine And.intro ?_ ?_)
        | with_reducible intro _
      all_goals first
        | omega
        | (rename_i hx; revert hx; simp; done)
        | (simp; done)
        | skip
    | some out =>
      rw [ho] at c62 hV
      rw [hV]
      have e0 : placesT (some out) = .tup [intsV out, .bool true] := rfl
      rw [e0] at c62
      have hol : out.length = l.length := by have := places_len ho; rw [this]; simp
      refine acalls_of fn38l (by simp) ?_
      simp only [List.length_cons, List.length_nil, Nat.reduceAdd, Nat.reduceSub, List.replicate, List.cons_append, List.nil_append, List.append_nil]
      simp (disch := omega) only [c38l, k1, k2, linesV, cells_intsV, solid_intsV, go_sem, wrap64_id, Int.tdiv_eq_ediv_of_nonneg, Int.tmod_eq_emod_of_nonneg]
      repeat' first
        | ((first | refine callA_pure (c61 _) ?_ ?_ | refine callA_pure (c62 _) ?_ ?_ | refine callA_pure (c63 _) ?_ ?_); (next => repeat' first | exact flags_n | refine flags_c (by first | rfl | assumption) ?_); simp (disch := omega) only [k1, k2, linesV, wordsFn, cells_intsV, solid_intsV, go_sem, wrap64_id, Int.tdiv_eq_ediv_of_nonneg, Int.tmod_eq_emod_of_nonneg])
        | ((first | refine callU_of (fun _ => c61 _) ?_ ?_ | refine callU_of (fun _ => c62 _) ?_ ?_ | refine callU_of (fun _ => c63 _) ?_ ?_); (next => repeat' first | exact flags_n | refine flags_c (by first | rfl | assumption) ?_); simp (disch := omega) only [k1, k2, linesV, wordsFn, cells_intsV, solid_intsV, go_sem, wrap64_id, Int.tdiv_eq_ediv_of_nonneg, Int.tmod_eq_emod_of_nonneg])
        | ((first | refine callG_pure (fun e => ⟨?_, c61 _⟩) ?_ | refine callG_pure (fun e => ⟨?_, c62 _⟩) ?_ | refine callG_pure (fun e => ⟨?_, c63 _⟩) ?_); (next => repeat' first | exact flags_n | refine flags_c (by first | rfl | assumption) ?_); simp (disch := omega) only [k1, k2, linesV, wordsFn, cells_intsV, solid_intsV, go_sem, wrap64_id, Int.tdiv_eq_ediv_of_nonneg, Int.tmod_eq_emod_of_nonneg])
        | ((first | refine fnQ_pure1 ?_ ?_ | refine fnQ_pure0 ?_ ?_); (next => repeat' first | exact rvs_n | refine rvs_t ?_ | (simp [go_sem]; done)); simp only [go_sem]; (first | exact VLe.refl _ | refine VLe_int ?_ | refine VLe_bool ?_ | refine VLe_str ?_ | skip))
        | (with_reducible refine And.intro ?_ ?_)
        | with_reducible intro _
      all_goals first
        | omega
        | (rename_i hx; revert hx; simp; done)
        | (simp; done)
        | skip
      obtain ⟨V, hVl⟩ : ∃ V, V = valsO pk l out := ⟨_, rfl⟩
      have hlX : (wordsX l).length = V.length := by rw [hVl]; simp [wordsX, valsO]
      have hVn : V.length ≤ 100001 := by rw [hVl, valsO, List.length_map]; have := wordsF_len l; omega
      have hVi : ∀ i (hi : i < (wordsX l).length), ∃ a b : Nat, (wordsX l)[i] = [.int .i64 (a : Int), .int .i64 (b : Int)] ∧ a < out.length ∧ b < out.length ∧ V.getD i 0 = pk (out.getD a 0) (out.getD b 0) := by
        intro i hi
        have hi' : i < (wordsF l).length := by simpa [wordsX] using hi
        have hw := words_ok ((wordsF l)[i]) (List.getElem_mem hi')
        refine ⟨((wordsF l)[i]).1.toNat, ((wordsF l)[i]).2.toNat, ?_, by omega, by omega, ?_⟩
        · have e1 : (wordsX l)[i] = [.int .i64 ((wordsF l)[i]).1, .int .i64 ((wordsF l)[i]).2] := List.getElem_map _
          rw [e1]
          rw [show ((((wordsF l)[i]).1.toNat : Nat) : Int) = ((wordsF l)[i]).1 by omega, show ((((wordsF l)[i]).2.toNat : Nat) : Int) = ((wordsF l)[i]).2 by omega]
        · rw [hVl, valsO, List.getD_eq_getElem?_getD, List.getElem?_map, List.getElem?_eq_getElem hi']
          rfl
      refine range_iter (xs := wordsX l) (it90 l hl) (by intro a ha; simp [wordsX] at ha; obtain ⟨_, _, _, rfl⟩ := ha; rfl)
        (S := fun i hh => (i = 0 ∧ hh = h ++ [.mem 1 62 [.fn (.func F) [] []], .emp 1, .mem 1 23 [intsV out], .mem 1 23 [.nl], .emp 0, .emp 0]) ∨ (0 < i ∧ ∃ (v w : Nat) (x : Int), hh = h ++ [.mem 1 62 [.fn (.func F) [] []], .emp 1, .mem 1 23 [intsV out], .mem 1 23 [.osl (h.length + 5) v 1 0 i], .mem w 3 [.int .i64 x], .mem v 3 (intsC (V.take i))]))
        (E := fun _ _ => False) ?_ (fun _ _ h => h.elim) ?_ ?_ ?_ ?_ (fun _ _ h => h.elim)
      · rintro i hh (⟨rfl, rfl⟩ | ⟨_, v, w, x, rfl⟩)
        · exact LowI.refl _
        · refine LowI.app rfl (fun o ho => ?_)
          simp only [List.mem_cons, List.not_mem_nil, or_false] at ho
          rcases ho with rfl | rfl | rfl | rfl | rfl | rfl
          · left; simp
          · left; simp
          · left; simp
          · right; constructor <;> (intro c hc; simp at hc; subst hc; simp [lowV] <;> omega)
          · right; constructor <;> (intro c hc; simp at hc; subst hc; rfl)
          · right; constructor <;> exact fun c hc => low_intsC hc
      · exact .inl ⟨rfl, rfl⟩
      · simp [lowV, lowV.lowVs, items, intsV]
        try omega
      · rintro i hh tl L hi hS hlen
        obtain ⟨a, b, hx, ha, hb, hv⟩ := hVi i hi
        rw [hlX] at hi
        rw [hx]
        have hts := take_getI V hi
        have qa : ((a : Int) < out.length) = True := eq_true (by omega)
        have qb : ((b : Int) < out.length) = True := eq_true (by omega)
        simp only [setsA]
        rcases hS with ⟨rfl, rfl⟩ | ⟨hpos, v, w, x, rfl⟩
        · simp (disch := omega) only [List.append_assoc, eq_self, madeA, intsV, go_sem, wrap64_id, Int.tdiv_eq_ediv_of_nonneg, Int.tmod_eq_emod_of_nonneg]
          repeat' first
            | ((first | refine fnQ_pure1 ?_ ?_ | refine fnQ_pure0 ?_ ?_); (next => repeat' first | exact rvs_n | refine rvs_t ?_ | (simp [go_sem]; done)); simp only [go_sem]; (first | exact VLe.refl _ | refine VLe_int ?_ | refine VLe_bool ?_ | refine VLe_str ?_ | skip))
            | (with_reducible refine And.intro ?_ ?_)
            | with_reducible intro _
          all_goals first
            | omega
            | (rename_i hx; revert hx; simp; done)
            | (simp; done)
            | skip
          refine draw_of ?T ?H ?h1 ?h2
          case h1 =>
            simp (disch := omega) only [qa, qb, go_sem, wrap64_id, Int.tdiv_eq_ediv_of_nonneg, Int.tmod_eq_emod_of_nonneg]
            repeat' first
              | (refine callVU_of (fun _ => hp _ _ _) ⟨rfl, rfl, rfl, trivial⟩ ?_; simp (disch := omega) only [qa, qb, madeA, go_sem, wrap64_id])
              | (with_reducible refine And.intro ?_ ?_)
              | with_reducible intro _
            all_goals first
              | omega
              | rfl
              | (simp; done)
              | skip
          case h2 =>
            simp (disch := omega) only [go_sem, wrap64_id, Int.tdiv_eq_ediv_of_nonneg, Int.tmod_eq_emod_of_nonneg]
            repeat' first
              | ((first | refine fnQ_pure1 ?_ ?_ | refine fnQ_pure0 ?_ ?_); (next => repeat' first | exact rvs_n | refine rvs_t ?_ | (simp [go_sem]; done)); simp only [go_sem]; (first | exact VLe.refl _ | refine VLe_int ?_ | refine VLe_bool ?_ | refine VLe_str ?_ | skip))
              | (with_reducible refine And.intro ?_ ?_)
              | with_reducible intro _
            all_goals first
              | omega
              | (rename_i hx; revert hx; simp; done)
              | (simp; done)
              | skip
            refine ⟨h ++ [.mem 1 62 [.fn (.func F) [] []], .emp 1, .mem 1 23 [intsV out], .mem 1 23 [.osl (h.length + 5) 1 1 0 1], .mem 1 3 [.int .i64 (pk (out.getD a 0) (out.getD b 0))], .mem 1 3 [.int .i64 (pk (out.getD a 0) (out.getD b 0))]], by simp [intsV], by simp, .inr ⟨by omega, 1, 1, pk (out.getD a 0) (out.getD b 0), ?_⟩⟩
            rw [hts, hv]
            rfl
        · have eL : (intsC (V.take i)).length = i := by rw [intsC_len, List.length_take]; omega
          have eT : List.take i (intsC (V.take i)) = intsC (V.take i) := List.take_of_length_le (by omega)
          simp (disch := omega) only [List.append_assoc, eq_self, madeA, intsV, go_sem, wrap64_id, Int.tdiv_eq_ediv_of_nonneg, Int.tmod_eq_emod_of_nonneg]
          repeat' first
            | ((first | refine fnQ_pure1 ?_ ?_ | refine fnQ_pure0 ?_ ?_); (next => repeat' first | exact rvs_n | refine rvs_t ?_ | (simp [go_sem]; done)); simp only [go_sem]; (first | exact VLe.refl _ | refine VLe_int ?_ | refine VLe_bool ?_ | refine VLe_str ?_ | skip))
            | (with_reducible refine And.intro ?_ ?_)
            | with_reducible intro _
          all_goals first
            | omega
            | (rename_i hx; revert hx; simp; done)
            | (simp; done)
            | skip
          refine draw_of ?T2 ?H2 ?h3 ?h4
          case h3 =>
            simp (disch := omega) only [qa, qb, eL, eT, go_sem, wrap64_id, Int.tdiv_eq_ediv_of_nonneg, Int.tmod_eq_emod_of_nonneg]
            repeat' first
              | (refine callVU_of (fun _ => hp _ _ _) ⟨rfl, rfl, rfl, trivial⟩ ?_; simp (disch := omega) only [qa, qb, eL, eT, madeA, go_sem, wrap64_id])
              | (with_reducible refine And.intro ?_ ?_)
              | with_reducible intro _
            all_goals first
              | omega
              | rfl
              | (simp; done)
              | skip
          case h4 =>
            simp (disch := omega) only [go_sem, wrap64_id, Int.tdiv_eq_ediv_of_nonneg, Int.tmod_eq_emod_of_nonneg]
            repeat' first
              | ((first | refine fnQ_pure1 ?_ ?_ | refine fnQ_pure0 ?_ ?_); (next => repeat' first | exact rvs_n | refine rvs_t ?_ | (simp [go_sem]; done)); simp only [go_sem]; (first | exact VLe.refl _ | refine VLe_int ?_ | refine VLe_bool ?_ | refine VLe_str ?_ | skip))
              | (with_reducible refine And.intro ?_ ?_)
              | with_reducible intro _
            all_goals first
              | omega
              | (rename_i hx; revert hx; simp; done)
              | (simp; done)
              | skip
            refine ⟨h ++ [.mem 1 62 [.fn (.func F) [] []], .emp 1, .mem 1 23 [intsV out], .mem 1 23 [.osl (h.length + 5) (v + 1) 1 0 (i + 1)], .mem (w + 1) 3 [.int .i64 (pk (out.getD a 0) (out.getD b 0))], .mem (v + 1) 3 (intsC (V.take i) ++ [.int .i64 (pk (out.getD a 0) (out.getD b 0))])], by simp [intsV], by simp, ?_⟩
            have hfin : ∃ (v' w' : Nat) (x' : Int), h ++ [AObj.mem 1 62 [.fn (.func F) [] []], .emp 1, .mem 1 23 [intsV out], .mem 1 23 [.osl (h.length + 5) (v + 1) 1 0 (i + 1)], .mem (w + 1) 3 [.int .i64 (pk (out.getD a 0) (out.getD b 0))], .mem (v + 1) 3 (intsC (V.take i) ++ [.int .i64 (pk (out.getD a 0) (out.getD b 0))])] = h ++ [.mem 1 62 [.fn (.func F) [] []], .emp 1, .mem 1 23 [intsV out], .mem 1 23 [.osl (h.length + 5) v' 1 0 (i + 1)], .mem w' 3 [.int .i64 x'], .mem v' 3 (intsC (V.take (i + 1)))] := ⟨v + 1, w + 1, pk (out.getD a 0) (out.getD b 0), by rw [hts, hv, intsC_snoc]⟩
            first
              | exact .inr ⟨by omega, hfin⟩
              | exact .inr hfin
              | exact hfin
      · rintro hh hS
        rw [hlX] at hS
        rw [← hVl]
        rcases hS with ⟨h0, rfl⟩ | ⟨hpos, v, w, x, rfl⟩
        · have e0 : V = [] := List.eq_nil_of_length_eq_zero h0
          rw [e0]
          simp (disch := omega) only [go_sem, wrap64_id, Int.tdiv_eq_ediv_of_nonneg, Int.tmod_eq_emod_of_nonneg]
          repeat' first
            | ((first | refine fnQ_pure1 ?_ ?_ | refine fnQ_pure0 ?_ ?_); (next => repeat' first | exact rvs_n | refine rvs_t ?_ | (simp [go_sem]; done)); simp only [go_sem]; (first | exact VLe.refl _ | refine VLe_int ?_ | refine VLe_bool ?_ | refine VLe_str ?_ | skip))
            | (with_reducible refine And.intro ?_ ?_)
            | with_reducible intro _
          all_goals first
            | omega
            | (rename_i hx; revert hx; simp; done)
            | (simp; done)
            | skip
        · rw [List.take_length]
          have eL := intsC_len V
          simp (disch := omega) only [eL, go_sem, wrap64_id, Int.tdiv_eq_ediv_of_nonneg, Int.tmod_eq_emod_of_nonneg]
          repeat' first
            | ((first | refine fnQ_pure1 ?_ ?_ | refine fnQ_pure0 ?_ ?_); (next => repeat' first | exact rvs_n | refine rvs_t ?_ | (simp [go_sem]; done)); simp only [go_sem]; (first | exact VLe.refl _ | refine VLe_int ?_ | refine VLe_bool ?_ | refine VLe_str ?_ | skip))
            | (with_reducible refine And.intro ?_ ?_)
            | with_reducible intro _
          all_goals first
            | omega
            | (rename_i hx; revert hx; simp; done)
            | (simp; done)
            | skip
          rw [if_pos (by omega)]
          have en : intsN V = intsV V := by
            unfold intsN
            rw [if_neg (by intro hc; rw [hc] at hpos; simp at hpos)]
          rw [en]
          exact VLe_tup ⟨intsV_of rfl, VLe.refl _, trivial⟩
  · have k1 : (e = 0) = False := eq_false g1
    have hV : R = (1, []) := by rw [hR]; unfold numsO; rw [if_pos (by rw [← he]; exact g1)]
    rw [hV]
    refine acalls_of fn38l (by simp) ?_
    simp only [List.length_cons, List.length_nil, Nat.reduceAdd, Nat.reduceSub, List.replicate, List.cons_append, List.nil_append, List.append_nil]
    simp (disch := omega) only [c38l, k1, go_sem, wrap64_id, Int.tdiv_eq_ediv_of_nonneg, Int.tmod_eq_emod_of_nonneg]
    repeat' first
      | ((first | refine callA_pure (c61 _) ?_ ?_); (next => repeat' first | exact flags_n | refine flags_c (by first | rfl | assumption) ?_); simp (disch := omega) only [k1, go_sem, wrap64_id, Int.tdiv_eq_ediv_of_nonneg, Int.tmod_eq_emod_of_nonneg])
      | ((first | refine callU_of (fun _ => c61 _) ?_ ?_); (next => repeat' first | exact flags_n | refine flags_c (by first | rfl | assumption) ?_); simp (disch := omega) only [k1, go_sem, wrap64_id, Int.tdiv_eq_ediv_of_nonneg, Int.tmod_eq_emod_of_nonneg])
      | ((first | refine callG_pure (fun e => ⟨?_, c61 _⟩) ?_); (next => repeat' first | exact flags_n | refine flags_c (by first | rfl | assumption) ?_); simp (disch := omega) only [k1, go_sem, wrap64_id, Int.tdiv_eq_ediv_of_nonneg, Int.tmod_eq_emod_of_nonneg])
      | ((first | refine fnQ_pure1 ?_ ?_ | refine fnQ_pure0 ?_ ?_); (next => repeat' first | exact rvs_n | refine rvs_t ?_ | (simp [go_sem]; done)); simp only [go_sem]; (first | exact VLe.refl _ | refine VLe_int ?_ | refine VLe_bool ?_ | refine VLe_str ?_ | skip))
      | (with_reducible refine And.intro ?_ ?_)
      | with_reducible intro _
    all_goals first
      | omega
      | (rename_i hx; revert hx; simp; done)
      | (simp; done)
      | skip
end LN
end

section
open Go Go.Proofs AF HY P48
namespace LN
set_option maxRecDepth 100000
theorem t39 (a b : Int) (h : List AObj) : ACalls Tryd.prog 39 [.int .i64 a, .int .i64 b] h (.int .i64 a) h := by
  refine acalls_of fn39l (by simp) ?_
  simp only [List.length_cons, List.length_nil, Nat.reduceAdd, Nat.reduceSub, List.replicate, List.cons_append, List.nil_append, List.append_nil]
  simp (disch := omega) only [c39l, go_sem, wrap64_id, Int.tdiv_eq_ediv_of_nonneg, Int.tmod_eq_emod_of_nonneg]
  repeat' first
    | ((first | refine fnQ_pure1 ?_ ?_ | refine fnQ_pure0 ?_ ?_); (next => repeat' first | exact rvs_n | refine rvs_t ?_ | (simp [go_sem]; done)); simp only [go_sem]; (first | exact VLe.refl _ | refine VLe_int ?_ | refine VLe_bool ?_ | refine VLe_str ?_ | skip))
    | (with_reducible refine And.intro ?_ ?_)
    | with_reducible intro _
  all_goals first
    | omega
    | (rename_i hx; revert hx; simp; done)
    | (simp; done)
    | skip
theorem t41 (a b : Int) (h : List AObj) : ACalls Tryd.prog 41 [.int .i64 a, .int .i64 b] h (.int .i64 b) h := by
  refine acalls_of fn41l (by simp) ?_
  simp only [List.length_cons, List.length_nil, Nat.reduceAdd, Nat.reduceSub, List.replicate, List.cons_append, List.nil_append, List.append_nil]
  simp (disch := omega) only [c41l, go_sem, wrap64_id, Int.tdiv_eq_ediv_of_nonneg, Int.tmod_eq_emod_of_nonneg]
  repeat' first
    | ((first | refine fnQ_pure1 ?_ ?_ | refine fnQ_pure0 ?_ ?_); (next => repeat' first | exact rvs_n | refine rvs_t ?_ | (simp [go_sem]; done)); simp only [go_sem]; (first | exact VLe.refl _ | refine VLe_int ?_ | refine VLe_bool ?_ | refine VLe_str ?_ | skip))
    | (with_reducible refine And.intro ?_ ?_)
    | with_reducible intro _
  all_goals first
    | omega
    | (rename_i hx; revert hx; simp; done)
    | (simp; done)
    | skip
theorem t12 (l : List It) (ls : List Ln) (h : List AObj) (hl : l.length ≤ 100000) (hls : ls.length ≤ 100000) : ACalls Tryd.prog 12 [items l, linesV ls] h (.tup [intsN (numsO (fun a _ => a) l ls).2, .int .i64 (numsO (fun a _ => a) l ls).1]) h := by
  have c38 := fun h => t38 (fun a _ => a) 39 l ls h hl hls t39
  obtain ⟨A, hA⟩ : ∃ A, A = (numsO (fun a _ => a) l ls).2 := ⟨_, rfl⟩
  obtain ⟨e, he⟩ : ∃ e, e = (numsO (fun a _ => a) l ls).1 := ⟨_, rfl⟩
  rw [← hA, ← he] at c38 ⊢
  refine acalls_of fn12l (by simp) ?_
  simp only [List.length_cons, List.length_nil, Nat.reduceAdd, Nat.reduceSub, List.replicate, List.cons_append, List.nil_append, List.append_nil]
  simp (disch := omega) only [c12l, linesV, go_sem, wrap64_id, Int.tdiv_eq_ediv_of_nonneg, Int.tmod_eq_emod_of_nonneg]
  repeat' first
    | ((first | refine callA_pure (c38 _) ?_ ?_); (next => repeat' first | exact flags_n | refine flags_c (by first | rfl | assumption) ?_); simp (disch := omega) only [linesV, go_sem, wrap64_id, Int.tdiv_eq_ediv_of_nonneg, Int.tmod_eq_emod_of_nonneg])
    | ((first | refine callU_of (fun _ => c38 _) ?_ ?_); (next => repeat' first | exact flags_n | refine flags_c (by first | rfl | assumption) ?_); simp (disch := omega) only [linesV, go_sem, wrap64_id, Int.tdiv_eq_ediv_of_nonneg, Int.tmod_eq_emod_of_nonneg])
    | ((first | refine callG_pure (fun e => ⟨?_, c38 _⟩) ?_); (next => repeat' first | exact flags_n | refine flags_c (by first | rfl | assumption) ?_); simp (disch := omega) only [linesV, go_sem, wrap64_id, Int.tdiv_eq_ediv_of_nonneg, Int.tmod_eq_emod_of_nonneg])
    | ((first | refine fnQ_pure1 ?_ ?_ | refine fnQ_pure0 ?_ ?_); (next => repeat' first | exact rvs_n | refine rvs_t ?_ | (simp [go_sem]; done)); simp only [go_sem]; (first | exact VLe.refl _ | refine VLe_int ?_ | refine VLe_bool ?_ | refine VLe_str ?_ | skip))
    | (with_reducible refine And.intro ?_ ?_)
    | with_reducible intro _
  all_goals first
    | omega
    | (rename_i hx; revert hx; simp; done)
    | (simp; done)
    | skip
theorem t14 (l : List It) (ls : List Ln) (h : List AObj) (hl : l.length ≤ 100000) (hls : ls.length ≤ 100000) : ACalls Tryd.prog 14 [items l, linesV ls] h (.tup [intsN (numsO (fun _ b => b) l ls).2, .int .i64 (numsO (fun _ b => b) l ls).1]) h := by
  have c38 := fun h => t38 (fun _ b => b) 41 l ls h hl hls t41
  obtain ⟨A, hA⟩ : ∃ A, A = (numsO (fun _ b => b) l ls).2 := ⟨_, rfl⟩
  obtain ⟨e, he⟩ : ∃ e, e = (numsO (fun _ b => b) l ls).1 := ⟨_, rfl⟩
  rw [← hA, ← he] at c38 ⊢
  refine acalls_of fn14l (by simp) ?_
  simp only [List.length_cons, List.length_nil, Nat.reduceAdd, Nat.reduceSub, List.replicate, List.cons_append, List.nil_append, List.append_nil]
  simp (disch := omega) only [c14l, linesV, go_sem, wrap64_id, Int.tdiv_eq_ediv_of_nonneg, Int.tmod_eq_emod_of_nonneg]
  repeat' first
    | ((first | refine callA_pure (c38 _) ?_ ?_); (next => repeat' first | exact flags_n | refine flags_c (by first | rfl | assumption) ?_); simp (disch := omega) only [linesV, go_sem, wrap64_id, Int.tdiv_eq_ediv_of_nonneg, Int.tmod_eq_emod_of_nonneg])
    | ((first | refine callU_of (fun _ => c38 _) ?_ ?_); (next => repeat' first | exact flags_n | refine flags_c (by first | rfl | assumption) ?_); simp (disch := omega) only [linesV, go_sem, wrap64_id, Int.tdiv_eq_ediv_of_nonneg, Int.tmod_eq_emod_of_nonneg])
    | ((first | refine callG_pure (fun e => ⟨?_, c38 _⟩) ?_); (next => repeat' first | exact flags_n | refine flags_c (by first | rfl | assumption) ?_); simp (disch := omega) only [linesV, go_sem, wrap64_id, Int.tdiv_eq_ediv_of_nonneg, Int.tmod_eq_emod_of_nonneg])
    | ((first | refine fnQ_pure1 ?_ ?_ | refine fnQ_pure0 ?_ ?_); (next => repeat' first | exact rvs_n | refine rvs_t ?_ | (simp [go_sem]; done)); simp only [go_sem]; (first | exact VLe.refl _ | refine VLe_int ?_ | refine VLe_bool ?_ | refine VLe_str ?_ | skip))
    | (with_reducible refine And.intro ?_ ?_)
    | with_reducible intro _
  all_goals first
    | omega
    | (rename_i hx; revert hx; simp; done)
    | (simp; done)
    | skip
end LN
end

section
open Go Go.Proofs AF
set_option maxRecDepth 100000
namespace HY
def c10m : C :=
  ((C.ops [⟨some 0, none, .mv, [.c (.bool false)]⟩]).seq ((C.ops [⟨some 1, none, .mv, [.c (.fn (Fn.func 37) [] [])]⟩]).seq ((C.ops [⟨some 12, none, .build [.int .i64 0, .int .i64 0,
  .int .i64 0, .int .i64 0, .int .i64 0, .str []] [(0, 1), (1, 1)], [.c (.int .i64 2), .c (.int .i64 5)]⟩, ⟨some 13, none, .build [.int .i64 0, .int .i64 0, .int .i64 0, .int .i64 0,
  .int .i64 0, .str []] [(0, 1), (1, 1), (4, 1), (5, 1)], [.c (.int .i64 3), .c (.int .i64 5), .c (.int .i64 50), .c (.str [61])]⟩, ⟨some 2, none, .alloc 0 57 [.int .i64 0, .int .i64
  0, .int .i64 0, .int .i64 0, .int .i64 0, .str []], []⟩, ⟨some 3, none, .alloc 1 57 [.int .i64 0, .int .i64 0, .int .i64 0, .int .i64 0, .int .i64 0, .str []], []⟩, ⟨none, none,
  .store 6, [.t 2, .t 12]⟩, ⟨none, none, .store 6, [.t 3, .t 13]⟩]).seq ((C.draw (DT.one ⟨some 14, none, .mv, [.t 1]⟩ (DT.uni ⟨some 15, none, .callv, [.t 14, .c (.str [100, 101, 117,
  115])]⟩ (DT.one ⟨some 16, none, .load (some 6), [.t 2]⟩ (DT.one ⟨some 17, none, .mv, [.t 1]⟩ (DT.uni ⟨some 18, none, .callv, [.t 17, .c (.str [101])]⟩ (DT.one ⟨some 19, none, .load
  (some 6), [.t 3]⟩ (DT.one ⟨some 20, none, .mv, [.t 1]⟩ (DT.uni ⟨some 21, none, .callv, [.t 20, .c (.str [115, 116])]⟩ (DT.one ⟨some 22, none, .load (some 6), [.t 2]⟩ (DT.one ⟨some
  23, none, .mv, [.t 1]⟩ (DT.uni ⟨some 24, none, .callv, [.t 23, .c (.str [98, 111, 110, 117, 115])]⟩ (DT.one ⟨some 25, none, .bslc 2 6 7 57 [.int .i64 0, .int .i64 0, .int .i64 0,
  .int .i64 0, .int .i64 0, .str []] [(0, 6), (6, 6), (12, 6), (18, 6), (24, 6), (30, 6), (36, 6)], [.t 15, .t 16, .t 18, .t 19, .t 21, .t 22, .t 24]⟩ (DT.one ⟨some 4, none, .mv, [.t
  25]⟩ DT.nil)))))))))))))).seq ((C.ops [⟨some 26, none, .build [.int .i64 0, .int .i64 0, .int .i64 0, .int .i64 0, .str []] [(0, 1), (1, 1)], [.c (.int .i64 0), .c (.int .i64 3)]⟩,
  ⟨some 27, none, .build [.int .i64 0, .int .i64 0, .int .i64 0, .int .i64 0, .str []] [(0, 1), (1, 1)], [.c (.int .i64 4), .c (.int .i64 7)]⟩, ⟨some 28, none, .bslc 3 5 2 60 [.int
  .i64 0, .int .i64 0, .int .i64 0, .int .i64 0, .str []] [(0, 5), (5, 5)], [.t 26, .t 27]⟩, ⟨some 5, none, .mv, [.t 28]⟩]).seq ((C.wk.seq (C.ops [⟨some 30, none, .mv, [.t 4]⟩, ⟨some
  31, none, .mv, [.t 5]⟩, ⟨some 32, none, .call 12 true, [.t 30, .t 31]⟩, ⟨some 29, none, .mv, [.t 32]⟩, ⟨some 33, none, .ext 0, [.t 29]⟩, ⟨some 34, none, .ext 1, [.t 29]⟩, ⟨some 6,
  none, .mv, [.t 33]⟩, ⟨some 7, none, .mv, [.t 34]⟩])).seq ((C.ops [⟨some 36, none, .mv, [.t 4]⟩, ⟨some 37, none, .mv, [.t 5]⟩, ⟨some 38, none, .call 14 true, [.t 36, .t 37]⟩, ⟨some
  35, none, .mv, [.t 38]⟩, ⟨some 39, none, .ext 0, [.t 35]⟩, ⟨some 40, none, .ext 1, [.t 35]⟩, ⟨some 8, none, .mv, [.t 39]⟩, ⟨some 9, none, .mv, [.t 40]⟩]).seq ((C.ops [⟨some 42,
  none, .bslc 4 1 1 9 [.str []] [(0, 1)], [.c (.str [99, 102, 46, 32, 64, 97])]⟩, ⟨some 43, none, .bslc 5 1 1 9 [.str []] [(0, 1)], [.c (.str [97])]⟩, ⟨some 44, none, .bslc 6 1 1 3
  [.int .i64 0] [(0, 1)], [.c (.int .i64 12)]⟩, ⟨some 45, none, .call 21 false, [.t 42, .t 43, .t 44]⟩, ⟨some 41, none, .mv, [.t 45]⟩, ⟨some 46, none, .ext 0, [.t 41]⟩, ⟨some 47,
  none, .ext 1, [.t 41]⟩, ⟨some 10, none, .mv, [.t 46]⟩, ⟨some 11, none, .mv, [.t 47]⟩]).seq ((C.ops [⟨some 48, none, .mv, [.t 7]⟩, ⟨some 49, none, .bin .eql, [.t 48, .c (.int .i64
  0)]⟩, ⟨some 50, none, .mv, [.t 49]⟩, ⟨some 51, some (50, true), .mv, [.t 9]⟩, ⟨some 52, some (50, true), .bin .eql, [.t 51, .c (.int .i64 0)]⟩, ⟨some 53, none, .pick, [.t 50, .t
  52, .c (.bool false)]⟩, ⟨some 54, none, .mv, [.t 53]⟩, ⟨some 55, some (54, true), .mv, [.t 11]⟩, ⟨some 56, some (54, true), .bin .eql, [.t 55, .c (.int .i64 0)]⟩, ⟨some 57, none,
  .pick, [.t 54, .t 56, .c (.bool false)]⟩, ⟨some 58, none, .mv, [.t 57]⟩, ⟨some 59, some (58, true), .mv, [.t 6]⟩, ⟨some 60, some (58, true), .bslc 7 1 3 3 [.int .i64 0] [(0, 1),
  (1, 1), (2, 1)], [.c (.int .i64 1), .c (.int .i64 1), .c (.int .i64 2)]⟩, ⟨some 61, some (58, true), .call 18 true, [.t 59, .t 60]⟩, ⟨some 62, none, .pick, [.t 58, .t 61, .c (.bool
  false)]⟩, ⟨some 63, none, .mv, [.t 62]⟩, ⟨some 64, some (63, true), .mv, [.t 8]⟩, ⟨some 65, some (63, true), .bslc 8 1 3 3 [.int .i64 0] [(0, 1), (1, 1), (2, 1)], [.c (.int .i64
  1), .c (.int .i64 2), .c (.int .i64 2)]⟩, ⟨some 66, some (63, true), .call 18 true, [.t 64, .t 65]⟩, ⟨some 67, none, .pick, [.t 63, .t 66, .c (.bool false)]⟩, ⟨some 68, none, .mv,
  [.t 67]⟩, ⟨some 69, some (68, true), .mv, [.t 10]⟩, ⟨some 70, some (68, true), .bslc 9 1 1 9 [.str []] [(0, 1)], [.c (.str [99, 102, 46, 32, 49, 50])]⟩, ⟨some 71, some (68, true),
  .call 31 true, [.t 69, .t 70]⟩, ⟨some 72, none, .pick, [.t 68, .t 71, .c (.bool false)]⟩, ⟨some 0, none, .mv, [.t 72]⟩]).seq
  C.ret)))))))))
theorem fn10m : FnIs Tryd.prog 10 73 10 [RV.tmp 0] c10m := ⟨Tryd.f10, Tryd.f10.body.getD .skip, [2, 3, 25, 28, 42, 43, 44, 60, 65, 70], [93, 67, 70, 45, 59, 21], [5], by kernel_rfl, by kernel_rfl, by kernel_rfl, by kernel_rfl, by kernel_rfl, by kernel_rfl, by kernel_rfl⟩

end HY
end

section
open Go Go.Proofs AF HY P48
namespace LN
set_option maxRecDepth 100000
def boxI (s : List UInt8) : It := { kind := 1, width := 10, stretch := 0, shrink := 0, penalty := 0, text := s }
def glueI : It := { kind := 2, width := 5, stretch := 0, shrink := 0, penalty := 0, text := [] }
def hypI : It := { kind := 3, width := 5, stretch := 0, shrink := 0, penalty := 50, text := [61] }
def exL : List It := [boxI [100, 101, 117, 115], glueI, boxI [101], hypI, boxI [115, 116], glueI, boxI [98, 111, 110, 117, 115]]
def exLs : List Ln := [⟨0, 3, 0, 0, []⟩, ⟨4, 7, 0, 0, []⟩]
theorem t37 (s : List UInt8) (h : List AObj) : ACalls Tryd.prog 37 [.str s] h (.agg (itemC (boxI s))) h := by
  refine acalls_of fn37l (by simp) ?_
  simp only [List.length_cons, List.length_nil, Nat.reduceAdd, Nat.reduceSub, List.replicate, List.cons_append, List.nil_append, List.append_nil]
  simp (disch := omega) only [c37l, go_sem, wrap64_id, Int.tdiv_eq_ediv_of_nonneg, Int.tmod_eq_emod_of_nonneg]
  repeat' first
    | ((first | refine fnQ_pure1 ?_ ?_ | refine fnQ_pure0 ?_ ?_); (next => repeat' first | exact rvs_n | refine rvs_t ?_ | (simp [go_sem]; done)); simp only [go_sem]; (first | exact VLe.refl _ | refine VLe_int ?_ | refine VLe_bool ?_ | refine VLe_str ?_ | skip))
    | (with_reducible refine And.intro ?_ ?_)
    | with_reducible intro _
  all_goals first
    | omega
    | (rename_i hx; revert hx; simp; done)
    | (simp; done)
    | skip
  all_goals exact VLe.refl _
theorem ex_first : numsO (fun a _ => a) exL exLs = (0, [1, 1, 2]) := by decide +kernel
theorem ex_last : numsO (fun _ b => b) exL exLs = (0, [1, 2, 2]) := by decide +kernel
theorem ex_res : resO (fun n => itoaS n.toNat) [[99, 102, 46, 32, 64, 97]] [[97]] [12] = (0, [[99, 102, 46, 32, 49, 50]]) := by decide +kernel
end LN
end

section
open Go Go.Proofs AF HY P48
namespace LN
set_option maxRecDepth 100000
theorem q18a (k : Nat) (H : List AObj) (hk : getO k H = some (.mem 1 3 [.int .i64 1, .int .i64 1, .int .i64 2])) : ACalls Tryd.prog 18 [intsV [1, 1, 2], .osl k 1 1 0 3] H (.bool true) H := by
  have := u17o [1, 1, 2] [1, 1, 2] k 1 H hk (by decide)
  rwa [decide_eq_true rfl] at this
theorem q18b (k : Nat) (H : List AObj) (hk : getO k H = some (.mem 1 3 [.int .i64 1, .int .i64 2, .int .i64 2])) : ACalls Tryd.prog 18 [intsV [1, 2, 2], .osl k 1 1 0 3] H (.bool true) H := by
  have := u17o [1, 2, 2] [1, 2, 2] k 1 H hk (by decide)
  rwa [decide_eq_true rfl] at this
theorem q31 (k : Nat) (H : List AObj) (hk : getO k H = some (.mem 1 9 [.str [99, 102, 46, 32, 49, 50]])) : ACalls Tryd.prog 31 [strs [[99, 102, 46, 32, 49, 50]], .osl k 1 1 0 1] H (.bool true) H := u34o [[99, 102, 46, 32, 49, 50]] [[99, 102, 46, 32, 49, 50]] k 1 H hk (by decide)
set_option maxHeartbeats 8000000 in
theorem t10 (h : List AObj) : ACalls Tryd.prog 10 [] h (.bool true) h := by
  have c37 := fun (s : List UInt8) (h : List AObj) => t37 s h
  have e37 : ∀ s, itemC (boxI s) = [.int .i64 1, .int .i64 10, .int .i64 0, .int .i64 0, .int .i64 0, .str s] := fun _ => rfl
  refine acalls_of fn10m (by simp) ?_
  simp only [List.length_cons, List.length_nil, Nat.reduceAdd, Nat.reduceSub, List.replicate, List.cons_append, List.nil_append, List.append_nil]
  simp (disch := omega) only [c10m, go_sem, wrap64_id, Int.tdiv_eq_ediv_of_nonneg, Int.tmod_eq_emod_of_nonneg]
  repeat' first
    | ((first | refine fnQ_pure1 ?_ ?_ | refine fnQ_pure0 ?_ ?_); (next => repeat' first | exact rvs_n | refine rvs_t ?_ | (simp [go_sem]; done)); simp only [go_sem]; (first | exact VLe.refl _ | refine VLe_int ?_ | refine VLe_bool ?_ | refine VLe_str ?_ | skip))
    | (with_reducible refine And.intro ?_ ?_)
    | with_reducible intro _
  all_goals first
    | omega
    | (rename_i hx; revert hx; simp; done)
    | (simp; done)
    | skip
  refine draw_of ?T ?H ?h1 ?h2
  case h1 =>
    simp (disch := omega) only [go_sem, wrap64_id, Int.tdiv_eq_ediv_of_nonneg, Int.tmod_eq_emod_of_nonneg]
    repeat' first
      | (refine callVU_of (fun _ => c37 _ _) ⟨rfl, rfl, trivial⟩ ?_; simp (disch := omega) only [e37, madeA, go_sem])
      | (with_reducible refine And.intro ?_ ?_)
      | with_reducible intro _
    all_goals first
      | omega
      | rfl
      | (simp; done)
      | skip
  case h2 =>
  simp (disch := omega) only [madeA, go_sem, wrap64_id, Int.tdiv_eq_ediv_of_nonneg, Int.tmod_eq_emod_of_nonneg]
  repeat' first
    | ((first | refine fnQ_pure1 ?_ ?_ | refine fnQ_pure0 ?_ ?_); (next => repeat' first | exact rvs_n | refine rvs_t ?_ | (simp [go_sem]; done)); simp only [go_sem]; (first | exact VLe.refl _ | refine VLe_int ?_ | refine VLe_bool ?_ | refine VLe_str ?_ | skip))
    | (with_reducible refine And.intro ?_ ?_)
    | with_reducible intro _
  all_goals first
    | omega
    | (rename_i hx; revert hx; simp; done)
    | (simp; done)
    | skip
  refine ⟨spar 73 [(4, items exL), (5, linesV exLs)], _, Wk.trans (Wk.freeze [h.length + 2, h.length + 3] ?_) (Wk.temps ?_), ?_⟩
  · simp only [sitesOk, go_sem]
  · simp only [List.map, spar, List.foldl, List.replicate, go_sem, VLes_nil, VLes_cons, VLe_undef_iff, VLe_self]
    have m2 : [h.length + 2, h.length + 3].contains (h.length + 2) = true := by simp
    have m3 : [h.length + 2, h.length + 3].contains (h.length + 3) = true := by simp
    rw [if_pos m2, if_pos m2, if_pos m3, if_pos m3]
    refine ⟨VLe.sl_eq rfl (fun i hi => ?_), VLe.sl_eq rfl (fun i hi => ?_)⟩
    · match i, hi with
      | 0, _ => rfl
      | 1, _ => rfl
      | 2, _ => rfl
      | 3, _ => rfl
      | 4, _ => rfl
      | 5, _ => rfl
      | 6, _ => rfl
      | n + 7, hi => exact absurd hi (by omega)
    · match i, hi with
      | 0, _ => rfl
      | 1, _ => rfl
      | n + 2, hi => exact absurd hi (by omega)
  have c12 := fun h => t12 exL exLs h (by decide) (by decide)
  have c14 := fun h => t14 exL exLs h (by decide) (by decide)
  rw [ex_first] at c12
  rw [ex_last] at c14
  have n1 : intsN [1, 1, 2] = intsV [1, 1, 2] := rfl
  have n2 : intsN [1, 2, 2] = intsV [1, 2, 2] := rfl
  simp only [n1] at c12
  simp only [n2] at c14
  simp only [killO, spar, List.foldl, List.replicate, go_sem]
  repeat' first
    | ((first | refine callA_pure (c12 _) ?_ ?_ | refine callA_pure (c14 _) ?_ ?_); (next => repeat' first | exact flags_n | refine flags_c (by first | rfl | assumption) ?_); simp (disch := omega) only [madeA, go_sem, wrap64_id, Int.tdiv_eq_ediv_of_nonneg, Int.tmod_eq_emod_of_nonneg])
    | ((first | refine callU_of (fun _ => c12 _) ?_ ?_ | refine callU_of (fun _ => c14 _) ?_ ?_); (next => repeat' first | exact flags_n | refine flags_c (by first | rfl | assumption) ?_); simp (disch := omega) only [madeA, go_sem, wrap64_id, Int.tdiv_eq_ediv_of_nonneg, Int.tmod_eq_emod_of_nonneg])
    | ((first | refine callG_pure (fun e => ⟨?_, c12 _⟩) ?_ | refine callG_pure (fun e => ⟨?_, c14 _⟩) ?_); (next => repeat' first | exact flags_n | refine flags_c (by first | rfl | assumption) ?_); simp (disch := omega) only [madeA, go_sem, wrap64_id, Int.tdiv_eq_ediv_of_nonneg, Int.tmod_eq_emod_of_nonneg])
    | ((first | refine fnQ_pure1 ?_ ?_ | refine fnQ_pure0 ?_ ?_); (next => repeat' first | exact rvs_n | refine rvs_t ?_ | (simp [go_sem]; done)); simp only [go_sem]; (first | exact VLe.refl _ | refine VLe_int ?_ | refine VLe_bool ?_ | refine VLe_str ?_ | skip))
    | (with_reducible refine And.intro ?_ ?_)
    | with_reducible intro _
  all_goals first
    | omega
    | (rename_i hx; revert hx; simp; done)
    | (simp; done)
    | skip
  refine callA_eff (give [h.length + 4, h.length + 5, h.length + 6] (by simp only [sitesOk, go_sem]) (ACalls.le (t21 (fun n => itoaS n.toNat) [[99, 102, 46, 32, 64, 97]] [[97]] [12] _ (by decide) (by decide) (by decide) ?_ ?_ ?_) ?_ (VLe.refl _))) ⟨rfl, rfl, rfl, trivial⟩ ?_
  · intro i hi
    match i, hi with
    | 0, _ => decide
    | n + 1, hi => exact absurd hi (by simp)
  · intro i hi
    match i, hi with
    | 0, _ => decide
    | n + 1, hi => exact absurd hi (by simp)
  · intro n hn _ _
    simp at hn
    subst hn
    exact ⟨by decide, fun l => t48s 12 _ (by decide)⟩
  · have m4 : [h.length + 4, h.length + 5, h.length + 6].contains (h.length + 4) = true := by simp
    have m5 : [h.length + 4, h.length + 5, h.length + 6].contains (h.length + 5) = true := by simp
    have m6 : [h.length + 4, h.length + 5, h.length + 6].contains (h.length + 6) = true := by simp
    simp only [strips_cons, List.map, go_sem]
    rw [if_pos m4, if_pos m4, if_pos m5, if_pos m5, if_pos m6, if_pos m6]
    refine VLes2 (VLe.sl_eq rfl (fun i hi => ?_)) (VLes2 (VLe.sl_eq rfl (fun i hi => ?_)) (VLes2 (VLe.sl_eq rfl (fun i hi => ?_)) VLes.nil))
    · obtain rfl : i = 0 := by omega
      rfl
    · obtain rfl : i = 0 := by omega
      rfl
    · obtain rfl : i = 0 := by omega
      rfl
  · rw [ex_res]
    simp only [killO, go_sem]
    repeat' first
      | ((first | refine callA_pure ((q18a _ _ (by simp only [go_sem] <;> rfl))) ?_ ?_ | refine callA_pure ((q18b _ _ (by simp only [go_sem] <;> rfl))) ?_ ?_ | refine callA_pure ((q31 _ _ (by simp only [go_sem] <;> rfl))) ?_ ?_); (next => repeat' first | exact flags_n | refine flags_c (by first | rfl | assumption) ?_); simp (disch := omega) only [madeA, go_sem, wrap64_id, Int.tdiv_eq_ediv_of_nonneg, Int.tmod_eq_emod_of_nonneg])
      | ((first | refine callG_pure (fun e => ⟨?_, (q18a _ _ (by simp only [go_sem] <;> rfl))⟩) ?_ | refine callG_pure (fun e => ⟨?_, (q18b _ _ (by simp only [go_sem] <;> rfl))⟩) ?_ | refine callG_pure (fun e => ⟨?_, (q31 _ _ (by simp only [go_sem] <;> rfl))⟩) ?_); (next => repeat' first | exact flags_n | refine flags_c (by first | rfl | assumption) ?_); simp (disch := omega) only [madeA, go_sem, wrap64_id, Int.tdiv_eq_ediv_of_nonneg, Int.tmod_eq_emod_of_nonneg])
      | ((first | refine fnQ_pure1 ?_ ?_ | refine fnQ_pure0 ?_ ?_); (next => repeat' first | exact rvs_n | refine rvs_t ?_ | (simp [go_sem]; done)); simp only [go_sem]; (first | exact VLe.refl _ | refine VLe_int ?_ | refine VLe_bool ?_ | refine VLe_str ?_ | skip))
      | (with_reducible refine And.intro ?_ ?_)
      | with_reducible intro _
    all_goals first
      | omega
      | (rename_i hx; revert hx; simp; done)
      | (simp; done)
      | skip
end LN
end

section
open Go Go.Proofs AF HY P48
namespace LN
set_option maxRecDepth 100000
theorem marg_get {E j i : Nat} (hi : i < j) : (margL E j).getD i 0 = (((i + 1) * E : Nat) : Int) := by
  unfold margL
  rw [List.getD_eq_getElem?_getD, List.getElem?_map, List.getElem?_range hi]
  rfl
set_option maxHeartbeats 4000000 in
theorem t3 (n e : Nat) (h : List AObj) (hn : n ≤ 65535) (he : e ≤ 255) : ACalls Tryd.prog 3 [.int .u16 (n : Int), .int .u8 (e : Int)] h (.bool true) h := by
  obtain ⟨N, hN⟩ : ∃ N, N = n % 501 := ⟨_, rfl⟩
  obtain ⟨E, hE⟩ : ∃ E, E = 1 + e % 20 := ⟨_, rfl⟩
  have kN : (n : Int) % 501 = (N : Int) := by omega
  have kE : 1 + (e : Int) % 20 = (E : Int) := by omega
  have c9 := fun h => t9 N E h (by omega) (by omega) (by omega)
  have c10 := fun h => t10 h
  obtain ⟨j, hj⟩ : ∃ j, j = N / E := ⟨_, rfl⟩
  have kq : (N : Int) / (E : Int) = (j : Int) := by rw [hj]; rfl
  have hjE : j * E ≤ N := by rw [hj]; exact Nat.div_mul_le_self N E
  have hjN : j ≤ N := by rw [hj]; exact Nat.div_le_self N E
  rw [← hj] at c9
  have eL := marg_len E j
  have q0 : ((E : Int) = 0) = False := eq_false (by omega)
  by_cases h0 : j = 0
  · subst h0
    have n0 : intsN (margL E 0) = .nl := rfl
    rw [n0] at c9
    refine acalls_of fn3l (by simp) ?_
    simp only [List.length_cons, List.length_nil, Nat.reduceAdd, Nat.reduceSub, List.replicate, List.cons_append, List.nil_append, List.append_nil]
    simp (disch := omega) only [c3l, kN, kE, go_sem, wrap64_id, Int.tdiv_eq_ediv_of_nonneg, Int.tmod_eq_emod_of_nonneg]
    repeat' first
      | ((first | refine callA_pure (c9 _) ?_ ?_ | refine callA_pure (c10 _) ?_ ?_); (next => repeat' first | exact flags_n | refine flags_c (by first | rfl | assumption) ?_); simp (disch := omega) only [kN, kE, kq, q0, go_sem, wrap64_id, Int.tdiv_eq_ediv_of_nonneg, Int.tmod_eq_emod_of_nonneg])
      | ((first | refine callU_of (fun _ => c9 _) ?_ ?_ | refine callU_of (fun _ => c10 _) ?_ ?_); (next => repeat' first | exact flags_n | refine flags_c (by first | rfl | assumption) ?_); simp (disch := omega) only [kN, kE, kq, q0, go_sem, wrap64_id, Int.tdiv_eq_ediv_of_nonneg, Int.tmod_eq_emod_of_nonneg])
      | ((first | refine callG_pure (fun e => ⟨?_, c9 _⟩) ?_ | refine callG_pure (fun e => ⟨?_, c10 _⟩) ?_); (next => repeat' first | exact flags_n | refine flags_c (by first | rfl | assumption) ?_); simp (disch := omega) only [kN, kE, kq, q0, go_sem, wrap64_id, Int.tdiv_eq_ediv_of_nonneg, Int.tmod_eq_emod_of_nonneg])
      | ((first | refine fnQ_pure1 ?_ ?_ | refine fnQ_pure0 ?_ ?_); (next => repeat' first | exact rvs_n | refine rvs_t ?_ | (simp [go_sem]; done)); simp only [go_sem]; (first | exact VLe.refl _ | refine VLe_int ?_ | refine VLe_bool ?_ | refine VLe_str ?_ | skip))
      | (with_reducible refine And.intro ?_ ?_)
      | with_reducible intro _
    all_goals first
      | omega
      | (rename_i hx; revert hx; simp; done)
      | (simp; done)
      | skip
    refine loop_of (T := fun _ : Unit => spar 49 [(6, .int .i64 E), (34, .nl), (35, .int .i64 0), (36, .int .i64 0)]) (H := fun _ => h) (inv := fun _ => True) (m := fun _ => 0) () trivial (Wk.temps ?_) ?_
    · (simp only [spar, List.foldl, List.replicate, go_sem, VLes_nil, VLes_cons, VLe_undef_iff, VLe_self]; try (repeat' first | (with_reducible refine And.intro ?_ ?_) | (refine VLe_int ?_; omega) | (refine VLe_bool ?_; rfl) | exact VLe.refl _))
    rintro _ _ K hK
    simp (disch := omega) only [spar, List.foldl, List.replicate, go_sem, wrap64_id, Int.tdiv_eq_ediv_of_nonneg, Int.tmod_eq_emod_of_nonneg]
    repeat' first
      | ((first | refine callA_pure (c10 _) ?_ ?_); (next => repeat' first | exact flags_n | refine flags_c (by first | rfl | assumption) ?_); simp (disch := omega) only [go_sem, wrap64_id, Int.tdiv_eq_ediv_of_nonneg, Int.tmod_eq_emod_of_nonneg])
      | ((first | refine callU_of (fun _ => c10 _) ?_ ?_); (next => repeat' first | exact flags_n | refine flags_c (by first | rfl | assumption) ?_); simp (disch := omega) only [go_sem, wrap64_id, Int.tdiv_eq_ediv_of_nonneg, Int.tmod_eq_emod_of_nonneg])
      | ((first | refine callG_pure (fun e => ⟨?_, c10 _⟩) ?_); (next => repeat' first | exact flags_n | refine flags_c (by first | rfl | assumption) ?_); simp (disch := omega) only [go_sem, wrap64_id, Int.tdiv_eq_ediv_of_nonneg, Int.tmod_eq_emod_of_nonneg])
      | ((first | refine fnQ_pure1 ?_ ?_ | refine fnQ_pure0 ?_ ?_); (next => repeat' first | exact rvs_n | refine rvs_t ?_ | (simp [go_sem]; done)); simp only [go_sem]; (first | exact VLe.refl _ | refine VLe_int ?_ | refine VLe_bool ?_ | refine VLe_str ?_ | skip))
      | (with_reducible refine And.intro ?_ ?_)
      | with_reducible intro _
    all_goals first
      | omega
      | (rename_i hx; revert hx; simp; done)
      | (simp; done)
      | skip
  · have n0 : intsN (margL E j) = intsV (margL E j) := by
      unfold intsN
      rw [if_neg (by intro hc; rw [hc] at eL; simp at eL; omega)]
    rw [n0] at c9
    unfold intsV at c9
    rw [eL] at c9
    refine acalls_of fn3l (by simp) ?_
    simp only [List.length_cons, List.length_nil, Nat.reduceAdd, Nat.reduceSub, List.replicate, List.cons_append, List.nil_append, List.append_nil]
    simp (disch := omega) only [c3l, kN, kE, go_sem, wrap64_id, Int.tdiv_eq_ediv_of_nonneg, Int.tmod_eq_emod_of_nonneg]
    repeat' first
      | ((first | refine callA_pure (c9 _) ?_ ?_ | refine callA_pure (c10 _) ?_ ?_); (next => repeat' first | exact flags_n | refine flags_c (by first | rfl | assumption) ?_); simp (disch := omega) only [kN, kE, kq, q0, go_sem, wrap64_id, Int.tdiv_eq_ediv_of_nonneg, Int.tmod_eq_emod_of_nonneg])
      | ((first | refine callU_of (fun _ => c9 _) ?_ ?_ | refine callU_of (fun _ => c10 _) ?_ ?_); (next => repeat' first | exact flags_n | refine flags_c (by first | rfl | assumption) ?_); simp (disch := omega) only [kN, kE, kq, q0, go_sem, wrap64_id, Int.tdiv_eq_ediv_of_nonneg, Int.tmod_eq_emod_of_nonneg])
      | ((first | refine callG_pure (fun e => ⟨?_, c9 _⟩) ?_ | refine callG_pure (fun e => ⟨?_, c10 _⟩) ?_); (next => repeat' first | exact flags_n | refine flags_c (by first | rfl | assumption) ?_); simp (disch := omega) only [kN, kE, kq, q0, go_sem, wrap64_id, Int.tdiv_eq_ediv_of_nonneg, Int.tmod_eq_emod_of_nonneg])
      | ((first | refine fnQ_pure1 ?_ ?_ | refine fnQ_pure0 ?_ ?_); (next => repeat' first | exact rvs_n | refine rvs_t ?_ | (simp [go_sem]; done)); simp only [go_sem]; (first | exact VLe.refl _ | refine VLe_int ?_ | refine VLe_bool ?_ | refine VLe_str ?_ | skip))
      | (with_reducible refine And.intro ?_ ?_)
      | with_reducible intro _
    all_goals first
      | omega
      | (rename_i hx; revert hx; simp; done)
      | (simp; done)
      | skip
    refine loop_of (T := fun i : Nat => spar 49 [(6, .int .i64 E), (34, .sl j fun i => [.int .i64 ((margL E j).getD i 0)]), (35, .int .i64 j), (36, .int .i64 i)]) (H := fun _ => h) (inv := fun i => i ≤ j) (m := fun i => j - i) 0 (Nat.zero_le _) (Wk.temps ?_) ?_
    · (simp only [spar, List.foldl, List.replicate, go_sem, VLes_nil, VLes_cons, VLe_undef_iff, VLe_self]; try (repeat' first | (with_reducible refine And.intro ?_ ?_) | (refine VLe_int ?_; omega) | (refine VLe_bool ?_; rfl) | exact VLe.refl _))
    rintro i i1 K hK
    by_cases hi : i < j
    · have hp : (i + 1) * E ≤ N := Nat.le_trans (Nat.mul_le_mul_right E hi) hjE
      obtain ⟨p, hpp⟩ : ∃ p, p = (i + 1) * E := ⟨_, rfl⟩
      have eg := marg_get (E := E) hi
      rw [← hpp] at eg hp
      have kp : ((i : Int) + 1) * (E : Int) = (p : Int) := by rw [hpp]; simp
      have qi : ((i : Int) < j) = True := eq_true (by omega)
      simp (disch := omega) only [spar, List.foldl, List.replicate, eg, kp, qi, go_sem, wrap64_id, Int.tdiv_eq_ediv_of_nonneg, Int.tmod_eq_emod_of_nonneg]
      repeat' first
        | ((first | refine fnQ_pure1 ?_ ?_ | refine fnQ_pure0 ?_ ?_); (next => repeat' first | exact rvs_n | refine rvs_t ?_ | (simp [go_sem]; done)); simp only [go_sem]; (first | exact VLe.refl _ | refine VLe_int ?_ | refine VLe_bool ?_ | refine VLe_str ?_ | skip))
        | (with_reducible refine And.intro ?_ ?_)
        | with_reducible intro _
      all_goals first
        | omega
        | (rename_i hx; revert hx; simp; done)
        | (simp; done)
        | skip
      refine hK _ _ (i + 1) hi (by omega) (Wk.temps ?_)
      (simp only [spar, List.foldl, List.replicate, go_sem, VLes_nil, VLes_cons, VLe_undef_iff, VLe_self]; try (repeat' first | (with_reducible refine And.intro ?_ ?_) | (refine VLe_int ?_; omega) | (refine VLe_bool ?_; rfl) | exact VLe.refl _))
    · have qi : ((i : Int) < j) = False := eq_false (by omega)
      simp (disch := omega) only [spar, List.foldl, List.replicate, qi, go_sem, wrap64_id, Int.tdiv_eq_ediv_of_nonneg, Int.tmod_eq_emod_of_nonneg]
      repeat' first
        | ((first | refine callA_pure (c10 _) ?_ ?_); (next => repeat' first | exact flags_n | refine flags_c (by first | rfl | assumption) ?_); simp (disch := omega) only [qi, go_sem, wrap64_id, Int.tdiv_eq_ediv_of_nonneg, Int.tmod_eq_emod_of_nonneg])
        | ((first | refine callU_of (fun _ => c10 _) ?_ ?_); (next => repeat' first | exact flags_n | refine flags_c (by first | rfl | assumption) ?_); simp (disch := omega) only [qi, go_sem, wrap64_id, Int.tdiv_eq_ediv_of_nonneg, Int.tmod_eq_emod_of_nonneg])
        | ((first | refine callG_pure (fun e => ⟨?_, c10 _⟩) ?_); (next => repeat' first | exact flags_n | refine flags_c (by first | rfl | assumption) ?_); simp (disch := omega) only [qi, go_sem, wrap64_id, Int.tdiv_eq_ediv_of_nonneg, Int.tmod_eq_emod_of_nonneg])
        | ((first | refine fnQ_pure1 ?_ ?_ | refine fnQ_pure0 ?_ ?_); (next => repeat' first | exact rvs_n | refine rvs_t ?_ | (simp [go_sem]; done)); simp only [go_sem]; (first | exact VLe.refl _ | refine VLe_int ?_ | refine VLe_bool ?_ | refine VLe_str ?_ | skip))
        | (with_reducible refine And.intro ?_ ?_)
        | with_reducible intro _
      all_goals first
        | omega
        | (rename_i hx; revert hx; simp; done)
        | (simp; done)
        | skip
end LN
end

section
open Go Go.Proofs AF HY P48
namespace LN
set_option maxRecDepth 100000
def rightO (f t : Int) : Bool := decide (1 ≤ f) && (decide (f ≤ t) && decide (t ≤ 4096))
theorem t42 (f t : Int) (h : List AObj) : ACalls Tryd.prog 42 [.int .i64 f, .int .i64 t] h (.bool (rightO f t)) h := by
  unfold rightO
  by_cases g1 : 1 ≤ f
  · have k1 : (1 ≤ f) = True := eq_true g1
    rw [decide_eq_true g1]
    by_cases g2 : f ≤ t
    · have k2 : (f ≤ t) = True := eq_true g2
      rw [decide_eq_true g2]
      refine acalls_of fn42l (by simp) ?_
      simp only [List.length_cons, List.length_nil, Nat.reduceAdd, Nat.reduceSub, List.replicate, List.cons_append, List.nil_append, List.append_nil]
      simp (disch := omega) only [c42l, k1, k2, go_sem, wrap64_id, Int.tdiv_eq_ediv_of_nonneg, Int.tmod_eq_emod_of_nonneg]
      repeat' first
        | ((first | refine fnQ_pure1 ?_ ?_ | refine fnQ_pure0 ?_ ?_); (next => repeat' first | exact rvs_n | refine rvs_t ?_ | (simp [go_sem]; done)); simp only [go_sem]; (first | exact VLe.refl _ | refine VLe_int ?_ | refine VLe_bool ?_ | refine VLe_str ?_ | skip))
        | (with_reducible refine And.intro ?_ ?_)
        | with_reducible intro _
      all_goals first
        | omega
        | (rename_i hx; revert hx; simp; done)
        | (simp; done)
        | skip
    · have k2 : (f ≤ t) = False := eq_false g2
      rw [decide_eq_false g2]
      refine acalls_of fn42l (by simp) ?_
      simp only [List.length_cons, List.length_nil, Nat.reduceAdd, Nat.reduceSub, List.replicate, List.cons_append, List.nil_append, List.append_nil]
      simp (disch := omega) only [c42l, k1, k2, go_sem, wrap64_id, Int.tdiv_eq_ediv_of_nonneg, Int.tmod_eq_emod_of_nonneg]
      repeat' first
        | ((first | refine fnQ_pure1 ?_ ?_ | refine fnQ_pure0 ?_ ?_); (next => repeat' first | exact rvs_n | refine rvs_t ?_ | (simp [go_sem]; done)); simp only [go_sem]; (first | exact VLe.refl _ | refine VLe_int ?_ | refine VLe_bool ?_ | refine VLe_str ?_ | skip))
        | (with_reducible refine And.intro ?_ ?_)
        | with_reducible intro _
      all_goals first
        | omega
        | (rename_i hx; revert hx; simp; done)
        | (simp; done)
        | skip
  · have k1 : (1 ≤ f) = False := eq_false g1
    rw [decide_eq_false g1]
    refine acalls_of fn42l (by simp) ?_
    simp only [List.length_cons, List.length_nil, Nat.reduceAdd, Nat.reduceSub, List.replicate, List.cons_append, List.nil_append, List.append_nil]
    simp (disch := omega) only [c42l, k1, go_sem, wrap64_id, Int.tdiv_eq_ediv_of_nonneg, Int.tmod_eq_emod_of_nonneg]
    repeat' first
      | ((first | refine fnQ_pure1 ?_ ?_ | refine fnQ_pure0 ?_ ?_); (next => repeat' first | exact rvs_n | refine rvs_t ?_ | (simp [go_sem]; done)); simp only [go_sem]; (first | exact VLe.refl _ | refine VLe_int ?_ | refine VLe_bool ?_ | refine VLe_str ?_ | skip))
      | (with_reducible refine And.intro ?_ ?_)
      | with_reducible intro _
    all_goals first
      | omega
      | (rename_i hx; revert hx; simp; done)
      | (simp; done)
      | skip
def inP (L : List Int) (f t : Int) (i : Nat) : Bool := decide (f ≤ L.getD i 0) && decide (L.getD i 0 ≤ t)
def inL (L : List Int) (f t : Int) (n : Nat) : List Int := ((List.range n).filter (inP L f t)).map fun (i : Nat) => (i : Int)
theorem inL_t {L : List Int} {f t : Int} {n : Nat} (h : inP L f t n = true) : inL L f t (n + 1) = inL L f t n ++ [(n : Int)] := by
  unfold inL; rw [filter_succ_t h, List.map_append]; rfl
theorem inL_f {L : List Int} {f t : Int} {n : Nat} (h : inP L f t n = false) : inL L f t (n + 1) = inL L f t n := by
  unfold inL; rw [filter_succ_f h]
theorem inL_len (L : List Int) (f t : Int) (n : Nat) : (inL L f t n).length ≤ n := by
  unfold inL; rw [List.length_map]; exact Nat.le_trans (List.length_filter_le _ _) (by simp)
def inO (L M : List Int) (f t : Int) : Int × List Int := if L.length ≠ M.length then (9, []) else if rightO f t = false then (2, []) else (0, inL L f t L.length)
set_option maxHeartbeats 4000000 in
theorem t16 (L M : List Int) (f t : Int) (h : List AObj) (hl : L.length ≤ 1000000) (hm : M.length ≤ 1000000) : ACalls Tryd.prog 16 [intsV L, intsV M, .int .i64 f, .int .i64 t] h (.tup [intsN (inO L M f t).2, .int .i64 (inO L M f t).1]) h := by
  have c42 := fun h => t42 f t h
  obtain ⟨R, hR⟩ : ∃ R, R = inO L M f t := ⟨_, rfl⟩
  rw [← hR]
  by_cases g1 : L.length = M.length
  · have k1 : ((L.length : Int) = M.length) = True := eq_true (by omega)
    cases hr : rightO f t with
    | false =>
      have hV : R = (2, []) := by rw [hR]; unfold inO; rw [if_neg (fun hc => hc g1), if_pos hr]
      rw [hV]
      rw [hr] at c42
      refine acalls_of fn16l (by simp) ?_
      simp only [List.length_cons, List.length_nil, Nat.reduceAdd, Nat.reduceSub, List.replicate, List.cons_append, List.nil_append, List.append_nil]
      simp (disch := omega) only [c16l, k1, intsV, go_sem, wrap64_id, Int.tdiv_eq_ediv_of_nonneg, Int.tmod_eq_emod_of_nonneg]
      repeat' first
        | ((first | refine callA_pure (c42 _) ?_ ?_); (next => repeat' first | exact flags_n | refine flags_c (by first | rfl | assumption) ?_); simp (disch := omega) only [k1, intsV, go_sem, wrap64_id, Int.tdiv_eq_ediv_of_nonneg, Int.tmod_eq_emod_of_nonneg])
        | ((first | refine callU_of (fun _ => c42 _) ?_ ?_); (next => repeat' first | exact flags_n | refine flags_c (by first | rfl | assumption) ?_); simp (disch := omega) only [k1, intsV, go_sem, wrap64_id, Int.tdiv_eq_ediv_of_nonneg, Int.tmod_eq_emod_of_nonneg])
        | ((first | refine callG_pure (fun e => ⟨?_, c42 _⟩) ?_); (next => repeat' first | exact flags_n | refine flags_c (by first | rfl | assumption) ?_); simp (disch := omega) only [k1, intsV, go_sem, wrap64_id, Int.tdiv_eq_ediv_of_nonneg, Int.tmod_eq_emod_of_nonneg])
        | ((first | refine fnQ_pure1 ?_ ?_ | refine fnQ_pure0 ?_ ?_); (next => repeat' first | exact rvs_n | refine rvs_t ?_ | (simp [go_sem]; done)); simp only [go_sem]; (first | exact VLe.refl _ | refine VLe_int ?_ | refine VLe_bool ?_ | refine VLe_str ?_ | skip))
        | (with_reducible refine And.intro ?_ ?_)
        | with_reducible intro _
      all_goals first
        | omega
        | (rename_i hx; revert hx; simp; done)
        | (simp; done)
        | skip
    | true =>
    have hV : R = (0, inL L f t L.length) := by rw [hR]; unfold inO; rw [if_neg (fun hc => hc g1), if_neg (by rw [hr]; simp)]
    rw [hV]
    rw [hr] at c42
    refine acalls_of fn16l (by simp) ?_
    simp only [List.length_cons, List.length_nil, Nat.reduceAdd, Nat.reduceSub, List.replicate, List.cons_append, List.nil_append, List.append_nil]
    simp (disch := omega) only [c16l, k1, intsV, go_sem, wrap64_id, Int.tdiv_eq_ediv_of_nonneg, Int.tmod_eq_emod_of_nonneg]
    repeat' first
      | ((first | refine callA_pure (c42 _) ?_ ?_); (next => repeat' first | exact flags_n | refine flags_c (by first | rfl | assumption) ?_); simp (disch := omega) only [k1, intsV, go_sem, wrap64_id, Int.tdiv_eq_ediv_of_nonneg, Int.tmod_eq_emod_of_nonneg])
      | ((first | refine callU_of (fun _ => c42 _) ?_ ?_); (next => repeat' first | exact flags_n | refine flags_c (by first | rfl | assumption) ?_); simp (disch := omega) only [k1, intsV, go_sem, wrap64_id, Int.tdiv_eq_ediv_of_nonneg, Int.tmod_eq_emod_of_nonneg])
      | ((first | refine callG_pure (fun e => ⟨?_, c42 _⟩) ?_); (next => repeat' first | exact flags_n | refine flags_c (by first | rfl | assumption) ?_); simp (disch := omega) only [k1, intsV, go_sem, wrap64_id, Int.tdiv_eq_ediv_of_nonneg, Int.tmod_eq_emod_of_nonneg])
      | ((first | refine fnQ_pure1 ?_ ?_ | refine fnQ_pure0 ?_ ?_); (next => repeat' first | exact rvs_n | refine rvs_t ?_ | (simp [go_sem]; done)); simp only [go_sem]; (first | exact VLe.refl _ | refine VLe_int ?_ | refine VLe_bool ?_ | refine VLe_str ?_ | skip))
      | (with_reducible refine And.intro ?_ ?_)
      | with_reducible intro _
    all_goals first
      | omega
      | (rename_i hx; revert hx; simp; done)
      | (simp; done)
      | skip
    refine loop_of (T := fun i : Nat × Nat × AObj => spar 43 [(2, .int .i64 f), (3, .int .i64 t), (10, .osl (h.length + 1) i.2.1 1 0 (inL L f t i.1).length), (22, intsV L), (23, .int .i64 L.length), (24, .int .i64 i.1)])
      (H := fun i => h ++ [.emp 1, ownO i.2.1 3 (intsC (inL L f t i.1)), i.2.2, .emp 0])
      (inv := fun i => i.1 ≤ L.length ∧ site [i.2.2] 0 = true) (m := fun i => L.length - i.1) (0, 1, .emp 0) ⟨Nat.zero_le _, rfl⟩ (Wk.temps ?_) ?_
    · (simp only [intsV, spar, List.foldl, List.replicate, go_sem, VLes_nil, VLes_cons, VLe_undef_iff, VLe_self]; try (repeat' first | (with_reducible refine And.intro ?_ ?_) | (refine VLe_int ?_; omega) | (refine VLe_bool ?_; rfl) | exact VLe.refl _))
    rintro ⟨i, v, O⟩ ⟨i1, i2⟩ K hK
    simp only at i1 i2 hK
    have i2' : ∀ m, site (O :: m) 0 = true := fun _ => i2
    have eN := inL_len L f t i
    have eC := intsC_len (inL L f t i)
    have eT : List.take (inL L f t i).length (intsC (inL L f t i)) = intsC (inL L f t i) := List.take_of_length_le (by omega)
    by_cases hi : i < L.length
    · obtain ⟨x, hx⟩ : ∃ x, x = L.getD i 0 := ⟨_, rfl⟩
      have ex := hx.symm
      by_cases a1 : f ≤ x
      · have q1 : (f ≤ x) = True := eq_true a1
        by_cases a2 : x ≤ t
        · have q2 : (x ≤ t) = True := eq_true a2
          have hb : inP L f t i = true := by unfold inP; rw [ex, decide_eq_true a1, decide_eq_true a2]; rfl
          have hs := inL_t hb
          have hsn : intsC (inL L f t (i + 1)) = intsC (inL L f t i) ++ [.int .i64 (i : Int)] := by rw [hs, intsC_snoc]
          simp (disch := omega) only [spar, List.foldl, List.replicate, intsV, i2', eC, eT, ex, q1, q2, go_sem, wrap64_id, Int.tdiv_eq_ediv_of_nonneg, Int.tmod_eq_emod_of_nonneg]
          repeat' first
            | ((first | refine fnQ_pure1 ?_ ?_ | refine fnQ_pure0 ?_ ?_); (next => repeat' first | exact rvs_n | refine rvs_t ?_ | (simp [go_sem]; done)); simp only [go_sem]; (first | exact VLe.refl _ | refine VLe_int ?_ | refine VLe_bool ?_ | refine VLe_str ?_ | skip))
            | (with_reducible refine And.intro ?_ ?_)
            | with_reducible intro _
          all_goals first
            | omega
            | (rename_i hx; revert hx; simp; done)
            | (simp; done)
            | skip
          refine hK _ _ (i + 1, v + 1, .mem (verOf (some O) + 1) 3 (AV.int IntKind.i64 ↑i :: List.drop 1 (madeA [AV.int IntKind.i64 0] 1))) ⟨hi, rfl⟩ (by simp only; omega) ?_
          simp only
          rw [hsn, hs, List.length_append, List.length_singleton]
          refine Wk.temps ?_
          (simp only [intsV, spar, List.foldl, List.replicate, go_sem, VLes_nil, VLes_cons, VLe_undef_iff, VLe_self]; try (repeat' first | (with_reducible refine And.intro ?_ ?_) | (refine VLe_int ?_; omega) | (refine VLe_bool ?_; rfl) | exact VLe.refl _))
        · have q2 : (x ≤ t) = False := eq_false a2
          have hb : inP L f t i = false := by unfold inP; rw [ex, decide_eq_false a2, Bool.and_false]
          have hs := inL_f hb
          simp (disch := omega) only [spar, List.foldl, List.replicate, intsV, i2', eC, eT, ex, q1, q2, go_sem, wrap64_id, Int.tdiv_eq_ediv_of_nonneg, Int.tmod_eq_emod_of_nonneg]
          repeat' first
            | ((first | refine fnQ_pure1 ?_ ?_ | refine fnQ_pure0 ?_ ?_); (next => repeat' first | exact rvs_n | refine rvs_t ?_ | (simp [go_sem]; done)); simp only [go_sem]; (first | exact VLe.refl _ | refine VLe_int ?_ | refine VLe_bool ?_ | refine VLe_str ?_ | skip))
            | (with_reducible refine And.intro ?_ ?_)
            | with_reducible intro _
          all_goals first
            | omega
            | (rename_i hx; revert hx; simp; done)
            | (simp; done)
            | skip
          refine hK _ _ (i + 1, v, O) ⟨hi, i2⟩ (by simp only; omega) ?_
          simp only
          rw [hs]
          refine Wk.temps ?_
          (simp only [intsV, spar, List.foldl, List.replicate, go_sem, VLes_nil, VLes_cons, VLe_undef_iff, VLe_self]; try (repeat' first | (with_reducible refine And.intro ?_ ?_) | (refine VLe_int ?_; omega) | (refine VLe_bool ?_; rfl) | exact VLe.refl _))
      · have q1 : (f ≤ x) = False := eq_false a1
        have hb : inP L f t i = false := by unfold inP; rw [ex, decide_eq_false a1, Bool.false_and]
        have hs := inL_f hb
        simp (disch := omega) only [spar, List.foldl, List.replicate, intsV, i2', eC, eT, ex, q1, go_sem, wrap64_id, Int.tdiv_eq_ediv_of_nonneg, Int.tmod_eq_emod_of_nonneg]
        repeat' first
          | ((first | refine fnQ_pure1 ?_ ?_ | refine fnQ_pure0 ?_ ?_); (next => repeat' first | exact rvs_n | refine rvs_t ?_ | (simp [go_sem]; done)); simp only [go_sem]; (first | exact VLe.refl _ | refine VLe_int ?_ | refine VLe_bool ?_ | refine VLe_str ?_ | skip))
          | (with_reducible refine And.intro ?_ ?_)
          | with_reducible intro _
        all_goals first
          | omega
          | (rename_i hx; revert hx; simp; done)
          | (simp; done)
          | skip
        refine hK _ _ (i + 1, v, O) ⟨hi, i2⟩ (by simp only; omega) ?_
        simp only
        rw [hs]
        refine Wk.temps ?_
        (simp only [intsV, spar, List.foldl, List.replicate, go_sem, VLes_nil, VLes_cons, VLe_undef_iff, VLe_self]; try (repeat' first | (with_reducible refine And.intro ?_ ?_) | (refine VLe_int ?_; omega) | (refine VLe_bool ?_; rfl) | exact VLe.refl _))
    · have e : i = L.length := by omega
      subst e
      simp (disch := omega) only [spar, List.foldl, List.replicate, go_sem, wrap64_id, Int.tdiv_eq_ediv_of_nonneg, Int.tmod_eq_emod_of_nonneg]
      repeat' first
        | ((first | refine fnQ_pure1 ?_ ?_ | refine fnQ_pure0 ?_ ?_); (next => repeat' first | exact rvs_n | refine rvs_t ?_ | (simp [go_sem]; done)); simp only [go_sem]; (first | exact VLe.refl _ | refine VLe_int ?_ | refine VLe_bool ?_ | refine VLe_str ?_ | skip))
        | (with_reducible refine And.intro ?_ ?_)
        | with_reducible intro _
      all_goals first
        | omega
        | (rename_i hx; revert hx; simp; done)
        | (simp; done)
        | skip
      exact VLe_tup ⟨slOf_intsN, VLe.refl _, trivial⟩
  · have k1 : ((L.length : Int) = M.length) = False := eq_false (by omega)
    have hV : R = (9, []) := by rw [hR]; unfold inO; rw [if_pos g1]
    rw [hV]
    refine acalls_of fn16l (by simp) ?_
    simp only [List.length_cons, List.length_nil, Nat.reduceAdd, Nat.reduceSub, List.replicate, List.cons_append, List.nil_append, List.append_nil]
    simp (disch := omega) only [c16l, k1, intsV, go_sem, wrap64_id, Int.tdiv_eq_ediv_of_nonneg, Int.tmod_eq_emod_of_nonneg]
    repeat' first
      | ((first | refine fnQ_pure1 ?_ ?_ | refine fnQ_pure0 ?_ ?_); (next => repeat' first | exact rvs_n | refine rvs_t ?_ | (simp [go_sem]; done)); simp only [go_sem]; (first | exact VLe.refl _ | refine VLe_int ?_ | refine VLe_bool ?_ | refine VLe_str ?_ | skip))
      | (with_reducible refine And.intro ?_ ?_)
      | with_reducible intro _
    all_goals first
      | omega
      | (rename_i hx; revert hx; simp; done)
      | (simp; done)
      | skip
end LN
end

section
open Go Go.Proofs AF HY P48
namespace LN
set_option maxRecDepth 100000
theorem sl0_ints {f : Nat → List AV} : VLe (.sl 0 f) (intsV []) := VLe.sl_eq rfl (fun i hi => absurd hi (by simp))
theorem rightO_iff (f t : Int) : rightO f t = true ↔ 1 ≤ f ∧ f ≤ t ∧ t ≤ 4096 := by
  unfold rightO
  simp only [Bool.and_eq_true, decide_eq_true_eq]
set_option maxHeartbeats 4000000 in
theorem t17 (L M : List Int) (f t : Int) (h : List AObj) (hl : L.length ≤ 1000000) (hm : M.length ≤ 1000000) : ACalls Tryd.prog 17 [intsV L, intsV M, .int .i64 f, .int .i64 t] h (.tup [intsV (inO L M f t).2, .int .i64 (inO L M f t).1]) h := by
  obtain ⟨R, hR⟩ : ∃ R, R = inO L M f t := ⟨_, rfl⟩
  rw [← hR]
  by_cases g1 : L.length = M.length
  · have k1 : ((L.length : Int) = M.length) = True := eq_true (by omega)
    have bad : rightO f t = false → R = (2, []) := fun hr => by rw [hR]; unfold inO; rw [if_neg (fun hc => hc g1), if_pos hr]
    have nr : ¬ (1 ≤ f ∧ f ≤ t ∧ t ≤ 4096) → rightO f t = false := fun hc => by
      cases hr : rightO f t with
      | false => rfl
      | true => exact absurd ((rightO_iff f t).1 hr) hc
    by_cases b1 : f < 1
    · have k2 : (f < 1) = True := eq_true b1
      rw [bad (nr (by omega))]
      refine acalls_of fn17l (by simp) ?_
      simp only [List.length_cons, List.length_nil, Nat.reduceAdd, Nat.reduceSub, List.replicate, List.cons_append, List.nil_append, List.append_nil]
      simp (disch := omega) only [c17l, k1, k2, intsV, madeA, go_sem, wrap64_id, Int.tdiv_eq_ediv_of_nonneg, Int.tmod_eq_emod_of_nonneg]
      repeat' first
        | ((first | refine fnQ_pure1 ?_ ?_ | refine fnQ_pure0 ?_ ?_); (next => repeat' first | exact rvs_n | refine rvs_t ?_ | (simp [go_sem]; done)); simp only [go_sem]; (first | exact VLe.refl _ | refine VLe_int ?_ | refine VLe_bool ?_ | refine VLe_str ?_ | skip))
        | (with_reducible refine And.intro ?_ ?_)
        | with_reducible intro _
      all_goals first
        | omega
        | (rename_i hx; revert hx; simp; done)
        | (simp; done)
        | skip
      all_goals exact VLe_tup ⟨sl0_ints, VLe.refl _, trivial⟩
    have k2 : (f < 1) = False := eq_false b1
    by_cases b2 : t < f
    · have k3 : (t < f) = True := eq_true b2
      rw [bad (nr (by omega))]
      refine acalls_of fn17l (by simp) ?_
      simp only [List.length_cons, List.length_nil, Nat.reduceAdd, Nat.reduceSub, List.replicate, List.cons_append, List.nil_append, List.append_nil]
      simp (disch := omega) only [c17l, k1, k2, k3, intsV, madeA, go_sem, wrap64_id, Int.tdiv_eq_ediv_of_nonneg, Int.tmod_eq_emod_of_nonneg]
      repeat' first
        | ((first | refine fnQ_pure1 ?_ ?_ | refine fnQ_pure0 ?_ ?_); (next => repeat' first | exact rvs_n | refine rvs_t ?_ | (simp [go_sem]; done)); simp only [go_sem]; (first | exact VLe.refl _ | refine VLe_int ?_ | refine VLe_bool ?_ | refine VLe_str ?_ | skip))
        | (with_reducible refine And.intro ?_ ?_)
        | with_reducible intro _
      all_goals first
        | omega
        | (rename_i hx; revert hx; simp; done)
        | (simp; done)
        | skip
      all_goals exact VLe_tup ⟨sl0_ints, VLe.refl _, trivial⟩
    have k3 : (t < f) = False := eq_false b2
    by_cases b3 : 4096 < t
    · have k4 : (4096 < t) = True := eq_true b3
      rw [bad (nr (by omega))]
      refine acalls_of fn17l (by simp) ?_
      simp only [List.length_cons, List.length_nil, Nat.reduceAdd, Nat.reduceSub, List.replicate, List.cons_append, List.nil_append, List.append_nil]
      simp (disch := omega) only [c17l, k1, k2, k3, k4, intsV, madeA, go_sem, wrap64_id, Int.tdiv_eq_ediv_of_nonneg, Int.tmod_eq_emod_of_nonneg]
      repeat' first
        | ((first | refine fnQ_pure1 ?_ ?_ | refine fnQ_pure0 ?_ ?_); (next => repeat' first | exact rvs_n | refine rvs_t ?_ | (simp [go_sem]; done)); simp only [go_sem]; (first | exact VLe.refl _ | refine VLe_int ?_ | refine VLe_bool ?_ | refine VLe_str ?_ | skip))
        | (with_reducible refine And.intro ?_ ?_)
        | with_reducible intro _
      all_goals first
        | omega
        | (rename_i hx; revert hx; simp; done)
        | (simp; done)
        | skip
      all_goals exact VLe_tup ⟨sl0_ints, VLe.refl _, trivial⟩
    have k4 : (4096 < t) = False := eq_false b3
    have hr : rightO f t = true := (rightO_iff f t).2 (by omega)
    have hV : R = (0, inL L f t L.length) := by rw [hR]; unfold inO; rw [if_neg (fun hc => hc g1), if_neg (by rw [hr]; simp)]
    rw [hV]
    refine acalls_of fn17l (by simp) ?_
    simp only [List.length_cons, List.length_nil, Nat.reduceAdd, Nat.reduceSub, List.replicate, List.cons_append, List.nil_append, List.append_nil]
    simp (disch := omega) only [c17l, k1, k2, k3, k4, intsV, madeA, go_sem, wrap64_id, Int.tdiv_eq_ediv_of_nonneg, Int.tmod_eq_emod_of_nonneg]
    repeat' first
      | ((first | refine fnQ_pure1 ?_ ?_ | refine fnQ_pure0 ?_ ?_); (next => repeat' first | exact rvs_n | refine rvs_t ?_ | (simp [go_sem]; done)); simp only [go_sem]; (first | exact VLe.refl _ | refine VLe_int ?_ | refine VLe_bool ?_ | refine VLe_str ?_ | skip))
      | (with_reducible refine And.intro ?_ ?_)
      | with_reducible intro _
    all_goals first
      | omega
      | (rename_i hx; revert hx; simp; done)
      | (simp; done)
      | skip
    refine loop_of (T := fun i : Nat × Nat × AObj => spar 56 [(0, intsV L), (2, .int .i64 f), (3, .int .i64 t), (10, .osl (h.length + 3) i.2.1 1 0 (inL L f t i.1).length), (11, .int .i64 i.1)])
      (H := fun i => h ++ [.emp 1, .emp 0, .emp 0, .mem i.2.1 3 (intsC (inL L f t i.1)), i.2.2, .emp 0])
      (inv := fun i => i.1 ≤ L.length ∧ site [i.2.2] 0 = true) (m := fun i => L.length - i.1) (0, 1, .emp 0) ⟨Nat.zero_le _, rfl⟩ (Wk.temps ?_) ?_
    · (simp only [intsV, spar, List.foldl, List.replicate, go_sem, VLes_nil, VLes_cons, VLe_undef_iff, VLe_self]; try (repeat' first | (with_reducible refine And.intro ?_ ?_) | (refine VLe_int ?_; omega) | (refine VLe_bool ?_; rfl) | exact VLe.refl _))
    rintro ⟨i, v, O⟩ ⟨i1, i2⟩ K hK
    simp only at i1 i2 hK
    have i2' : ∀ m, site (O :: m) 0 = true := fun _ => i2
    have eN := inL_len L f t i
    have eC := intsC_len (inL L f t i)
    have eT : List.take (inL L f t i).length (intsC (inL L f t i)) = intsC (inL L f t i) := List.take_of_length_le (by omega)
    by_cases hi : i < L.length
    · obtain ⟨x, hx⟩ : ∃ x, x = L.getD i 0 := ⟨_, rfl⟩
      have ex := hx.symm
      have q0 : ((i : Int) < L.length) = True := eq_true (by omega)
      by_cases a1 : f ≤ x
      · have q1 : (f ≤ x) = True := eq_true a1
        by_cases a2 : x ≤ t
        · have q2 : (x ≤ t) = True := eq_true a2
          have hb : inP L f t i = true := by unfold inP; rw [ex, decide_eq_true a1, decide_eq_true a2]; rfl
          have hs := inL_t hb
          have hsn : intsC (inL L f t (i + 1)) = intsC (inL L f t i) ++ [.int .i64 (i : Int)] := by rw [hs, intsC_snoc]
          simp (disch := omega) only [spar, List.foldl, List.replicate, intsV, i2', eC, eT, ex, q0, q1, q2, go_sem, wrap64_id, Int.tdiv_eq_ediv_of_nonneg, Int.tmod_eq_emod_of_nonneg]
          repeat' first
            | ((first | refine fnQ_pure1 ?_ ?_ | refine fnQ_pure0 ?_ ?_); (next => repeat' first | exact rvs_n | refine rvs_t ?_ | (simp [go_sem]; done)); simp only [go_sem]; (first | exact VLe.refl _ | refine VLe_int ?_ | refine VLe_bool ?_ | refine VLe_str ?_ | skip))
            | (with_reducible refine And.intro ?_ ?_)
            | with_reducible intro _
          all_goals first
            | omega
            | contradiction
            | (simp; done)
            | skip
          refine hK _ _ (i + 1, v + 1, .mem (verOf (some O) + 1) 3 (AV.int IntKind.i64 ↑i :: List.drop 1 (madeA [AV.int IntKind.i64 0] 1))) ⟨hi, rfl⟩ (by simp only; omega) ?_
          simp only
          rw [hsn, hs, List.length_append, List.length_singleton]
          refine Wk.temps ?_
          (simp only [intsV, spar, List.foldl, List.replicate, go_sem, VLes_nil, VLes_cons, VLe_undef_iff, VLe_self]; try (repeat' first | (with_reducible refine And.intro ?_ ?_) | (refine VLe_int ?_; omega) | (refine VLe_bool ?_; rfl) | exact VLe.refl _))
        · have q2 : (x ≤ t) = False := eq_false a2
          have hb : inP L f t i = false := by unfold inP; rw [ex, decide_eq_false a2, Bool.and_false]
          have hs := inL_f hb
          simp (disch := omega) only [spar, List.foldl, List.replicate, intsV, i2', eC, eT, ex, q0, q1, q2, go_sem, wrap64_id, Int.tdiv_eq_ediv_of_nonneg, Int.tmod_eq_emod_of_nonneg]
          repeat' first
            | ((first | refine fnQ_pure1 ?_ ?_ | refine fnQ_pure0 ?_ ?_); (next => repeat' first | exact rvs_n | refine rvs_t ?_ | (simp [go_sem]; done)); simp only [go_sem]; (first | exact VLe.refl _ | refine VLe_int ?_ | refine VLe_bool ?_ | refine VLe_str ?_ | skip))
            | (with_reducible refine And.intro ?_ ?_)
            | with_reducible intro _
          all_goals first
            | omega
            | (rename_i hx; revert hx; simp; done)
            | (simp; done)
            | skip
          refine hK _ _ (i + 1, v, O) ⟨hi, i2⟩ (by simp only; omega) ?_
          simp only
          rw [hs]
          refine Wk.temps ?_
          (simp only [intsV, spar, List.foldl, List.replicate, go_sem, VLes_nil, VLes_cons, VLe_undef_iff, VLe_self]; try (repeat' first | (with_reducible refine And.intro ?_ ?_) | (refine VLe_int ?_; omega) | (refine VLe_bool ?_; rfl) | exact VLe.refl _))
      · have q1 : (f ≤ x) = False := eq_false a1
        have hb : inP L f t i = false := by unfold inP; rw [ex, decide_eq_false a1, Bool.false_and]
        have hs := inL_f hb
        simp (disch := omega) only [spar, List.foldl, List.replicate, intsV, i2', eC, eT, ex, q0, q1, go_sem, wrap64_id, Int.tdiv_eq_ediv_of_nonneg, Int.tmod_eq_emod_of_nonneg]
        repeat' first
          | ((first | refine fnQ_pure1 ?_ ?_ | refine fnQ_pure0 ?_ ?_); (next => repeat' first | exact rvs_n | refine rvs_t ?_ | (simp [go_sem]; done)); simp only [go_sem]; (first | exact VLe.refl _ | refine VLe_int ?_ | refine VLe_bool ?_ | refine VLe_str ?_ | skip))
          | (with_reducible refine And.intro ?_ ?_)
          | with_reducible intro _
        all_goals first
          | omega
          | (rename_i hx; revert hx; simp; done)
          | (simp; done)
          | skip
        refine hK _ _ (i + 1, v, O) ⟨hi, i2⟩ (by simp only; omega) ?_
        simp only
        rw [hs]
        refine Wk.temps ?_
        (simp only [intsV, spar, List.foldl, List.replicate, go_sem, VLes_nil, VLes_cons, VLe_undef_iff, VLe_self]; try (repeat' first | (with_reducible refine And.intro ?_ ?_) | (refine VLe_int ?_; omega) | (refine VLe_bool ?_; rfl) | exact VLe.refl _))
    · have e : i = L.length := by omega
      subst e
      simp (disch := omega) only [spar, List.foldl, List.replicate, intsV, go_sem, wrap64_id, Int.tdiv_eq_ediv_of_nonneg, Int.tmod_eq_emod_of_nonneg]
      repeat' first
        | ((first | refine fnQ_pure1 ?_ ?_ | refine fnQ_pure0 ?_ ?_); (next => repeat' first | exact rvs_n | refine rvs_t ?_ | (simp [go_sem]; done)); simp only [go_sem]; (first | exact VLe.refl _ | refine VLe_int ?_ | refine VLe_bool ?_ | refine VLe_str ?_ | skip))
        | (with_reducible refine And.intro ?_ ?_)
        | with_reducible intro _
      all_goals first
        | omega
        | (rename_i hx; revert hx; simp; done)
        | (simp; done)
        | skip
      all_goals
        (rw [if_pos (by omega)]
         exact VLe_tup ⟨intsV_of rfl, VLe.refl _, trivial⟩)
  · have k1 : ((L.length : Int) = M.length) = False := eq_false (by omega)
    have hV : R = (9, []) := by rw [hR]; unfold inO; rw [if_pos g1]
    rw [hV]
    refine acalls_of fn17l (by simp) ?_
    simp only [List.length_cons, List.length_nil, Nat.reduceAdd, Nat.reduceSub, List.replicate, List.cons_append, List.nil_append, List.append_nil]
    simp (disch := omega) only [c17l, k1, intsV, madeA, go_sem, wrap64_id, Int.tdiv_eq_ediv_of_nonneg, Int.tmod_eq_emod_of_nonneg]
    repeat' first
      | ((first | refine fnQ_pure1 ?_ ?_ | refine fnQ_pure0 ?_ ?_); (next => repeat' first | exact rvs_n | refine rvs_t ?_ | (simp [go_sem]; done)); simp only [go_sem]; (first | exact VLe.refl _ | refine VLe_int ?_ | refine VLe_bool ?_ | refine VLe_str ?_ | skip))
      | (with_reducible refine And.intro ?_ ?_)
      | with_reducible intro _
    all_goals first
      | omega
      | (rename_i hx; revert hx; simp; done)
      | (simp; done)
      | skip
    all_goals exact VLe_tup ⟨sl0_ints, VLe.refl _, trivial⟩
end LN
end

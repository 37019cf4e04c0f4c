import Derived.Test.YtonpflblcnpegaaDoorE17
set_option linter.all false
set_option linter.unusedSimpArgs false
set_option linter.unusedVariables false
set_option linter.unusedSectionVars false
open Go Go.Proofs AF HY
namespace HY
set_option maxRecDepth 100000
/-- Are two lists of strings, given by their elements, equal? -/
def eqS (n m : Nat) (f g : Nat → List UInt8) : Bool := decide (n = m) && (List.range n).all fun i => decide (f i = g i)
/-- Does a pattern stand at a place of units? -/
def matchAt (pat l : List (List UInt8)) (at_ : Nat) : Bool := (List.range pat.length).all fun i => decide (l.getD (at_ + i) [] = pat.getD i [])
def positions (pat l : List (List UInt8)) : List Nat := (List.range (l.length + 1 - pat.length)).filter (matchAt pat l)
/-- Levels are raised from a place on. -/
def addAt (all : List Int) (at_ : Nat) : List Int → List Int
  | [] => all
  | x :: r => addAt (all.set at_ (max (all.getD at_ 0) x)) (at_ + 1) r
def addPat (l : List (List UInt8)) (all : List Int) (p : Pat) : List Int := (positions (clus (fold p.letters)) l).foldl (fun a i => addAt a i p.levels) all
def unitsOf (w : List UInt8) : List (List UInt8) := [46] :: (clus (fold w) ++ [[46]])
def allLevels (ps : List Pat) (l : List (List UInt8)) : List Int := ps.foldl (addPat l) (List.replicate (l.length + 1) 0)
def levelsOf (ps : List Pat) (w : List UInt8) : List Int := ((allLevels ps (unitsOf w)).drop 2).take ((unitsOf w).length - 1 - 2)
theorem addAt_len (r : List Int) : ∀ (all : List Int) (i : Nat), (addAt all i r).length = all.length := by
  induction r with
  | nil => intro all i; rfl
  | cons x r ih => intro all i; simp only [addAt]; rw [ih, List.length_set]
theorem foldl_len {α : Type} {f : List Int → α → List Int} (hf : ∀ a x, (f a x).length = a.length) (l : List α) : ∀ all, (l.foldl f all).length = all.length := by
  induction l with
  | nil => intro all; rfl
  | cons x l ih => intro all; rw [List.foldl_cons, ih, hf]
theorem addPat_len (l : List (List UInt8)) (all : List Int) (p : Pat) : (addPat l all p).length = all.length := foldl_len (fun a x => addAt_len _ _ _) _ _
theorem filter_at {p : Nat → Bool} {N i : Nat} (h : i < N) : ∃ rest, (List.range N).filter p = (List.range (i + 1)).filter p ++ rest := by
  obtain ⟨r, rfl⟩ : ∃ r, N = i + 1 + r := ⟨N - (i + 1), by omega⟩
  exact ⟨_, by rw [List.range_add, List.filter_append]⟩
theorem filter_succ_t {p : Nat → Bool} {i : Nat} (h : p i = true) : (List.range (i + 1)).filter p = (List.range i).filter p ++ [i] := by
  rw [List.range_succ, List.filter_append]; simp [h]
theorem filter_succ_f {p : Nat → Bool} {i : Nat} (h : p i = false) : (List.range (i + 1)).filter p = (List.range i).filter p := by
  rw [List.range_succ, List.filter_append]; simp [h]
theorem filter_get {p : Nat → Bool} {N i : Nat} (h : i < N) (hp : p i = true) : ∃ (hj : ((List.range i).filter p).length < ((List.range N).filter p).length), ((List.range N).filter p)[((List.range i).filter p).length] = i := by
  obtain ⟨rest, e⟩ := filter_at (p := p) h
  rw [filter_succ_t hp, List.append_assoc] at e
  refine ⟨by rw [e]; simp, ?_⟩
  simp only [e]
  rw [List.getElem_append_right (Nat.le_refl _)]
  simp
theorem all_take {f g : Nat → List UInt8} {n i : Nat} (h : ∀ j, j < n → f j = g j) : ((List.range n).all fun i => decide (f i = g i)) = true := by
  rw [List.all_eq_true]
  intro j hj
  simpa using h j (by simpa using hj)
theorem all_false {f g : Nat → List UInt8} {n i : Nat} (hi : i < n) (h : ¬ f i = g i) : ((List.range n).all fun i => decide (f i = g i)) = false := by
  rw [Bool.eq_false_iff]
  intro hc
  rw [List.all_eq_true] at hc
  have := hc i (by simpa using hi)
  simp at this
  exact h this
theorem t143 (n m : Nat) (f g : Nat → List UInt8) (h : List AObj) (hn : n ≤ 1000000000) : ACalls Tryd.prog 34 [.sl n fun i => [.str (f i)], .sl m fun i => [.str (g i)]] h (.bool (eqS n m f g)) h := by
  unfold eqS
  by_cases g0 : n = m
  · subst g0
    refine acalls_of fn34d (by simp) ?_
    simp only [List.length_cons, List.length_nil, Nat.reduceAdd, Nat.reduceSub, List.replicate, List.cons_append, List.nil_append, List.append_nil]
    simp (disch := omega) only [c34d, go_sem, wrap64_id, Int.tdiv_eq_ediv_of_nonneg, Int.tmod_eq_emod_of_nonneg]
    repeat' first
      | ((first | refine fnQ_pure1 ?_ ?_ | refine fnQ_pure0 ?_ ?_); (next => repeat' first | exact rvs_n | refine rvs_t ?_ | (simp [go_sem]; done)); simp only [go_sem]; (first | exact VLe.refl _ | refine VLe_int ?_ | refine VLe_bool ?_ | refine VLe_str ?_ | skip))
      | (with_reducible refine And.intro ?_ ?_)
      | with_reducible intro _
    all_goals first
      | omega
      | (rename_i hx; revert hx; simp; done)
      | (simp; done)
      | skip
    refine loop_of (T := fun i : Nat => spar 26 [(0, .sl n fun i => [.str (f i)]), (1, .sl n fun i => [.str (g i)]), (12, .int .i64 n), (13, .int .i64 i)]) (H := fun _ => h) (inv := fun i => i ≤ n ∧ ∀ j, j < i → f j = g j) (m := fun i => n - i) 0 ⟨by omega, by omega⟩ (Wk.temps ?_) ?_
    · (simp only [spar, List.foldl, List.replicate, go_sem, VLes_nil, VLes_cons, VLe_undef_iff, VLe_self]; try (repeat' first | (with_reducible refine And.intro ?_ ?_) | (refine VLe_int ?_; omega) | (refine VLe_bool ?_; rfl) | exact VLe.refl _))
    rintro i ⟨i1, i2⟩ K hK
    by_cases hi : i < n
    · by_cases hb : f i = g i
      · have k1 : (f i = g i) = True := eq_true hb
        simp (disch := omega) only [spar, List.foldl, List.replicate, k1, go_sem, wrap64_id, Int.tdiv_eq_ediv_of_nonneg, Int.tmod_eq_emod_of_nonneg]
        repeat' first
          | ((first | refine fnQ_pure1 ?_ ?_ | refine fnQ_pure0 ?_ ?_); (next => repeat' first | exact rvs_n | refine rvs_t ?_ | (simp [go_sem]; done)); simp only [go_sem]; (first | exact VLe.refl _ | refine VLe_int ?_ | refine VLe_bool ?_ | refine VLe_str ?_ | skip))
          | (with_reducible refine And.intro ?_ ?_)
          | with_reducible intro _
        all_goals first
          | omega
          | (rename_i hx; revert hx; simp; done)
          | (simp; done)
          | skip
        refine hK _ _ (i + 1) ⟨by omega, fun j hj => ?_⟩ (by omega) (Wk.temps ?_)
        · by_cases e : j = i
          · subst e; exact hb
          · exact i2 j (by omega)
        · (simp only [spar, List.foldl, List.replicate, go_sem, VLes_nil, VLes_cons, VLe_undef_iff, VLe_self]; try (repeat' first | (with_reducible refine And.intro ?_ ?_) | (refine VLe_int ?_; omega) | (refine VLe_bool ?_; rfl) | exact VLe.refl _))
      · have k1 : (f i = g i) = False := eq_false hb
        rw [all_false hi hb]
        simp (disch := omega) only [spar, List.foldl, List.replicate, k1, go_sem, wrap64_id, Int.tdiv_eq_ediv_of_nonneg, Int.tmod_eq_emod_of_nonneg]
        repeat' first
          | ((first | refine fnQ_pure1 ?_ ?_ | refine fnQ_pure0 ?_ ?_); (next => repeat' first | exact rvs_n | refine rvs_t ?_ | (simp [go_sem]; done)); simp only [go_sem]; (first | exact VLe.refl _ | refine VLe_int ?_ | refine VLe_bool ?_ | refine VLe_str ?_ | skip))
          | (with_reducible refine And.intro ?_ ?_)
          | with_reducible intro _
        all_goals first
          | omega
          | (rename_i hx; revert hx; simp; done)
          | (simp; done)
          | skip
    · have e : i = n := by omega
      subst e
      rw [all_take (i := 0) i2]
      simp (disch := omega) only [spar, List.foldl, List.replicate, go_sem, wrap64_id, Int.tdiv_eq_ediv_of_nonneg, Int.tmod_eq_emod_of_nonneg]
      repeat' first
        | ((first | refine fnQ_pure1 ?_ ?_ | refine fnQ_pure0 ?_ ?_); (next => repeat' first | exact rvs_n | refine rvs_t ?_ | (simp [go_sem]; done)); simp only [go_sem]; (first | exact VLe.refl _ | refine VLe_int ?_ | refine VLe_bool ?_ | refine VLe_str ?_ | skip))
        | (with_reducible refine And.intro ?_ ?_)
        | with_reducible intro _
      all_goals first
        | omega
        | (rename_i hx; revert hx; simp; done)
        | (simp; done)
        | skip
  · have k0 : ((n : Int) = m) = False := eq_false (by omega)
    rw [decide_eq_false g0]
    refine acalls_of fn34d (by simp) ?_
    simp only [List.length_cons, List.length_nil, Nat.reduceAdd, Nat.reduceSub, List.replicate, List.cons_append, List.nil_append, List.append_nil]
    simp (disch := omega) only [c34d, k0, go_sem, wrap64_id, Int.tdiv_eq_ediv_of_nonneg, Int.tmod_eq_emod_of_nonneg]
    repeat' first
      | ((first | refine fnQ_pure1 ?_ ?_ | refine fnQ_pure0 ?_ ?_); (next => repeat' first | exact rvs_n | refine rvs_t ?_ | (simp [go_sem]; done)); simp only [go_sem]; (first | exact VLe.refl _ | refine VLe_int ?_ | refine VLe_bool ?_ | refine VLe_str ?_ | skip))
      | (with_reducible refine And.intro ?_ ?_)
      | with_reducible intro _
    all_goals first
      | omega
      | (rename_i hx; revert hx; simp; done)
      | (simp; done)
      | skip
theorem fold_len (s : List UInt8) : (fold s).length = s.length := by simp [fold]
theorem t136 (s : List UInt8) (h : List AObj) (hs : s.length ≤ 1000000000) : ACalls Tryd.prog 62 [.str s] h (strs (clus (fold s))) h := by
  refine acalls_of fn62d (by simp) ?_
  simp only [List.length_cons, List.length_nil, Nat.reduceAdd, Nat.reduceSub, List.replicate, List.cons_append, List.nil_append, List.append_nil]
  simp (disch := omega) only [c62d, go_sem, wrap64_id, Int.tdiv_eq_ediv_of_nonneg, Int.tmod_eq_emod_of_nonneg]
  repeat' first
    | ((first | refine callA_pure (t141 s _ hs) ?_ ?_ | refine callA_pure (t105 (fold s) _ (by rw [fold_len]; exact hs)) ?_ ?_); (next => repeat' first | exact flags_n | refine flags_c (by first | rfl | assumption) ?_); simp (disch := omega) only [strs, go_sem, wrap64_id, Int.tdiv_eq_ediv_of_nonneg, Int.tmod_eq_emod_of_nonneg])
    | ((first | refine callG_pure (fun e => ⟨?_, t141 s _ hs⟩) ?_ | refine callG_pure (fun e => ⟨?_, t105 (fold s) _ (by rw [fold_len]; exact hs)⟩) ?_); (next => repeat' first | exact flags_n | refine flags_c (by first | rfl | assumption) ?_); simp (disch := omega) only [strs, go_sem, wrap64_id, Int.tdiv_eq_ediv_of_nonneg, Int.tmod_eq_emod_of_nonneg])
    | ((first | refine fnQ_pure1 ?_ ?_ | refine fnQ_pure0 ?_ ?_); (next => repeat' first | exact rvs_n | refine rvs_t ?_ | (simp [go_sem]; done)); simp only [go_sem]; (first | exact VLe.refl _ | refine VLe_int ?_ | refine VLe_bool ?_ | refine VLe_str ?_ | skip))
    | (with_reducible refine And.intro ?_ ?_)
    | with_reducible intro _
  all_goals first
    | omega
    | (rename_i hx; revert hx; simp; done)
    | (simp; done)
    | skip
def placesF (a b : List (List UInt8)) : AV := .fn (.func 98) [] [.ip [strs a], .ip [strs b]]
theorem flag_placesF (a b : List (List UInt8)) : (placesF a b).flag = true := rfl
theorem strip_placesF (a b : List (List UInt8)) : (placesF a b).strip = placesF a b := rfl
attribute [go_sem] flag_placesF strip_placesF
theorem t138 (a b : List (List UInt8)) (h : List AObj) : ACalls Tryd.prog 75 [strs a, strs b] h (placesF a b) h := by
  refine acalls_of fn75d (by simp) ?_
  simp only [List.length_cons, List.length_nil, Nat.reduceAdd, Nat.reduceSub, List.replicate, List.cons_append, List.nil_append, List.append_nil]
  simp (disch := omega) only [c75d, strs, go_sem, wrap64_id, Int.tdiv_eq_ediv_of_nonneg, Int.tmod_eq_emod_of_nonneg]
  repeat' first
    | ((first | refine fnQ_pure1 ?_ ?_ | refine fnQ_pure0 ?_ ?_); (next => repeat' first | exact rvs_n | refine rvs_t ?_ | (simp [go_sem]; done)); simp only [go_sem]; (first | exact VLe.refl _ | refine VLe_int ?_ | refine VLe_bool ?_ | refine VLe_str ?_ | skip))
    | (with_reducible refine And.intro ?_ ?_)
    | with_reducible intro _
  all_goals first
    | omega
    | (rename_i hx; revert hx; simp; done)
    | (simp; done)
    | skip
def posX (a b : List (List UInt8)) : List (List AV) := (positions a b).map fun (i : Nat) => [.int .i64 (i : Int)]
theorem match_eqS (pat l : List (List UInt8)) (i : Nat) : eqS pat.length pat.length (fun k => l.getD (i + k) []) (fun k => pat.getD k []) = matchAt pat l i := by simp [eqS, matchAt]
theorem it142 (pat l : List (List UInt8)) (hp : pat.length ≤ 1000000000) (hl : l.length ≤ 1000000000) : Iter Tryd.prog 98 [.ip [strs pat], .ip [strs l]] (posX pat l) := by
  intro h ts L S E hS hE body start hts
  refine acallsQ_of fn98d (by simp) ?_
  simp only [List.length_cons, List.length_nil, Nat.reduceAdd, Nat.reduceSub, List.replicate, List.cons_append, List.nil_append, List.append_nil]
  simp (disch := omega) only [c98d, strs, go_sem, wrap64_id, Int.tdiv_eq_ediv_of_nonneg, Int.tmod_eq_emod_of_nonneg]
  repeat' first
    | ((first | refine fnQ_pure1 ?_ ?_ | refine fnQ_pure0 ?_ ?_); (next => repeat' first | exact rvs_n | refine rvs_t ?_ | (simp [go_sem]; done)); simp only [go_sem]; (first | exact VLe.refl _ | refine VLe_int ?_ | refine VLe_bool ?_ | refine VLe_str ?_ | skip))
    | (with_reducible refine And.intro ?_ ?_)
    | with_reducible intro _
  all_goals first
    | omega
    | (rename_i hx; revert hx; simp; done)
    | (simp; done)
    | skip
  refine loop_of (T := fun i : Nat × List AObj => spar 29 [(0, .yld h.length), (1, .ip [strs pat]), (2, .ip [strs l]), (4, .int .i64 i.1)]) (H := fun i => i.2 ++ [.lp .ready ts L])
    (inv := fun i => S ((List.range i.1).filter (matchAt pat l)).length i.2 ∧ i.1 ≤ l.length + 1 - pat.length) (m := fun i => l.length + 1 - i.1) (0, h) ⟨start, by simp⟩ (Wk.temps ?_) ?_
  · (simp only [strs, spar, List.foldl, List.replicate, go_sem, VLes_nil, VLes_cons, VLe_undef_iff, VLe_self]; try (repeat' first | (with_reducible refine And.intro ?_ ?_) | (refine VLe_int ?_; omega) | (refine VLe_bool ?_; rfl) | exact VLe.refl _))
  rintro ⟨i, hh⟩ ⟨i1, i2⟩ K hK
  simp only at i1 i2 hK
  obtain ⟨hlen, hlow⟩ := hS _ _ i1
  have he := match_eqS pat l i
  have hx : ((i : Int) + (pat.length : Int)).toNat - i = pat.length := by omega
  by_cases hi : i < l.length + 1 - pat.length
  · have k0 : ((i : Int) + (pat.length : Int) ≤ (l.length : Int)) = True := eq_true (by omega)
    have c143 := fun h => t143 pat.length pat.length (fun k => l.getD (i + k) []) (fun k => pat.getD k []) h hp
    cases hb : matchAt pat l i with
    | false =>
      rw [he, hb] at c143
      rw [← filter_succ_f hb] at i1
      simp (disch := omega) only [spar, List.foldl, List.replicate, strs, k0, hx, go_sem, wrap64_id, Int.tdiv_eq_ediv_of_nonneg, Int.tmod_eq_emod_of_nonneg]
      repeat' first
        | ((first | refine callA_pure (c143 _) ?_ ?_); (next => repeat' first | exact flags_n | refine flags_c (by first | rfl | assumption) ?_); simp (disch := omega) only [strs, k0, hx, go_sem, wrap64_id, Int.tdiv_eq_ediv_of_nonneg, Int.tmod_eq_emod_of_nonneg])
        | ((first | refine callG_pure (fun e => ⟨?_, c143 _⟩) ?_); (next => repeat' first | exact flags_n | refine flags_c (by first | rfl | assumption) ?_); simp (disch := omega) only [strs, k0, hx, go_sem, wrap64_id, Int.tdiv_eq_ediv_of_nonneg, Int.tmod_eq_emod_of_nonneg])
        | ((first | refine fnQ_pure1 ?_ ?_ | refine fnQ_pure0 ?_ ?_); (next => repeat' first | exact rvs_n | refine rvs_t ?_ | (simp [go_sem]; done)); simp only [go_sem]; (first | exact VLe.refl _ | refine VLe_int ?_ | refine VLe_bool ?_ | refine VLe_str ?_ | skip))
        | (with_reducible refine And.intro ?_ ?_)
        | with_reducible intro _
      all_goals first
        | omega
        | (rename_i hx; revert hx; simp; done)
        | (simp; done)
        | skip
      refine hK _ _ (i + 1, hh) ⟨i1, by simp only; omega⟩ (by simp only; omega) (Wk.temps ?_)
      (simp only [strs, spar, List.foldl, List.replicate, go_sem, VLes_nil, VLes_cons, VLe_undef_iff, VLe_self]; try (repeat' first | (with_reducible refine And.intro ?_ ?_) | (refine VLe_int ?_; omega) | (refine VLe_bool ?_; rfl) | exact VLe.refl _))
    | true =>
      rw [he, hb] at c143
      obtain ⟨hj, hget⟩ := filter_get hi hb
      have hb' := body _ hh [] (by simpa [posX, positions] using hj) i1
      have hxx : (posX pat l)[((List.range i).filter (matchAt pat l)).length]'(by simpa [posX, positions] using hj) = [.int .i64 (i : Int)] := by
        simp only [posX, positions, List.getElem_map, hget]
      rw [hxx] at hb'
      simp (disch := omega) only [spar, List.foldl, List.replicate, strs, k0, hx, go_sem, wrap64_id, Int.tdiv_eq_ediv_of_nonneg, Int.tmod_eq_emod_of_nonneg]
      repeat' first
        | ((first | refine callA_pure (c143 _) ?_ ?_); (next => repeat' first | exact flags_n | refine flags_c (by first | rfl | assumption) ?_); simp (disch := omega) only [strs, k0, hx, go_sem, wrap64_id, Int.tdiv_eq_ediv_of_nonneg, Int.tmod_eq_emod_of_nonneg])
        | ((first | refine callG_pure (fun e => ⟨?_, c143 _⟩) ?_); (next => repeat' first | exact flags_n | refine flags_c (by first | rfl | assumption) ?_); simp (disch := omega) only [strs, k0, hx, go_sem, wrap64_id, Int.tdiv_eq_ediv_of_nonneg, Int.tmod_eq_emod_of_nonneg])
        | ((first | refine fnQ_pure1 ?_ ?_ | refine fnQ_pure0 ?_ ?_); (next => repeat' first | exact rvs_n | refine rvs_t ?_ | (simp [go_sem]; done)); simp only [go_sem]; (first | exact VLe.refl _ | refine VLe_int ?_ | refine VLe_bool ?_ | refine VLe_str ?_ | skip))
        | (with_reducible refine And.intro ?_ ?_)
        | with_reducible intro _
      all_goals first
        | omega
        | (rename_i hx; revert hx; simp; done)
        | (simp; done)
        | skip
      all_goals first
        | exact ⟨.ready, ts, L, getO_i hlen⟩
        | skip
      refine AYield.mono ?_ hb'
      rintro v h' ⟨hh', ⟨rfl, hn, rfl⟩ | ⟨st, rfl, hs', rfl⟩⟩
      · simp (disch := omega) only [go_sem, wrap64_id, Int.tdiv_eq_ediv_of_nonneg, Int.tmod_eq_emod_of_nonneg]
        repeat' first
          | ((first | refine fnQ_pure1 ?_ ?_ | refine fnQ_pure0 ?_ ?_); (next => repeat' first | exact rvs_n | refine rvs_t ?_ | (simp [go_sem]; done)); simp only [go_sem]; (first | exact VLe.refl _ | refine VLe_int ?_ | refine VLe_bool ?_ | refine VLe_str ?_ | skip))
          | (with_reducible refine And.intro ?_ ?_)
          | with_reducible intro _
        all_goals first
          | omega
          | (rename_i hx; revert hx; simp; done)
          | (simp; done)
          | skip
        refine hK _ _ (i + 1, hh') ⟨?_, by simp only; omega⟩ (by simp only; omega) (Wk.temps ?_)
        · simp only
          rw [filter_succ_t hb, List.length_append]
          exact hn
        · (simp only [strs, spar, List.foldl, List.replicate, go_sem, VLes_nil, VLes_cons, VLe_undef_iff, VLe_self]; try (repeat' first | (with_reducible refine And.intro ?_ ?_) | (refine VLe_int ?_; omega) | (refine VLe_bool ?_; rfl) | exact VLe.refl _))
      · simp (disch := omega) only [go_sem, wrap64_id, Int.tdiv_eq_ediv_of_nonneg, Int.tmod_eq_emod_of_nonneg]
        obtain ⟨r1, r2⟩ := (hE _ _ hs').ret (L := L) st hts
        exact fnQ_eff0 trivial r1 r2 ⟨_, .inr ⟨st, hs', rfl⟩⟩ (VLe.refl _)
  · have k0 : ((i : Int) + (pat.length : Int) ≤ (l.length : Int)) = False := eq_false (by omega)
    have e : i = l.length + 1 - pat.length := by omega
    simp (disch := omega) only [spar, List.foldl, List.replicate, strs, k0, go_sem, wrap64_id, Int.tdiv_eq_ediv_of_nonneg, Int.tmod_eq_emod_of_nonneg]
    repeat' first
      | ((first | refine fnQ_pure1 ?_ ?_ | refine fnQ_pure0 ?_ ?_); (next => repeat' first | exact rvs_n | refine rvs_t ?_ | (simp [go_sem]; done)); simp only [go_sem]; (first | exact VLe.refl _ | refine VLe_int ?_ | refine VLe_bool ?_ | refine VLe_str ?_ | skip))
      | (with_reducible refine And.intro ?_ ?_)
      | with_reducible intro _
    all_goals first
      | omega
      | (rename_i hx; revert hx; simp; done)
      | (simp; done)
      | skip
    subst e
    obtain ⟨r1, r2⟩ := (hS _ _ i1).ret (L := L) .ready hts
    exact fnQ_effn0 trivial r1 r2 ⟨hh, .inl ⟨by simpa [posX, positions] using i1, rfl⟩⟩ (VLe.refl _)
end HY

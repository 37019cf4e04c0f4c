import Derived.Test.YtbccfgnihmfgmaaG8
set_option linter.all false
set_option linter.unusedSimpArgs false
set_option linter.unusedVariables false
set_option linter.unusedSectionVars false
section
/-! the text BN -/
open Go Go.Proofs AF P48
set_option maxRecDepth 100000
def minTo (ps : List Int) : Nat → Int
  | 0 => ps.getD 0 0
  | i + 1 => min (minTo ps i) (ps.getD (i + 1) 0)
theorem minTo_iff (ps : List Int) (m : Int) : ∀ i, minTo ps i < m ↔ ∃ j, j ≤ i ∧ ps.getD j 0 < m := by
  intro i
  induction i with
  | zero =>
    simp only [minTo]
    constructor
    · intro h; exact ⟨0, by omega, h⟩
    · rintro ⟨j, h1, h2⟩
      have e : j = 0 := by omega
      rw [e] at h2
      exact h2
  | succ i ih =>
    simp only [minTo]
    constructor
    · intro h
      by_cases h1 : minTo ps i < m
      · obtain ⟨j, a, b⟩ := ih.1 h1; exact ⟨j, by omega, b⟩
      · exact ⟨i + 1, by omega, by omega⟩
    · rintro ⟨j, a, b⟩
      by_cases e : j = i + 1
      · subst e; omega
      · have := ih.2 ⟨j, by omega, b⟩; omega
theorem t48 (ps : List Int) (h : List AObj) (h0 : 1 ≤ ps.length) (hl : ps.length ≤ 1000000) : ACalls Try.prog 48 [ints ps] h (.int .i64 (minTo ps (ps.length - 1))) h := by
  refine acalls_of fn48 (by simp) ?_
  simp only [List.length_cons, List.length_nil, Nat.reduceAdd, Nat.reduceSub, List.replicate, List.cons_append, List.nil_append, List.append_nil]
  simp (disch := omega) only [c48, ints, go_sem, wrap64_id, Int.tdiv_eq_ediv_of_nonneg, Int.tmod_eq_emod_of_nonneg]
  repeat' first
    | ((first | refine fnQ_pure1 ?_ ?_ | refine fnQ_pure0 ?_ ?_); (next => repeat' first | exact rvs_n | refine rvs_t ?_ | (simp [go_sem]; done)); simp only [go_sem]; (first | exact VLe.refl _ | refine VLe_int ?_ | refine VLe_bool ?_ | refine VLe_str ?_ | skip))
    | (with_reducible refine And.intro ?_ ?_)
    | with_reducible intro _
  all_goals first
    | omega
    | skip
  refine loop_of (T := fun i : Nat => spar 25 [(0, ints ps), (3, .int .i64 (minTo ps i)), (4, .int .i64 ((i + 1 : Nat) : Int))]) (H := fun _ => h) (inv := fun i => i < ps.length) (m := fun i => ps.length - i) 0 (by omega) (Wk.temps ?_) ?_
  · (simp only [items, ints, spar, List.foldl, List.replicate, go_sem, VLes_nil, VLes_cons, VLe_undef_iff, VLe_self]; try (repeat' first | (with_reducible refine And.intro ?_ ?_) | (refine VLe_int ?_; omega) | (refine VLe_bool ?_; rfl) | exact VLe.refl _))
    all_goals exact VLe.refl _
  · rintro i i1 K hK
    by_cases hi : i + 1 < ps.length
    · have hii : ((i : Int) + 1).toNat = i + 1 := by omega
      simp (disch := omega) only [spar, List.foldl, List.replicate, ints, hii, go_sem, wrap64_id, Int.tdiv_eq_ediv_of_nonneg, Int.tmod_eq_emod_of_nonneg]
      repeat' first
        | ((first | refine fnQ_pure1 ?_ ?_ | refine fnQ_pure0 ?_ ?_); (next => repeat' first | exact rvs_n | refine rvs_t ?_ | (simp [go_sem]; done)); simp only [go_sem]; (first | exact VLe.refl _ | refine VLe_int ?_ | refine VLe_bool ?_ | refine VLe_str ?_ | skip))
        | (with_reducible refine And.intro ?_ ?_)
        | with_reducible intro _
      all_goals first
        | omega
        | skip
      refine hK _ _ (i + 1) (by omega) (by omega) (Wk.temps ?_)
      (simp only [minTo, items, ints, spar, List.foldl, List.replicate, go_sem, VLes_nil, VLes_cons, VLe_undef_iff, VLe_self]; try (repeat' first | (with_reducible refine And.intro ?_ ?_) | (refine VLe_int ?_; omega) | (refine VLe_bool ?_; rfl) | exact VLe.refl _))
      all_goals trace_state
    · have e : i = ps.length - 1 := by omega
      rw [← e]
      simp (disch := omega) only [spar, List.foldl, List.replicate, ints, go_sem, wrap64_id, Int.tdiv_eq_ediv_of_nonneg, Int.tmod_eq_emod_of_nonneg]
      repeat' first
        | ((first | refine fnQ_pure1 ?_ ?_ | refine fnQ_pure0 ?_ ?_); (next => repeat' first | exact rvs_n | refine rvs_t ?_ | (simp [go_sem]; done)); simp only [go_sem]; (first | exact VLe.refl _ | refine VLe_int ?_ | refine VLe_bool ?_ | refine VLe_str ?_ | skip))
        | (with_reducible refine And.intro ?_ ?_)
        | with_reducible intro _
      all_goals first
        | omega
        | trace_state
end

section
/-! the text BO -/
open Go Go.Proofs AF P48
set_option maxRecDepth 100000
/-- Does a line from an index, with its cost, speak against the potentials? -/
def badArc (n : Nat) (ps : List Int) (frm : Nat) (x : Nat × Int) : Bool := decide (0 ≤ behind n ps x.1) && (decide (ps.getD frm 0 < 0) || decide (behind n ps x.1 < ps.getD frm 0 - x.2))
def badFrom (l : List It) (width : Int) (ps : List Int) (frm : Nat) : Bool := (arcs l width frm).any (badArc l.length ps frm)
def badAny (l : List It) (width : Int) (ps : List Int) : Bool := (List.range (l.length + 1)).any (badFrom l width ps)
def verifyS (l : List It) (width : Int) (bs ps : List Int) : Int :=
  if (costS l width bs).2 = 0 then (if ps.length = l.length + 1 ∧ ¬ minTo ps (ps.length - 1) < -1 ∧ ps.getD 0 0 = (costS l width bs).1 then (if badAny l width ps = true then 18 else 0) else 18) else (costS l width bs).2
theorem any_take {l : List It} {width : Int} {ps : List Int} : badAny l width ps = false ↔ ∀ j, j < l.length + 1 → badFrom l width ps j = false := by
  unfold badAny
  rw [List.any_eq_false]
  simp only [List.mem_range, Bool.not_eq_true]
set_option maxHeartbeats 4000000 in
theorem t18 (l : List It) (width : Int) (bs ps : List Int) (h : List AObj) (hl : l.length ≤ 300) (hb : bs.length ≤ 1000000) (hB : ∀ i, (it l i).text.length ≤ 1000000) (hp : ps.length ≤ 1000000) (hps : ∀ j, ps.getD j 0 ≤ 9223372036854775807) :
    ACalls Try.prog 18 [items l, .int .i64 width, ints bs, ints ps] h (.int .i64 (verifyS l width bs ps)) h := by
  obtain ⟨c, hcc⟩ : ∃ c, c = costS l width bs := ⟨_, rfl⟩
  have hc20 : ∀ h : List AObj, ACalls Try.prog 20 [items l, .int .i64 width, ints bs] h (.tup [.int .i64 c.1, .int .i64 c.2]) h := fun h => by rw [hcc]; exact t20 l width bs h hl hb hB
  unfold verifyS
  rw [← hcc]
  by_cases h0 : c.2 = 0
  · rw [if_pos h0]
    have hw : checkW l width = 0 := by
      by_cases hw : checkW l width = 0
      · exact hw
      · rw [hcc] at h0
        unfold costS linesS at h0
        rw [if_neg hw] at h0
        simp only [hw, if_false] at h0
    obtain ⟨hc, w0, w1⟩ := checkW_range l width hw
    have hv := Valid.of hl hc
    by_cases hpl : ps.length = l.length + 1
    · have hpl' : (ps.length : Int) = l.length + 1 := by omega
      have hc48 : ∀ h : List AObj, ACalls Try.prog 48 [ints ps] h (.int .i64 (minTo ps (ps.length - 1))) h := fun h => t48 ps h (by omega) hp
      by_cases hm : minTo ps (ps.length - 1) < -1
      · rw [if_neg (fun hx => hx.2.1 hm)]
        refine acalls_of fn18 (by simp) ?_
        simp only [List.length_cons, List.length_nil, Nat.reduceAdd, Nat.reduceSub, List.replicate, List.cons_append, List.nil_append, List.append_nil]
        simp (disch := omega) only [c18, ints, items, go_sem, wrap64_id, Int.tdiv_eq_ediv_of_nonneg, Int.tmod_eq_emod_of_nonneg]
        repeat' first
          | ((first | refine callA_pure (hc20 _) ?_ ?_ | refine callA_pure (hc48 _) ?_ ?_); (next => repeat' first | exact flags_n | refine flags_c (by first | rfl | assumption) ?_); simp (disch := omega) only [h0, items, ints, hpl', eq_self, hm, go_sem, wrap64_id, Int.tdiv_eq_ediv_of_nonneg, Int.tmod_eq_emod_of_nonneg])
          | ((first | refine callG_pure (fun e => ⟨?_, hc20 _⟩) ?_ | refine callG_pure (fun e => ⟨?_, hc48 _⟩) ?_); (next => repeat' first | exact flags_n | refine flags_c (by first | rfl | assumption) ?_); simp (disch := omega) only [h0, items, ints, hpl', eq_self, hm, go_sem, wrap64_id, Int.tdiv_eq_ediv_of_nonneg, Int.tmod_eq_emod_of_nonneg])
          | ((first | refine fnQ_pure1 ?_ ?_ | refine fnQ_pure0 ?_ ?_); (next => repeat' first | exact rvs_n | refine rvs_t ?_ | (simp [go_sem]; done)); simp only [go_sem]; (first | exact VLe.refl _ | refine VLe_int ?_ | refine VLe_bool ?_ | refine VLe_str ?_ | skip))
          | (with_reducible refine And.intro ?_ ?_)
          | with_reducible intro _
        all_goals first
          | omega
          | trace_state
      · by_cases h1 : ps.getD 0 0 = c.1
        · rw [if_pos ⟨hpl, hm, h1⟩]
          refine acalls_of fn18 (by simp) ?_
          simp only [List.length_cons, List.length_nil, Nat.reduceAdd, Nat.reduceSub, List.replicate, List.cons_append, List.nil_append, List.append_nil]
          simp (disch := omega) only [c18, ints, items, go_sem, wrap64_id, Int.tdiv_eq_ediv_of_nonneg, Int.tmod_eq_emod_of_nonneg]
          repeat' first
            | ((first | refine callA_pure (hc20 _) ?_ ?_ | refine callA_pure (hc48 _) ?_ ?_); (next => repeat' first | exact flags_n | refine flags_c (by first | rfl | assumption) ?_); simp (disch := omega) only [h0, items, ints, hpl', eq_self, hm, h1, go_sem, wrap64_id, Int.tdiv_eq_ediv_of_nonneg, Int.tmod_eq_emod_of_nonneg])
            | ((first | refine callG_pure (fun e => ⟨?_, hc20 _⟩) ?_ | refine callG_pure (fun e => ⟨?_, hc48 _⟩) ?_); (next => repeat' first | exact flags_n | refine flags_c (by first | rfl | assumption) ?_); simp (disch := omega) only [h0, items, ints, hpl', eq_self, hm, h1, go_sem, wrap64_id, Int.tdiv_eq_ediv_of_nonneg, Int.tmod_eq_emod_of_nonneg])
            | ((first | refine fnQ_pure1 ?_ ?_ | refine fnQ_pure0 ?_ ?_); (next => repeat' first | exact rvs_n | refine rvs_t ?_ | (simp [go_sem]; done)); simp only [go_sem]; (first | exact VLe.refl _ | refine VLe_int ?_ | refine VLe_bool ?_ | refine VLe_str ?_ | skip))
            | (with_reducible refine And.intro ?_ ?_)
            | with_reducible intro _
          all_goals first
            | omega
            | skip
          refine loop_of (T := fun i : Nat × AObj => spar 74 [(0, items l), (1, .int .i64 width), (7, .op h.length 1 0), (8, .op (h.length + 1) 1 0), (44, ints ps), (45, .int .i64 ((l.length : Int) + 1)), (46, .int .i64 i.1)])
            (H := fun i => h ++ [.mem 1 29 [ints ps], .mem 1 30 [.int .i64 0], i.2]) (inv := fun i => i.1 ≤ l.length + 1 ∧ site [i.2] 0 = true ∧ ∀ j, j < i.1 → badFrom l width ps j = false) (m := fun i => l.length + 1 - i.1) (0, .emp 0) ⟨by simp only; omega, rfl, fun j hj => absurd hj (by simp only; omega)⟩ (Wk.temps ?_) ?_
          · (simp only [items, ints, spar, List.foldl, List.replicate, go_sem, VLes_nil, VLes_cons, VLe_undef_iff, VLe_self]; try (repeat' first | (with_reducible refine And.intro ?_ ?_) | (refine VLe_int ?_; omega) | (refine VLe_bool ?_; rfl) | exact VLe.refl _))
          · rintro ⟨i, O⟩ ⟨i1, i2, i3⟩ K hK
            simp only at i1 i2 i3 hK
            have i2' : ∀ m, site (O :: m) 0 = true := fun _ => i2
            by_cases hi : i ≤ l.length
            · have hown := hps i
              simp (disch := omega) only [spar, List.foldl, List.replicate, items, ints, i2', go_sem, wrap64_id, Int.tdiv_eq_ediv_of_nonneg, Int.tmod_eq_emod_of_nonneg]
              repeat' first
                | ((first | refine callA_pure (t40 l width i _) ?_ ?_); (next => repeat' first | exact flags_n | refine flags_c (by first | rfl | assumption) ?_); simp (disch := omega) only [ints, go_sem, wrap64_id, Int.tdiv_eq_ediv_of_nonneg, Int.tmod_eq_emod_of_nonneg])
                | ((first | refine callG_pure (fun e => ⟨?_, t40 l width i _⟩) ?_); (next => repeat' first | exact flags_n | refine flags_c (by first | rfl | assumption) ?_); simp (disch := omega) only [ints, go_sem, wrap64_id, Int.tdiv_eq_ediv_of_nonneg, Int.tmod_eq_emod_of_nonneg])
                | ((first | refine fnQ_pure1 ?_ ?_ | refine fnQ_pure0 ?_ ?_); (next => repeat' first | exact rvs_n | refine rvs_t ?_ | (simp [go_sem]; done)); simp only [go_sem]; (first | exact VLe.refl _ | refine VLe_int ?_ | refine VLe_bool ?_ | refine VLe_str ?_ | skip))
                | (with_reducible refine And.intro ?_ ?_)
                | with_reducible intro _
              all_goals first
                | omega
                | skip
              refine range_lines hv w0 w1 hi (S := fun to hh => hh = h ++ [.mem 1 29 [.sl ps.length fun i => [.int .i64 (ps.getD i 0)]], .mem 1 30 [.int .i64 0], .mem (verOf (some O) + 1) 3 [.int .i64 (ps.getD i 0)]] ∧ (arcsTo l width i to).any (badArc l.length ps i) = false)
                (E := fun e hh => e = .ret ∧ badFrom l width ps i = true ∧ hh = h ++ [.mem 1 29 [.sl ps.length fun i => [.int .i64 (ps.getD i 0)]], .mem 1 30 [.int .i64 18], .mem (verOf (some O) + 1) 3 [.int .i64 (ps.getD i 0)]]) ?_ ?_ ?_ ?_ ?_ ?_ ?_ ?_
              · rintro to hh ⟨rfl, _⟩
                exact ⟨rfl, fun o ho => .inl ho⟩
              · rintro e hh ⟨rfl, _, rfl⟩
                refine Low.of rfl (fun o ho => ?_)
                simp only [List.mem_cons, List.not_mem_nil, or_false] at ho
                rcases ho with rfl | rfl | rfl <;> first | (left; simp; done) | (right; constructor <;> (intro c hc; simp at hc; subst hc; simp [lowV]))
              · rintro to hh h1 h2 h3 ⟨rfl, h4⟩
                refine ⟨rfl, ?_⟩
                rw [arcsTo_succ l width h1, h3, List.append_nil]
                exact h4
              · exact ⟨rfl, by rw [arcsTo_self]; rfl⟩
              · simp [lowV, lowV.lowVs, linesF, items]
                try omega
              · rintro to c' hh tl L h1 h2 h3 ⟨rfl, h4⟩ hlen
                simp only [setsA]
                have hcb := arc_bound hv.ok h3
                have hba : badArc l.length ps i (to, c') = (decide (0 ≤ behind l.length ps to) && (decide (ps.getD i 0 < 0) || decide (behind l.length ps to < ps.getD i 0 - c'))) := rfl
                simp (disch := omega) only [List.append_assoc, eq_self, go_sem, wrap64_id, Int.tdiv_eq_ediv_of_nonneg, Int.tmod_eq_emod_of_nonneg]
                repeat' first
                  | ((first | refine callA_pure (t41 l.length ps to _ hpl h2 (by omega)) ?_ ?_); (next => repeat' first | exact flags_n | refine flags_c (by first | rfl | assumption) ?_); simp (disch := omega) only [List.append_assoc, i2', go_sem, wrap64_id, Int.tdiv_eq_ediv_of_nonneg, Int.tmod_eq_emod_of_nonneg])
                  | ((first | refine callG_pure (fun e => ⟨?_, t41 l.length ps to _ hpl h2 (by omega)⟩) ?_); (next => repeat' first | exact flags_n | refine flags_c (by first | rfl | assumption) ?_); simp (disch := omega) only [List.append_assoc, i2', go_sem, wrap64_id, Int.tdiv_eq_ediv_of_nonneg, Int.tmod_eq_emod_of_nonneg])
                  | ((first | refine fnQ_pure1 ?_ ?_ | refine fnQ_pure0 ?_ ?_); (next => repeat' first | exact rvs_n | refine rvs_t ?_ | (simp [go_sem]; done)); simp only [go_sem]; (first | exact VLe.refl _ | refine VLe_int ?_ | refine VLe_bool ?_ | refine VLe_str ?_ | skip))
                  | (with_reducible refine And.intro ?_ ?_)
                  | with_reducible intro _
                all_goals first
                  | omega
                  | skip
                · rename_i hx
                  have hbb : badArc l.length ps i (to, c') = true := by
                    rw [hba]
                    simp only [Bool.and_eq_true, Bool.or_eq_true, decide_eq_true_eq]
                    by_cases ho : ps.getD i 0 < 0
                    · exact ⟨hx.1, .inl ho⟩
                    · rw [wrap64_id (by omega) (by omega)] at hx
                      exact hx
                  exact ⟨h ++ [.mem 1 29 [.sl ps.length fun i => [.int .i64 (ps.getD i 0)]], .mem 1 30 [.int .i64 18], .mem (verOf (some O) + 1) 3 [.int .i64 (ps.getD i 0)]], by simp, by simp, List.any_eq_true.2 ⟨(to, c'), mem_arcs.2 ⟨h1, h2, h3⟩, hbb⟩, rfl⟩
                · rename_i hx
                  have hbb : badArc l.length ps i (to, c') = false := by
                    rw [hba]
                    by_cases ho : 0 ≤ behind l.length ps to
                    · have hx2 := hx ho
                      rw [wrap64_id (by omega) (by omega)] at hx2
                      simp only [Bool.and_eq_false_iff, Bool.or_eq_false_iff, decide_eq_false_iff_not]
                      exact .inr hx2
                    · simp [ho]
                  refine ⟨h ++ [.mem 1 29 [.sl ps.length fun i => [.int .i64 (ps.getD i 0)]], .mem 1 30 [.int .i64 0], .mem (verOf (some O) + 1) 3 [.int .i64 (ps.getD i 0)]], by simp, by simp, rfl, ?_⟩
                  · rw [arcsTo_succ l width h1, h3, List.any_append, h4]
                    simp [hbb]
              · rintro hh ⟨rfl, h4⟩
                rw [arcsTo_all] at h4
                simp (disch := omega) only [i2', go_sem, wrap64_id, Int.tdiv_eq_ediv_of_nonneg, Int.tmod_eq_emod_of_nonneg]
                repeat' first
                  | ((first | refine fnQ_pure1 ?_ ?_ | refine fnQ_pure0 ?_ ?_); (next => repeat' first | exact rvs_n | refine rvs_t ?_ | (simp [go_sem]; done)); simp only [go_sem]; (first | exact VLe.refl _ | refine VLe_int ?_ | refine VLe_bool ?_ | refine VLe_str ?_ | skip))
                  | (with_reducible refine And.intro ?_ ?_)
                  | with_reducible intro _
                all_goals first
                  | omega
                  | skip
                refine hK _ _ (i + 1, .mem (verOf (some O) + 1) 3 [.int .i64 (ps.getD i 0)]) ⟨by simp only; omega, rfl, fun j hj => ?_⟩ (by simp only; omega) (Wk.temps ?_)
                · simp only at hj
                  by_cases ej : j = i
                  · rw [ej]; exact h4
                  · exact i3 j (by omega)
                · (simp only [items, ints, spar, List.foldl, List.replicate, go_sem, VLes_nil, VLes_cons, VLe_undef_iff, VLe_self]; try (repeat' first | (with_reducible refine And.intro ?_ ?_) | (refine VLe_int ?_; omega) | (refine VLe_bool ?_; rfl) | exact VLe.refl _))
                  try exact VLe_int (by omega)
              · rintro e hh ⟨rfl, h4, rfl⟩
                have hba : badAny l width ps = true := by unfold badAny; exact List.any_eq_true.2 ⟨i, List.mem_range.2 (by omega), h4⟩
                rw [hba]
                show Ex.inBlock 2 _ .ret _ _
                simp (disch := omega) only [i2', go_sem, wrap64_id, Int.tdiv_eq_ediv_of_nonneg, Int.tmod_eq_emod_of_nonneg]
                repeat' first
                  | ((first | refine fnQ_pure1 ?_ ?_ | refine fnQ_pure0 ?_ ?_); (next => repeat' first | exact rvs_n | refine rvs_t ?_ | (simp [go_sem]; done)); simp only [go_sem]; (first | exact VLe.refl _ | refine VLe_int ?_ | refine VLe_bool ?_ | refine VLe_str ?_ | skip))
                  | (with_reducible refine And.intro ?_ ?_)
                  | with_reducible intro _
                all_goals first
                  | omega
                  | trace_state
            · have e : i = l.length + 1 := by omega
              subst e
              have hba : badAny l width ps = false := any_take.2 i3
              rw [hba]
              simp (disch := omega) only [spar, List.foldl, List.replicate, items, ints, go_sem, wrap64_id, Int.tdiv_eq_ediv_of_nonneg, Int.tmod_eq_emod_of_nonneg]
              repeat' first
                | ((first | refine fnQ_pure1 ?_ ?_ | refine fnQ_pure0 ?_ ?_); (next => repeat' first | exact rvs_n | refine rvs_t ?_ | (simp [go_sem]; done)); simp only [go_sem]; (first | exact VLe.refl _ | refine VLe_int ?_ | refine VLe_bool ?_ | refine VLe_str ?_ | skip))
                | (with_reducible refine And.intro ?_ ?_)
                | with_reducible intro _
              all_goals first
                | omega
                | trace_state
        · rw [if_neg (fun hx => h1 hx.2.2)]
          refine acalls_of fn18 (by simp) ?_
          simp only [List.length_cons, List.length_nil, Nat.reduceAdd, Nat.reduceSub, List.replicate, List.cons_append, List.nil_append, List.append_nil]
          simp (disch := omega) only [c18, ints, items, go_sem, wrap64_id, Int.tdiv_eq_ediv_of_nonneg, Int.tmod_eq_emod_of_nonneg]
          repeat' first
            | ((first | refine callA_pure (hc20 _) ?_ ?_ | refine callA_pure (hc48 _) ?_ ?_); (next => repeat' first | exact flags_n | refine flags_c (by first | rfl | assumption) ?_); simp (disch := omega) only [h0, items, ints, hpl', eq_self, hm, h1, go_sem, wrap64_id, Int.tdiv_eq_ediv_of_nonneg, Int.tmod_eq_emod_of_nonneg])
            | ((first | refine callG_pure (fun e => ⟨?_, hc20 _⟩) ?_ | refine callG_pure (fun e => ⟨?_, hc48 _⟩) ?_); (next => repeat' first | exact flags_n | refine flags_c (by first | rfl | assumption) ?_); simp (disch := omega) only [h0, items, ints, hpl', eq_self, hm, h1, go_sem, wrap64_id, Int.tdiv_eq_ediv_of_nonneg, Int.tmod_eq_emod_of_nonneg])
            | ((first | refine fnQ_pure1 ?_ ?_ | refine fnQ_pure0 ?_ ?_); (next => repeat' first | exact rvs_n | refine rvs_t ?_ | (simp [go_sem]; done)); simp only [go_sem]; (first | exact VLe.refl _ | refine VLe_int ?_ | refine VLe_bool ?_ | refine VLe_str ?_ | skip))
            | (with_reducible refine And.intro ?_ ?_)
            | with_reducible intro _
          all_goals first
            | omega
            | trace_state
    · rw [if_neg (fun hx => hpl hx.1)]
      have hpl' : ¬ (ps.length : Int) = l.length + 1 := by omega
      refine acalls_of fn18 (by simp) ?_
      simp only [List.length_cons, List.length_nil, Nat.reduceAdd, Nat.reduceSub, List.replicate, List.cons_append, List.nil_append, List.append_nil]
      simp (disch := omega) only [c18, ints, items, go_sem, wrap64_id, Int.tdiv_eq_ediv_of_nonneg, Int.tmod_eq_emod_of_nonneg]
      have hc48x : ∀ h : List AObj, False → ACalls Try.prog 48 [ints ps] h (.int .i64 0) h := fun _ hf => hf.elim
      repeat' first
        | ((first | refine callA_pure (hc20 _) ?_ ?_ | refine callA_pure (hc48x _ (by cases e)) ?_ ?_); (next => repeat' first | exact flags_n | refine flags_c (by first | rfl | assumption) ?_); simp (disch := omega) only [h0, items, ints, hpl', go_sem, wrap64_id, Int.tdiv_eq_ediv_of_nonneg, Int.tmod_eq_emod_of_nonneg])
        | ((first | refine callG_pure (fun e => ⟨?_, hc20 _⟩) ?_ | refine callG_pure (fun e => ⟨?_, hc48x _ (by cases e)⟩) ?_); (next => repeat' first | exact flags_n | refine flags_c (by first | rfl | assumption) ?_); simp (disch := omega) only [h0, items, ints, hpl', go_sem, wrap64_id, Int.tdiv_eq_ediv_of_nonneg, Int.tmod_eq_emod_of_nonneg])
        | ((first | refine fnQ_pure1 ?_ ?_ | refine fnQ_pure0 ?_ ?_); (next => repeat' first | exact rvs_n | refine rvs_t ?_ | (simp [go_sem]; done)); simp only [go_sem]; (first | exact VLe.refl _ | refine VLe_int ?_ | refine VLe_bool ?_ | refine VLe_str ?_ | skip))
        | (with_reducible refine And.intro ?_ ?_)
        | with_reducible intro _
      all_goals first
        | omega
        | trace_state
  · rw [if_neg h0]
    refine acalls_of fn18 (by simp) ?_
    simp only [List.length_cons, List.length_nil, Nat.reduceAdd, Nat.reduceSub, List.replicate, List.cons_append, List.nil_append, List.append_nil]
    simp (disch := omega) only [c18, ints, items, go_sem, wrap64_id, Int.tdiv_eq_ediv_of_nonneg, Int.tmod_eq_emod_of_nonneg]
    repeat' first
      | ((first | refine callA_pure (hc20 _) ?_ ?_); (next => repeat' first | exact flags_n | refine flags_c (by first | rfl | assumption) ?_); simp (disch := omega) only [h0, items, go_sem, wrap64_id, Int.tdiv_eq_ediv_of_nonneg, Int.tmod_eq_emod_of_nonneg])
      | ((first | refine callG_pure (fun e => ⟨?_, hc20 _⟩) ?_); (next => repeat' first | exact flags_n | refine flags_c (by first | rfl | assumption) ?_); simp (disch := omega) only [h0, items, go_sem, wrap64_id, Int.tdiv_eq_ediv_of_nonneg, Int.tmod_eq_emod_of_nonneg])
      | ((first | refine fnQ_pure1 ?_ ?_ | refine fnQ_pure0 ?_ ?_); (next => repeat' first | exact rvs_n | refine rvs_t ?_ | (simp [go_sem]; done)); simp only [go_sem]; (first | exact VLe.refl _ | refine VLe_int ?_ | refine VLe_bool ?_ | refine VLe_str ?_ | skip))
      | (with_reducible refine And.intro ?_ ?_)
      | with_reducible intro _
    all_goals first
      | omega
      | trace_state
end

section
/-! the text BPn -/
open Go Go.Proofs AF P48
set_option maxRecDepth 100000
theorem bad_get {l : List It} {width : Int} {q : List Int} (hb : badAny l width q = false) {frm to : Nat} {c : Int} (h : frm ≤ l.length) (hm : (to, c) ∈ arcs l width frm) (hk : 0 ≤ behind l.length q to) : 0 ≤ q.getD frm 0 ∧ q.getD frm 0 - c ≤ behind l.length q to := by
  have h1 := any_take.1 hb frm (by omega)
  unfold badFrom at h1
  rw [List.any_eq_false] at h1
  have h2 := h1 _ hm
  unfold badArc at h2
  simp only [Bool.and_eq_true, Bool.or_eq_true, decide_eq_true_eq] at h2
  omega
theorem path_le {l : List It} {width : Int} {q : List Int} (hb : badAny l width q = false) : ∀ {bs : List Nat} {frm : Nat} {c : Int}, path l width frm bs = some c → 0 ≤ q.getD frm 0 ∧ q.getD frm 0 ≤ c := by
  intro bs
  induction bs with
  | nil => intro frm c h; cases h
  | cons b r ih =>
    intro frm c h
    have hl := path_last h
    unfold path at h
    split at h
    · rename_i e
      split at h
      · rename_i h2
        have hm : (b, c) ∈ arcs l width frm := mem_arcs.2 ⟨h2.2, by omega, h⟩
        have hbh : behind l.length q b = 0 := by simp [behind, e]
        have := bad_get hb hl.1 hm (by omega)
        omega
      · cases h
    · rename_i e
      split at h
      · rename_i h2
        rw [Option.bind_eq_some_iff] at h
        obtain ⟨c1, h3, h4⟩ := h
        rw [Option.map_eq_some_iff] at h4
        obtain ⟨c2, h4, h5⟩ := h4
        have ⟨i1, i2⟩ := ih h4
        have hm : (b, c1) ∈ arcs l width frm := mem_arcs.2 ⟨h2.1, by omega, h3⟩
        have hbh : behind l.length q b = q.getD (b + 1) 0 := by simp [behind, e]
        have := bad_get hb hl.1 hm (by omega)
        omega
      · cases h
theorem pots_fine {l : List It} {width : Int} (hc : check l = 0) : badAny l width (pots l width) = false := by
  refine any_take.2 (fun j hj => ?_)
  unfold badFrom
  rw [List.any_eq_false]
  rintro ⟨to, c⟩ hx hbad
  unfold badArc at hbad
  simp only [Bool.and_eq_true, Bool.or_eq_true, decide_eq_true_eq] at hbad
  rcases pots_at (width := width) hc j (by omega) with ⟨a1, a2⟩ | ⟨a1, _, a3⟩
  · have := a2 _ hx; simp only at this; omega
  · have := a3 _ hx (by simp only; omega)
    simp only at this
    omega
theorem pots_min {l : List It} {width : Int} (hc : check l = 0) : ¬ minTo (pots l width) ((pots l width).length - 1) < -1 := by
  rw [minTo_iff]
  rintro ⟨j, h1, h2⟩
  rw [pots_len] at h1
  rcases pots_at (width := width) hc j (by omega) with ⟨a1, a2⟩ | ⟨a1, _, a3⟩ <;> omega
theorem verify_pots {l : List It} {width : Int} (hc : check l = 0) (bs : List Int) : verifyS l width bs (pots l width) = if (costS l width bs).2 = 0 then (if (pots l width).getD 0 0 = (costS l width bs).1 then 0 else 18) else (costS l width bs).2 := by
  unfold verifyS
  rw [pots_fine hc]
  simp only [pots_len, Bool.false_eq_true, if_false, true_and]
  have := pots_min (width := width) hc
  rw [pots_len] at this
  simp only [this, not_false_eq_true, true_and]
theorem verify_ok {l : List It} {width : Int} {bs q : List Int} (h : verifyS l width bs q = 0) : (costS l width bs).2 = 0 ∧ q.getD 0 0 = (costS l width bs).1 ∧ badAny l width q = false := by
  unfold verifyS at h
  split at h
  · rename_i h0
    split at h
    · rename_i h1
      split at h
      · omega
      · rename_i h2
        exact ⟨h0, h1.2.2, by simpa using h2⟩
    · omega
  · rename_i h0; exact absurd h h0
set_option maxHeartbeats 8000000 in
theorem law6_neg {l : List It} {width att : Int} {q p : List Int} {ns : List Nat} {c : Int × Int} {n vq vp : Int} (h : List AObj) (hl : l.length ≤ 9223372036854775807) (hql : q.length ≤ 16) (hf : fine l width = true)
    (hc19 : ∀ h : List AObj, ACalls Try.prog 19 [items l, .int .u16 att] h (ints (ns.map Int.ofNat)) h) (hc20 : ∀ h : List AObj, ACalls Try.prog 20 [items l, .int .i64 width, ints (ns.map Int.ofNat)] h (.tup [.int .i64 c.1, .int .i64 c.2]) h)
    (hc14 : ∀ h : List AObj, ACalls Try.prog 14 [items l, .int .i64 width] h (.tup [ints p, .int .i64 0]) h) (hc18q : ∀ h : List AObj, ACalls Try.prog 18 [items l, .int .i64 width, ints (ns.map Int.ofNat), ints q] h (.int .i64 vq) h)
    (hc18p : ∀ h : List AObj, ACalls Try.prog 18 [items l, .int .i64 width, ints (ns.map Int.ofNat), ints p] h (.int .i64 vp) h) (hc13 : ∀ h : List AObj, ACalls Try.prog 13 [items l, .int .i64 width] h (.tup [ints [], .int .i64 0, .int .i64 23]) h)
    (hvp' : vp = if c.2 = 0 then (if n = c.1 then 0 else 18) else c.2) (hvq0 : ¬ vq = 0) (hpl' : (p.length : Int) = l.length + 1) (hn0 : p.getD 0 0 = n) (hneg : n < 0) (l14 : l.length ≤ 14) : ACalls Try.prog 6 [items l, .int .i64 width, .int .u16 att, ints q] h (.bool true) h := by
  have hn1 : ¬ 0 ≤ n := by omega
  refine acalls_of fn6 (by simp) ?_
  simp only [List.length_cons, List.length_nil, Nat.reduceAdd, Nat.reduceSub, List.replicate, List.cons_append, List.nil_append, List.append_nil]
  simp (disch := omega) only [c6, hf, ints, items, go_sem, wrap64_id, Int.tdiv_eq_ediv_of_nonneg, Int.tmod_eq_emod_of_nonneg]
  repeat' first
    | (refine callG_false (.int .i64 0) ?_; simp (disch := omega) only [hf, ints, items, eq_self, hpl', hvq0, hn0, hn1, go_sem, wrap64_id])
    | (refine callA_pure (t10 l width _ hl) ⟨rfl, rfl, trivial⟩ ?_; simp (disch := omega) only [hf, ints, items, eq_self, hpl', hvq0, hn0, hn1, go_sem, wrap64_id])
    | (refine callA_pure (hc13 _) ⟨rfl, rfl, trivial⟩ ?_; simp (disch := omega) only [hf, ints, items, eq_self, hpl', hvq0, hn0, hn1, go_sem, wrap64_id])
    | (refine callA_pure (hc14 _) ⟨rfl, rfl, trivial⟩ ?_; simp (disch := omega) only [hf, ints, items, eq_self, hpl', hvq0, hn0, hn1, go_sem, wrap64_id])
    | (refine callA_pure (hc19 _) ⟨rfl, rfl, trivial⟩ ?_; simp (disch := omega) only [hf, ints, items, eq_self, hpl', hvq0, hn0, hn1, go_sem, wrap64_id])
    | (refine callA_pure (hc18q _) ⟨rfl, rfl, rfl, rfl, trivial⟩ ?_; simp (disch := omega) only [hf, ints, items, eq_self, hpl', hvq0, hn0, hn1, go_sem, wrap64_id])
    | (refine callA_pure (hc20 _) ⟨rfl, rfl, rfl, trivial⟩ ?_; simp (disch := omega) only [hf, ints, items, eq_self, hpl', hvq0, hn0, hn1, go_sem, wrap64_id])
    | (with_reducible refine And.intro ?_ ?_)
    | with_reducible intro _
  repeat' first
    | ((first | refine callA_pure (hc18p _) ?_ ?_ | refine callA_pure (t11 _) ?_ ?_); (next => repeat' first | exact flags_n | refine flags_c (by first | rfl | assumption) ?_); simp (disch := omega) only [hf, ints, items, eq_self, hpl', hvq0, hn0, hn1, go_sem, wrap64_id, Int.tdiv_eq_ediv_of_nonneg, Int.tmod_eq_emod_of_nonneg])
    | ((first | refine callG_pure (fun e => ⟨?_, hc18p _⟩) ?_ | refine callG_pure (fun e => ⟨?_, t11 _⟩) ?_); (next => repeat' first | exact flags_n | refine flags_c (by first | rfl | assumption) ?_); simp (disch := omega) only [hf, ints, items, eq_self, hpl', hvq0, hn0, hn1, go_sem, wrap64_id, Int.tdiv_eq_ediv_of_nonneg, Int.tmod_eq_emod_of_nonneg])
    | ((first | refine fnQ_pure1 ?_ ?_ | refine fnQ_pure0 ?_ ?_); (next => repeat' first | exact rvs_n | refine rvs_t ?_ | (simp [go_sem]; done)); simp only [go_sem]; (first | exact VLe.refl _ | refine VLe_int ?_ | refine VLe_bool ?_ | refine VLe_str ?_ | skip))
    | (with_reducible refine And.intro ?_ ?_)
    | with_reducible intro _
  all_goals first
    | omega
    | (rename_i hx; revert hx; simp; done)
    | skip
  rw [hvp']
  by_cases hz : c.2 = 0
  · by_cases hy : n = c.1 <;> simp [hz, hy, eq_comm]
    try omega
  · simp [hz]
end

section
/-! the text BP -/
open Go Go.Proofs AF P48
set_option maxRecDepth 100000
set_option maxHeartbeats 8000000 in
theorem law6 (l : List It) (width att : Int) (q : List Int) (h : List AObj) (hl : l.length ≤ 9223372036854775807) (m0 : 0 ≤ att) (m1 : att ≤ 65535) (hql : q.length ≤ 9223372036854775807) (hq : ∀ j, q.getD j 0 ≤ 9223372036854775807) : ACalls Try.prog 6 [items l, .int .i64 width, .int .u16 att, ints q] h (.bool true) h := by
  cases hf : fine l width with
  | false =>
    have hnl : (lnsV []).flag = true := rfl
    refine acalls_of fn6 (by simp) ?_
    simp only [List.length_cons, List.length_nil, Nat.reduceAdd, Nat.reduceSub, List.replicate, List.cons_append, List.nil_append, List.append_nil]
    simp (disch := omega) only [c6, hf, ints, go_sem, wrap64_id, Int.tdiv_eq_ediv_of_nonneg, Int.tmod_eq_emod_of_nonneg]
    repeat' first
      | ((first | refine callA_pure (t10 l width _ hl) ?_ ?_ | refine callA_pure (t11 _) ?_ ?_); (next => repeat' first | exact flags_n | refine flags_c (by first | rfl | assumption) ?_); simp (disch := omega) only [hf, go_sem, wrap64_id, Int.tdiv_eq_ediv_of_nonneg, Int.tmod_eq_emod_of_nonneg])
      | ((first | refine callG_pure (fun e => ⟨?_, t10 l width _ hl⟩) ?_ | refine callG_pure (fun e => ⟨?_, t11 _⟩) ?_); (next => repeat' first | exact flags_n | refine flags_c (by first | rfl | assumption) ?_); simp (disch := omega) only [hf, go_sem, wrap64_id, Int.tdiv_eq_ediv_of_nonneg, Int.tmod_eq_emod_of_nonneg])
      | ((first | refine fnQ_pure1 ?_ ?_ | refine fnQ_pure0 ?_ ?_); (next => repeat' first | exact rvs_n | refine rvs_t ?_ | (simp [go_sem]; done)); simp only [go_sem]; (first | exact VLe.refl _ | refine VLe_int ?_ | refine VLe_bool ?_ | refine VLe_str ?_ | skip))
      | (with_reducible refine And.intro ?_ ?_)
      | with_reducible intro _
    all_goals first
      | omega
      | trace_state
  | true =>
    by_cases hq16 : q.length ≤ 16
    · have hg := great_small (fine_great hf)
      obtain ⟨l14, hc, w0, w1⟩ := fine_spec hf
      have hw := fine_checkW hf
      obtain ⟨ns, hns⟩ : ∃ ns, ns = chosenL att l.length ++ [l.length] := ⟨_, rfl⟩
      have hnl : ns.length ≤ 15 := by rw [hns, List.length_append, List.length_singleton]; have := chosenL_len att l.length; omega
      have hc19 : ∀ h : List AObj, ACalls Try.prog 19 [items l, .int .u16 att] h (ints (ns.map Int.ofNat)) h := fun h => by rw [hns]; exact t19 l att h (by omega)
      obtain ⟨c, hcc⟩ : ∃ c, c = costS l width (ns.map Int.ofNat) := ⟨_, rfl⟩
      have hc20 : ∀ h : List AObj, ACalls Try.prog 20 [items l, .int .i64 width, ints (ns.map Int.ofNat)] h (.tup [.int .i64 c.1, .int .i64 c.2]) h := fun h => by rw [hcc]; exact t20 l width _ h (by omega) (by rw [len_nat]; omega) hg.2
      obtain ⟨p, hp⟩ : ∃ p, p = pots l width := ⟨_, rfl⟩
      have hpl : p.length = l.length + 1 := by rw [hp]; exact pots_len l width
      have hpb := potsGo_bound (Valid.of (by omega) hc).ok width (l.length + 1)
      have hpb' : ∀ j, p.getD j 0 ≤ 9223372036854775807 := fun j => by rw [hp]; exact Int.le_trans (hpb j).2 (by omega)
      have hc14 : ∀ h : List AObj, ACalls Try.prog 14 [items l, .int .i64 width] h (.tup [ints p, .int .i64 0]) h := fun h => by have := t14 l width h (by omega); rw [if_pos hw] at this; rw [hp]; exact this
      obtain ⟨n, hn⟩ : ∃ n, n = p.getD 0 0 := ⟨_, rfl⟩
      obtain ⟨vq, hvq⟩ : ∃ v, v = verifyS l width (ns.map Int.ofNat) q := ⟨_, rfl⟩
      obtain ⟨vp, hvp⟩ : ∃ v, v = verifyS l width (ns.map Int.ofNat) p := ⟨_, rfl⟩
      have hc18q : ∀ h : List AObj, ACalls Try.prog 18 [items l, .int .i64 width, ints (ns.map Int.ofNat), ints q] h (.int .i64 vq) h := fun h => by rw [hvq]; exact t18 l width _ q h (by omega) (by rw [len_nat]; omega) hg.2 (by omega) hq
      have hc18p : ∀ h : List AObj, ACalls Try.prog 18 [items l, .int .i64 width, ints (ns.map Int.ofNat), ints p] h (.int .i64 vp) h := fun h => by rw [hvp]; exact t18 l width _ p h (by omega) (by rw [len_nat]; omega) hg.2 (by omega) hpb'
      have hvp' : vp = if c.2 = 0 then (if n = c.1 then 0 else 18) else c.2 := by rw [hvp, hp, verify_pots hc, ← hcc, hn, hp]
      have hvq' : vq = 0 → 0 ≤ n ∧ c.2 = 0 ∧ c.1 = n := by
        intro hv
        rw [hvq] at hv
        obtain ⟨a1, a2, a3⟩ := verify_ok hv
        rw [← hcc] at a1 a2
        have hpa : path l width 0 ns = some c.1 := by rw [cost_path hw, ← hcc, ← a1]
        have h1 := path_ge hc hpa
        rw [← hp, ← hn] at h1
        have hbp := brk_path hc (width := width) (l.length + 1) 0 (by omega) (by omega) (by rw [← hp, ← hn]; omega)
        have h2 := path_le a3 hbp
        rw [← hp, ← hn] at h2
        exact ⟨h1.1, a1, by omega⟩
      have hpl' : (p.length : Int) = l.length + 1 := by omega
      have hn0 : p.getD 0 0 = n := hn.symm
      by_cases hneg : n < 0
      · have hb : breakAV l width = .tup [ints [], .int .i64 0, .int .i64 23] := by unfold breakAV; rw [if_pos hw, ← hp, ← hn, if_pos hneg]
        have hc13 : ∀ h : List AObj, ACalls Try.prog 13 [items l, .int .i64 width] h (.tup [ints [], .int .i64 0, .int .i64 23]) h := fun h => by rw [← hb]; exact t13 l width h (by omega)
        have hvq0 : ¬ vq = 0 := fun hx => by have := hvq' hx; omega
        exact law6_neg h hl hq16 hf hc19 hc20 hc14 hc18q hc18p hc13 hvp' hvq0 hpl' hn0 hneg l14
      · obtain ⟨br, hbr⟩ : ∃ br, br = brk l width := ⟨_, rfl⟩
        have hb : breakAV l width = .tup [ints (br.map Int.ofNat), .int .i64 n, .int .i64 0] := by unfold breakAV; rw [if_pos hw, ← hp, ← hn, if_neg hneg, hbr]
        have hc13 : ∀ h : List AObj, ACalls Try.prog 13 [items l, .int .i64 width] h (.tup [ints (br.map Int.ofNat), .int .i64 n, .int .i64 0]) h := fun h => by rw [← hb]; exact t13 l width h (by omega)
        have hbp := brk_path hc (width := width) (l.length + 1) 0 (by omega) (by omega) (by rw [← hp, ← hn]; omega)
        have hbl : br.length ≤ 15 := by rw [hbr]; exact Nat.le_trans (brkGo_len l width _ _ _) (by omega)
        have hown : costS l width (br.map Int.ofNat) = (n, 0) := by rw [← cost_path hw, hbr, hn, hp]; exact hbp
        have hc18b : ∀ h : List AObj, ACalls Try.prog 18 [items l, .int .i64 width, ints (br.map Int.ofNat), ints p] h (.int .i64 0) h := fun h => by
          have := t18 l width (br.map Int.ofNat) p h (by omega) (by rw [len_nat]; omega) hg.2 (by omega) hpb'
          have e : verifyS l width (br.map Int.ofNat) p = 0 := by rw [hp, verify_pots hc, hown, ← hp, ← hn]; simp
          rwa [e] at this
        have hn1 : 0 ≤ n := by omega
        by_cases hv0 : vq = 0
        · obtain ⟨_, b1, b2⟩ := hvq' hv0
          refine acalls_of fn6 (by simp) ?_
          simp only [List.length_cons, List.length_nil, Nat.reduceAdd, Nat.reduceSub, List.replicate, List.cons_append, List.nil_append, List.append_nil]
          simp (disch := omega) only [c6, hf, ints, items, go_sem, wrap64_id, Int.tdiv_eq_ediv_of_nonneg, Int.tmod_eq_emod_of_nonneg]
          repeat' first
            | ((first | refine callA_pure (t10 l width _ hl) ?_ ?_ | refine callA_pure (hc13 _) ?_ ?_ | refine callA_pure (hc14 _) ?_ ?_ | refine callA_pure (hc18b _) ?_ ?_ | refine callA_pure (hc19 _) ?_ ?_ | refine callA_pure (hc18q _) ?_ ?_ | refine callA_pure (hc20 _) ?_ ?_ | refine callA_pure (hc18p _) ?_ ?_ | refine callA_pure (t11 _) ?_ ?_); (next => repeat' first | exact flags_n | refine flags_c (by first | rfl | assumption) ?_); simp (disch := omega) only [hf, ints, items, eq_self, hpl', hv0, hn0, hn1, b1, b2, go_sem, wrap64_id, Int.tdiv_eq_ediv_of_nonneg, Int.tmod_eq_emod_of_nonneg])
            | ((first | refine callG_pure (fun e => ⟨?_, t10 l width _ hl⟩) ?_ | refine callG_pure (fun e => ⟨?_, hc13 _⟩) ?_ | refine callG_pure (fun e => ⟨?_, hc14 _⟩) ?_ | refine callG_pure (fun e => ⟨?_, hc18b _⟩) ?_ | refine callG_pure (fun e => ⟨?_, hc19 _⟩) ?_ | refine callG_pure (fun e => ⟨?_, hc18q _⟩) ?_ | refine callG_pure (fun e => ⟨?_, hc20 _⟩) ?_ | refine callG_pure (fun e => ⟨?_, hc18p _⟩) ?_ | refine callG_pure (fun e => ⟨?_, t11 _⟩) ?_); (next => repeat' first | exact flags_n | refine flags_c (by first | rfl | assumption) ?_); simp (disch := omega) only [hf, ints, items, eq_self, hpl', hv0, hn0, hn1, b1, b2, go_sem, wrap64_id, Int.tdiv_eq_ediv_of_nonneg, Int.tmod_eq_emod_of_nonneg])
            | ((first | refine fnQ_pure1 ?_ ?_ | refine fnQ_pure0 ?_ ?_); (next => repeat' first | exact rvs_n | refine rvs_t ?_ | (simp [go_sem]; done)); simp only [go_sem]; (first | exact VLe.refl _ | refine VLe_int ?_ | refine VLe_bool ?_ | refine VLe_str ?_ | skip))
            | (with_reducible refine And.intro ?_ ?_)
            | with_reducible intro _
          all_goals first
            | omega
            | (rename_i hx; revert hx; simp; done)
            | trace_state
        · refine acalls_of fn6 (by simp) ?_
          simp only [List.length_cons, List.length_nil, Nat.reduceAdd, Nat.reduceSub, List.replicate, List.cons_append, List.nil_append, List.append_nil]
          simp (disch := omega) only [c6, hf, ints, items, go_sem, wrap64_id, Int.tdiv_eq_ediv_of_nonneg, Int.tmod_eq_emod_of_nonneg]
          repeat' first
            | ((first | refine callA_pure (t10 l width _ hl) ?_ ?_ | refine callA_pure (hc13 _) ?_ ?_ | refine callA_pure (hc14 _) ?_ ?_ | refine callA_pure (hc18b _) ?_ ?_ | refine callA_pure (hc19 _) ?_ ?_ | refine callA_pure (hc18q _) ?_ ?_ | refine callA_pure (hc20 _) ?_ ?_ | refine callA_pure (hc18p _) ?_ ?_ | refine callA_pure (t11 _) ?_ ?_); (next => repeat' first | exact flags_n | refine flags_c (by first | rfl | assumption) ?_); simp (disch := omega) only [hf, ints, items, eq_self, hpl', hv0, hn0, hn1, go_sem, wrap64_id, Int.tdiv_eq_ediv_of_nonneg, Int.tmod_eq_emod_of_nonneg])
            | ((first | refine callG_pure (fun e => ⟨?_, t10 l width _ hl⟩) ?_ | refine callG_pure (fun e => ⟨?_, hc13 _⟩) ?_ | refine callG_pure (fun e => ⟨?_, hc14 _⟩) ?_ | refine callG_pure (fun e => ⟨?_, hc18b _⟩) ?_ | refine callG_pure (fun e => ⟨?_, hc19 _⟩) ?_ | refine callG_pure (fun e => ⟨?_, hc18q _⟩) ?_ | refine callG_pure (fun e => ⟨?_, hc20 _⟩) ?_ | refine callG_pure (fun e => ⟨?_, hc18p _⟩) ?_ | refine callG_pure (fun e => ⟨?_, t11 _⟩) ?_); (next => repeat' first | exact flags_n | refine flags_c (by first | rfl | assumption) ?_); simp (disch := omega) only [hf, ints, items, eq_self, hpl', hv0, hn0, hn1, go_sem, wrap64_id, Int.tdiv_eq_ediv_of_nonneg, Int.tmod_eq_emod_of_nonneg])
            | ((first | refine fnQ_pure1 ?_ ?_ | refine fnQ_pure0 ?_ ?_); (next => repeat' first | exact rvs_n | refine rvs_t ?_ | (simp [go_sem]; done)); simp only [go_sem]; (first | exact VLe.refl _ | refine VLe_int ?_ | refine VLe_bool ?_ | refine VLe_str ?_ | skip))
            | (with_reducible refine And.intro ?_ ?_)
            | with_reducible intro _
          all_goals first
            | omega
            | (rename_i hx; revert hx; simp; done)
            | skip
          rw [hvp']
          by_cases hz : c.2 = 0
          · by_cases hy : n = c.1 <;> simp [hz, hy, eq_comm]
            try omega
          · simp [hz]
    · refine acalls_of fn6 (by simp) ?_
      simp only [List.length_cons, List.length_nil, Nat.reduceAdd, Nat.reduceSub, List.replicate, List.cons_append, List.nil_append, List.append_nil]
      simp (disch := omega) only [c6, hf, ints, go_sem, wrap64_id, Int.tdiv_eq_ediv_of_nonneg, Int.tmod_eq_emod_of_nonneg]
      repeat' first
        | ((first | refine callA_pure (t10 l width _ hl) ?_ ?_ | refine callA_pure (t11 _) ?_ ?_); (next => repeat' first | exact flags_n | refine flags_c (by first | rfl | assumption) ?_); simp (disch := omega) only [hf, ints, go_sem, wrap64_id, Int.tdiv_eq_ediv_of_nonneg, Int.tmod_eq_emod_of_nonneg])
        | ((first | refine callG_pure (fun e => ⟨?_, t10 l width _ hl⟩) ?_ | refine callG_pure (fun e => ⟨?_, t11 _⟩) ?_); (next => repeat' first | exact flags_n | refine flags_c (by first | rfl | assumption) ?_); simp (disch := omega) only [hf, ints, go_sem, wrap64_id, Int.tdiv_eq_ediv_of_nonneg, Int.tmod_eq_emod_of_nonneg])
        | ((first | refine fnQ_pure1 ?_ ?_ | refine fnQ_pure0 ?_ ?_); (next => repeat' first | exact rvs_n | refine rvs_t ?_ | (simp [go_sem]; done)); simp only [go_sem]; (first | exact VLe.refl _ | refine VLe_int ?_ | refine VLe_bool ?_ | refine VLe_str ?_ | skip))
        | (with_reducible refine And.intro ?_ ?_)
        | with_reducible intro _
      all_goals first
        | omega
        | trace_state
end

section
/-! the text BQ -/
open Go Go.Proofs AF P48
set_option maxRecDepth 100000
theorem linesGo_get {l : List It} {width : Int} : ∀ {ns : List Nat} {frm : Nat} {ls : List P48.Line}, linesGo l width frm ns = some ls → ls.length = ns.length ∧ ∀ i, i < ns.length → ∃ f, ls.getD i default = mkLine l width f (ns.getD i 0) ∧ (lineOf l width f (ns.getD i 0)).2.2 = true := by
  intro ns
  induction ns with
  | nil => intro frm ls h; simp [linesGo] at h; subst h; simp
  | cons b r ih =>
    intro frm ls h
    simp only [linesGo] at h
    split at h
    · rename_i h0
      rw [Option.map_eq_some_iff] at h
      obtain ⟨ls', h1, rfl⟩ := h
      obtain ⟨h2, h3⟩ := ih h1
      refine ⟨by simp [h2], fun i hi => ?_⟩
      cases i with
      | zero => exact ⟨frm, rfl, h0⟩
      | succ i =>
        obtain ⟨f, h4, h5⟩ := h3 i (by simpa using hi)
        exact ⟨f, by simpa using h4, by simpa using h5⟩
    · cases h
theorem broken_ends {l : List It} {bs : List Int} (h : brokenS l bs = true) {i : Nat} (hi : i < bs.length) : ends l (bs.getD i 0).toNat = true ∧ prevI bs i < bs.getD i 0 := by
  have h1 := broken_asc h i (by omega)
  rw [asc_drop l bs i hi] at h1
  simp only [Bool.and_eq_true, decide_eq_true_eq] at h1
  exact ⟨h1.1.2.2.2, h1.1.2.2.1⟩
theorem broken_forced {l : List It} {bs : List Int} (h : brokenS l bs = true) {i : Nat} (hi : i < l.length) (h3 : (it l i).kind = 3) (hp : (it l i).penalty = -10000) : bs.contains (i : Int) = true := by
  unfold brokenS at h
  simp only [Bool.and_eq_true] at h
  have h1 := h.2.2
  unfold allForced at h1
  rw [List.all_eq_true] at h1
  have h2 := h1 i (by simp [hi])
  unfold forced at h2
  simpa [hi, h3, hp] using h2
theorem broken_last {l : List It} {bs : List Int} (h : brokenS l bs = true) : 0 < bs.length ∧ bs.getD (bs.length - 1) 0 = l.length := by
  unfold brokenS at h
  simp only [Bool.and_eq_true] at h
  have h1 := h.1
  unfold lastIs at h1
  simp only [decide_eq_true_eq] at h1
  cases hb : bs with
  | nil => rw [hb] at h1; cases h1
  | cons a r =>
    rw [← hb]
    have h2 : 0 < bs.length := by rw [hb]; simp
    rw [List.getLast?_eq_getElem?] at h1
    refine ⟨h2, ?_⟩
    rw [List.getD_eq_getElem?_getD, h1]; rfl
/-- What Break's own breaks are. -/
theorem brk_facts {l : List It} {width : Int} (hw : checkW l width = 0) (hc : check l = 0) (hn : 0 ≤ (pots l width).getD 0 0) :
    ∃ ls, linesS l width ((brk l width).map Int.ofNat) = (ls, 0) ∧ brokenS l ((brk l width).map Int.ofNat) = true ∧ ls.length = (brk l width).length ∧
      ∀ i, i < (brk l width).length → ∃ f, ls.getD i default = mkLine l width f ((brk l width).getD i 0) ∧ (lineOf l width f ((brk l width).getD i 0)).2.2 = true := by
  have hbp := brk_path hc (width := width) (l.length + 1) 0 (by omega) (by omega) hn
  have hbp' : path l width 0 (brk l width) = some ((pots l width).getD 0 0) := hbp
  rw [cost_path hw] at hbp'
  have h2 : (linesS l width ((brk l width).map Int.ofNat)).2 = 0 := by
    unfold costS at hbp'
    split at hbp'
    · assumption
    · rw [Prod.mk.injEq] at hbp'; exact hbp'.2
  unfold linesS at h2 ⊢
  rw [if_pos hw] at h2 ⊢
  cases hb : brokenS l ((brk l width).map Int.ofNat) with
  | false => rw [hb] at h2; simp at h2
  | true =>
    rw [hb] at h2
    simp only [if_true] at h2 ⊢
    cases hg : linesGo l width 0 (natsOf ((brk l width).map Int.ofNat)) with
    | none => rw [hg] at h2; simp at h2
    | some ls =>
      rw [natsOf_map] at hg
      have := linesGo_get hg
      simp only [natsOf_map, hg]
      exact ⟨ls, rfl, trivial, this.1, this.2⟩
theorem fit_fits {l : List It} {width n st sh : Int} {to : Nat} (h : (fit l width n st sh to).2.2 = true) (h0 : 0 ≤ sh) : (if atBreak l to then n + (it l to).width else n) - sh ≤ width := by
  unfold fit at h
  obtain ⟨m, hm⟩ : ∃ m, m = (if atBreak l to then n + (it l to).width else n) := ⟨_, rfl⟩
  rw [← hm] at h ⊢
  simp only at h
  by_cases h1 : 0 ≤ width - m
  · omega
  · rw [if_neg h1] at h
    by_cases h2 : -(width - m) ≤ sh
    · omega
    · rw [if_neg h2] at h; cases h
theorem ends_break {l : List It} {b : Nat} (h : ends l b = true) (hb : b < l.length) (hk : ItemOk (it l b)) : (it l b).kind ≠ 1 ∧ (it l b).penalty ≠ 10000 ∧ ((it l b).kind = 2 → 0 < b ∧ (it l (b - 1)).kind = 1) := by
  unfold ends at h
  obtain ⟨_, _, _, _, _, _, _, _⟩ := hk
  grind
end

section
/-! the text BQ2 -/
open Go Go.Proofs AF P48
set_option maxRecDepth 100000
def bsV (bs : List Nat) : AV := ints (bs.map Int.ofNat)
theorem nat_getD (bs : List Nat) (i : Nat) : (bs.map Int.ofNat).getD i 0 = ((bs.getD i 0 : Nat) : Int) := by
  simp only [List.getD_eq_getElem?_getD, List.getElem?_map]
  cases bs[i]? <;> rfl
set_option maxHeartbeats 8000000 in
theorem law5 (l : List It) (width : Int) (h : List AObj) (hl : l.length ≤ 9223372036854775807) : ACalls Try.prog 5 [items l, .int .i64 width] h (.bool true) h := by
  cases hf : fine l width with
  | false =>
    refine acalls_of fn5 (by simp) ?_
    simp only [List.length_cons, List.length_nil, Nat.reduceAdd, Nat.reduceSub, List.replicate, List.cons_append, List.nil_append, List.append_nil]
    simp (disch := omega) only [c5, hf, go_sem, wrap64_id, Int.tdiv_eq_ediv_of_nonneg, Int.tmod_eq_emod_of_nonneg]
    repeat' first
      | ((first | refine callA_pure (t10 l width _ hl) ?_ ?_ | refine callA_pure (t11 _) ?_ ?_); (next => repeat' first | exact flags_n | refine flags_c (by first | rfl | assumption) ?_); simp (disch := omega) only [hf, go_sem, wrap64_id, Int.tdiv_eq_ediv_of_nonneg, Int.tmod_eq_emod_of_nonneg])
      | ((first | refine callG_pure (fun e => ⟨?_, t10 l width _ hl⟩) ?_ | refine callG_pure (fun e => ⟨?_, t11 _⟩) ?_); (next => repeat' first | exact flags_n | refine flags_c (by first | rfl | assumption) ?_); simp (disch := omega) only [hf, go_sem, wrap64_id, Int.tdiv_eq_ediv_of_nonneg, Int.tmod_eq_emod_of_nonneg])
      | ((first | refine fnQ_pure1 ?_ ?_ | refine fnQ_pure0 ?_ ?_); (next => repeat' first | exact rvs_n | refine rvs_t ?_ | (simp [go_sem]; done)); simp only [go_sem]; (first | exact VLe.refl _ | refine VLe_int ?_ | refine VLe_bool ?_ | refine VLe_str ?_ | skip))
      | (with_reducible refine And.intro ?_ ?_)
      | with_reducible intro _
    all_goals first
      | omega
      | trace_state
  | true =>
    have hg := great_small (fine_great hf)
    obtain ⟨l14, hc, w0, w1⟩ := fine_spec hf
    have hw := fine_checkW hf
    have hv := Valid.of (show l.length ≤ 300 by omega) hc
    by_cases hneg : (pots l width).getD 0 0 < 0
    · have hb : breakAV l width = .tup [ints [], .int .i64 0, .int .i64 23] := by unfold breakAV; rw [if_pos hw, if_pos hneg]
      have hc13 : ∀ h : List AObj, ACalls Try.prog 13 [items l, .int .i64 width] h (.tup [ints [], .int .i64 0, .int .i64 23]) h := fun h => by rw [← hb]; exact t13 l width h (by omega)
      refine acalls_of fn5 (by simp) ?_
      simp only [List.length_cons, List.length_nil, Nat.reduceAdd, Nat.reduceSub, List.replicate, List.cons_append, List.nil_append, List.append_nil]
      simp (disch := omega) only [c5, hf, ints, items, go_sem, wrap64_id, Int.tdiv_eq_ediv_of_nonneg, Int.tmod_eq_emod_of_nonneg]
      repeat' first
        | ((first | refine callA_pure (t10 l width _ hl) ?_ ?_ | refine callA_pure (hc13 _) ?_ ?_ | refine callA_pure (t11 _) ?_ ?_); (next => repeat' first | exact flags_n | refine flags_c (by first | rfl | assumption) ?_); simp (disch := omega) only [hf, ints, items, go_sem, wrap64_id, Int.tdiv_eq_ediv_of_nonneg, Int.tmod_eq_emod_of_nonneg])
        | ((first | refine callG_pure (fun e => ⟨?_, t10 l width _ hl⟩) ?_ | refine callG_pure (fun e => ⟨?_, hc13 _⟩) ?_ | refine callG_pure (fun e => ⟨?_, t11 _⟩) ?_); (next => repeat' first | exact flags_n | refine flags_c (by first | rfl | assumption) ?_); simp (disch := omega) only [hf, ints, items, go_sem, wrap64_id, Int.tdiv_eq_ediv_of_nonneg, Int.tmod_eq_emod_of_nonneg])
        | ((first | refine fnQ_pure1 ?_ ?_ | refine fnQ_pure0 ?_ ?_); (next => repeat' first | exact rvs_n | refine rvs_t ?_ | (simp [go_sem]; done)); simp only [go_sem]; (first | exact VLe.refl _ | refine VLe_int ?_ | refine VLe_bool ?_ | refine VLe_str ?_ | skip))
        | (with_reducible refine And.intro ?_ ?_)
        | with_reducible intro _
      all_goals first
        | omega
        | (rename_i hx; revert hx; simp; done)
        | trace_state
    · obtain ⟨ls, e1, e2, e3, e4⟩ := brk_facts hw hc (by omega)
      obtain ⟨bs, hbs⟩ : ∃ bs, bs = brk l width := ⟨_, rfl⟩
      rw [← hbs] at e1 e2 e3 e4
      obtain ⟨n, hn⟩ : ∃ n, n = (pots l width).getD 0 0 := ⟨_, rfl⟩
      have hb : breakAV l width = .tup [ints (bs.map Int.ofNat), .int .i64 n, .int .i64 0] := by unfold breakAV; rw [if_pos hw, if_neg hneg, hbs, hn]
      have hc13 : ∀ h : List AObj, ACalls Try.prog 13 [items l, .int .i64 width] h (.tup [ints (bs.map Int.ofNat), .int .i64 n, .int .i64 0]) h := fun h => by rw [← hb]; exact t13 l width h (by omega)
      have hbl : bs.length ≤ 15 := by rw [hbs]; exact Nat.le_trans (brkGo_len l width _ _ _) (by omega)
      have hc16 : ∀ h : List AObj, ACalls Try.prog 16 [items l, .int .i64 width, ints (bs.map Int.ofNat)] h (.tup [lnsV ls, .int .i64 0]) h := fun h => by
        have := t16 l width (bs.map Int.ofNat) h (by omega) (by rw [len_nat]; omega) hg.2
        rwa [e1] at this
      have hlast := broken_last e2
      have hends := fun i (hi : i < (bs.map Int.ofNat).length) => broken_ends e2 hi
      have hat := fun i (hi : i < (bs.map Int.ofNat).length) => broken_at e2 hi
      have hfo := fun i (hi : i < l.length) => broken_forced e2 hi
      simp only [nat_getD, len_nat] at hlast hends hat
      have hgd : ∀ i, (bs.map Int.ofNat).getD i 0 = ((bs.getD i 0 : Nat) : Int) := nat_getD bs
      have hll := (len_nat bs).symm
      obtain ⟨B, hB⟩ : ∃ B, B = bs.map Int.ofNat := ⟨_, rfl⟩
      rw [← hB] at hc13 hc16 hfo hgd hll
      rw [hll] at hlast hbl e3
      simp only [hll] at e4 hends hat
      have hc17 : ∀ (i : Nat) (h : List AObj), ACalls Try.prog 17 [ints B, .int .i64 i] h (.bool (B.contains (i : Int))) h := fun i h => t17 B i h (by omega)
      have hx1 : ((B.length : Int) - 1).toNat = B.length - 1 := by omega
      have hlast0 : B.getD (B.length - 1) 0 = (l.length : Int) := (hgd _).trans hlast.2
      have hz : ((B.length : Int) = 0) = False := eq_false (by omega)
      have hlb : ((ls.length : Int) = (B.length : Int)) = True := eq_true (by omega)
      refine acalls_of fn5 (by simp) ?_
      simp only [List.length_cons, List.length_nil, Nat.reduceAdd, Nat.reduceSub, List.replicate, List.cons_append, List.nil_append, List.append_nil]
      simp (disch := omega) only [c5, hf, ints, items, lnsV, go_sem, wrap64_id, Int.tdiv_eq_ediv_of_nonneg, Int.tmod_eq_emod_of_nonneg]
      repeat' first
        | ((first | refine callA_pure (t10 l width _ hl) ?_ ?_ | refine callA_pure (hc13 _) ?_ ?_ | refine callA_pure (hc16 _) ?_ ?_); (next => repeat' first | exact flags_n | refine flags_c (by first | rfl | assumption) ?_); simp (disch := omega) only [hf, ints, items, lnsV, hlb, hlast0, hx1, hz, eq_self, go_sem, wrap64_id, Int.tdiv_eq_ediv_of_nonneg, Int.tmod_eq_emod_of_nonneg])
        | ((first | refine callG_pure (fun e => ⟨?_, t10 l width _ hl⟩) ?_ | refine callG_pure (fun e => ⟨?_, hc13 _⟩) ?_ | refine callG_pure (fun e => ⟨?_, hc16 _⟩) ?_); (next => repeat' first | exact flags_n | refine flags_c (by first | rfl | assumption) ?_); simp (disch := omega) only [hf, ints, items, lnsV, hlb, hlast0, hx1, hz, eq_self, go_sem, wrap64_id, Int.tdiv_eq_ediv_of_nonneg, Int.tmod_eq_emod_of_nonneg])
        | ((first | refine fnQ_pure1 ?_ ?_ | refine fnQ_pure0 ?_ ?_); (next => repeat' first | exact rvs_n | refine rvs_t ?_ | (simp [go_sem]; done)); simp only [go_sem]; (first | exact VLe.refl _ | refine VLe_int ?_ | refine VLe_bool ?_ | refine VLe_str ?_ | skip))
        | (with_reducible refine And.intro ?_ ?_)
        | with_reducible intro _
      all_goals first
        | omega
        | (rename_i hx; revert hx; simp; done)
        | skip
      refine loop_of (T := fun i : Nat × AObj => spar 258 [(0, items l), (1, .int .i64 width), (5, ints B), (8, lnsV ls), (70, items l), (71, .int .i64 l.length), (72, .int .i64 i.1)]) (H := fun i => h ++ [i.2, .emp 0])
        (inv := fun i => i.1 ≤ l.length ∧ site [i.2] 0 = true) (m := fun i => l.length - i.1) (0, .emp 0) ⟨by simp only; omega, rfl⟩ (Wk.temps ?_) ?_
      · (simp only [lnsV, items, ints, spar, List.foldl, List.replicate, go_sem, VLes_nil, VLes_cons, VLe_undef_iff, VLe_self]; try (repeat' first | (with_reducible refine And.intro ?_ ?_) | (refine VLe_int ?_; omega) | (refine VLe_bool ?_; rfl) | exact VLe.refl _))
      · rintro ⟨i, O⟩ ⟨i1, i2⟩ K hK
        simp only at i1 i2 hK
        have i2' : ∀ m, site (O :: m) 0 = true := fun _ => i2
        by_cases hi : i < l.length
        · have hfo' := hfo i hi
          simp (disch := omega) only [spar, List.foldl, List.replicate, items, i2', itemC, go_sem, wrap64_id, Int.tdiv_eq_ediv_of_nonneg, Int.tmod_eq_emod_of_nonneg]
          repeat' first
            | ((first | refine callA_pure (hc17 i _) ?_ ?_); (next => repeat' first | exact flags_n | refine flags_c (by first | rfl | assumption) ?_); simp (disch := omega) only [i2', items, go_sem, wrap64_id, Int.tdiv_eq_ediv_of_nonneg, Int.tmod_eq_emod_of_nonneg])
            | ((first | refine callG_pure (fun e => ⟨?_, hc17 i _⟩) ?_); (next => repeat' first | exact flags_n | refine flags_c (by first | rfl | assumption) ?_); simp (disch := omega) only [i2', items, go_sem, wrap64_id, Int.tdiv_eq_ediv_of_nonneg, Int.tmod_eq_emod_of_nonneg])
            | ((first | refine fnQ_pure1 ?_ ?_ | refine fnQ_pure0 ?_ ?_); (next => repeat' first | exact rvs_n | refine rvs_t ?_ | (simp [go_sem]; done)); simp only [go_sem]; (first | exact VLe.refl _ | refine VLe_int ?_ | refine VLe_bool ?_ | refine VLe_str ?_ | skip))
            | (with_reducible refine And.intro ?_ ?_)
            | with_reducible intro _
          all_goals first
            | omega
            | skip
          · grind
          · refine hK _ _ (i + 1, .mem (verOf (some O) + 1) 28 (itemC (it l i))) ⟨by simp only; omega, rfl⟩ (by simp only; omega) (Wk.temps ?_)
            (simp only [itemC, items, ints, spar, List.foldl, List.replicate, go_sem, VLes_nil, VLes_cons, VLe_undef_iff, VLe_self]; try (repeat' first | (with_reducible refine And.intro ?_ ?_) | (refine VLe_int ?_; omega) | (refine VLe_bool ?_; rfl) | exact VLe.refl _))
        · have e : i = l.length := by omega
          subst e
          simp (disch := omega) only [spar, List.foldl, List.replicate, items, i2', ints, go_sem, wrap64_id, Int.tdiv_eq_ediv_of_nonneg, Int.tmod_eq_emod_of_nonneg]
          repeat' first
            | ((first | refine fnQ_pure1 ?_ ?_ | refine fnQ_pure0 ?_ ?_); (next => repeat' first | exact rvs_n | refine rvs_t ?_ | (simp [go_sem]; done)); simp only [go_sem]; (first | exact VLe.refl _ | refine VLe_int ?_ | refine VLe_bool ?_ | refine VLe_str ?_ | skip))
            | (with_reducible refine And.intro ?_ ?_)
            | with_reducible intro _
          all_goals first
            | omega
            | skip
          refine loop_of (T := fun i : Nat => spar 258 [(0, items l), (1, .int .i64 width), (5, ints B), (8, lnsV ls), (92, ints B), (93, .int .i64 B.length), (94, .int .i64 i)]) (H := fun _ => h ++ [O, .emp 0])
            (inv := fun i => i ≤ B.length) (m := fun i => B.length - i) 0 (by omega) (Wk.temps ?_) ?_
          · (simp only [lnsV, items, ints, spar, List.foldl, List.replicate, go_sem, VLes_nil, VLes_cons, VLe_undef_iff, VLe_self]; try (repeat' first | (with_reducible refine And.intro ?_ ?_) | (refine VLe_int ?_; omega) | (refine VLe_bool ?_; rfl) | exact VLe.refl _))
          · intro i i1 K hK
            by_cases hi : i < B.length
            · obtain ⟨b, hb⟩ : ∃ b, b = bs.getD i 0 := ⟨_, rfl⟩
              have hbi : B.getD i 0 = (b : Int) := by rw [hgd, hb]
              have hx2 : ((i : Int) - 1).toNat = i - 1 := by omega
              have hx3 : ((b : Int) - 1).toNat = b - 1 := by omega
              have g1 := hat i hi
              have g2 := hends i hi
              rw [← hB] at g2
              rw [← hb] at g1 g2
              rw [Int.toNat_natCast] at g2
              obtain ⟨g2, g3⟩ := g2
              have g4 := fun hlt => ends_break g2 hlt (hv.ok b hlt)
              unfold prevI at g3
              simp (disch := omega) only [spar, List.foldl, List.replicate, ints, items, itemC, hbi, hx2, hx3, go_sem, wrap64_id, Int.tdiv_eq_ediv_of_nonneg, Int.tmod_eq_emod_of_nonneg]
              repeat' first
                | ((first | refine fnQ_pure1 ?_ ?_ | refine fnQ_pure0 ?_ ?_); (next => repeat' first | exact rvs_n | refine rvs_t ?_ | (simp [go_sem]; done)); simp only [go_sem]; (first | exact VLe.refl _ | refine VLe_int ?_ | refine VLe_bool ?_ | refine VLe_str ?_ | skip))
                | (with_reducible refine And.intro ?_ ?_)
                | with_reducible intro _
              all_goals first
                | omega
                | skip
              all_goals
                refine hK _ _ (i + 1) (by omega) (by omega) (Wk.temps ?_)
                (simp only [itemC, lnsV, items, ints, spar, List.foldl, List.replicate, go_sem, VLes_nil, VLes_cons, VLe_undef_iff, VLe_self]; try (repeat' first | (with_reducible refine And.intro ?_ ?_) | (refine VLe_int ?_; omega) | (refine VLe_bool ?_; rfl) | exact VLe.refl _))
            · have e : i = B.length := by omega
              subst e
              simp (disch := omega) only [spar, List.foldl, List.replicate, ints, lnsV, go_sem, wrap64_id, Int.tdiv_eq_ediv_of_nonneg, Int.tmod_eq_emod_of_nonneg]
              repeat' first
                | ((first | refine fnQ_pure1 ?_ ?_ | refine fnQ_pure0 ?_ ?_); (next => repeat' first | exact rvs_n | refine rvs_t ?_ | (simp [go_sem]; done)); simp only [go_sem]; (first | exact VLe.refl _ | refine VLe_int ?_ | refine VLe_bool ?_ | refine VLe_str ?_ | skip))
                | (with_reducible refine And.intro ?_ ?_)
                | with_reducible intro _
              all_goals first
                | omega
                | skip
              refine loop_of (T := fun i : Nat × AObj => spar 258 [(0, items l), (1, .int .i64 width), (5, ints B), (160, lnsV ls), (161, .int .i64 ls.length), (162, .int .i64 i.1)]) (H := fun i => h ++ [O, i.2])
                (inv := fun i => i.1 ≤ ls.length ∧ site [i.2] 0 = true) (m := fun i => ls.length - i.1) (0, .emp 0) ⟨by simp only; omega, rfl⟩ (Wk.temps ?_) ?_
              · (simp only [lnsV, items, ints, spar, List.foldl, List.replicate, go_sem, VLes_nil, VLes_cons, VLe_undef_iff, VLe_self]; try (repeat' first | (with_reducible refine And.intro ?_ ?_) | (refine VLe_int ?_; omega) | (refine VLe_bool ?_; rfl) | exact VLe.refl _))
              · rintro ⟨i, O2⟩ ⟨i1, i2⟩ K hK
                simp only at i1 i2 hK
                have i2' : ∀ m, site (O2 :: m) 0 = true := fun _ => i2
                by_cases hi : i < ls.length
                · obtain ⟨f, h4, h5⟩ := e4 i (by omega)
                  have g1 := hat i (by omega)
                  obtain ⟨b, hb⟩ : ∃ b, b = bs.getD i 0 := ⟨_, rfl⟩
                  have hbi : B.getD i 0 = (b : Int) := by rw [hgd, hb]
                  rw [← hb] at h4 h5 g1
                  obtain ⟨x, hx⟩ : ∃ x, x = mkLine l width f b := ⟨_, rfl⟩
                  rw [← hx] at h4
                  obtain ⟨a, ha⟩ : ∃ a, a = begin_ l f b := ⟨_, rfl⟩
                  have x1 : x.frm = (a : Int) := by rw [hx, ha]; rfl
                  have x2 : x.to = (b : Int) := by rw [hx]; rfl
                  have x3 : 0 ≤ x.badness ∧ x.badness ≤ 10000 := by
                    rw [hx]
                    exact fit_nonneg l width (sumOf Item.width l (begin_ l f b) b) (sumOf Item.stretch l (begin_ l f b) b) (sumOf Item.shrink l (begin_ l f b) b) b
                  have hbW : ∀ c, c ≤ 300 → 0 ≤ sumOf Item.width l a c ∧ sumOf Item.width l a c ≤ 400000000000 := fun c hc => sumOf_bound _ l (fun i => (hv.num i).1) a c hc
                  have hbS : ∀ c, c ≤ 300 → 0 ≤ sumOf Item.shrink l a c ∧ sumOf Item.shrink l a c ≤ 400000000000 := fun c hc => sumOf_bound _ l (fun i => (hv.num i).2.2.1) a c hc
                  have x4 := fit_fits (l := l) (width := width) h5 (by rw [← ha]; exact (hbS b (by omega)).1)
                  rw [← ha] at x4
                  unfold atBreak at x4
                  simp only [Bool.and_eq_true, decide_eq_true_eq] at x4
                  have hbb := hv.num b
                  simp (disch := omega) only [spar, List.foldl, List.replicate, ints, items, lnsV, i2', h4, lineC, x1, x2, go_sem, wrap64_id, Int.tdiv_eq_ediv_of_nonneg, Int.tmod_eq_emod_of_nonneg]
                  repeat' first
                    | ((first | refine fnQ_pure1 ?_ ?_ | refine fnQ_pure0 ?_ ?_); (next => repeat' first | exact rvs_n | refine rvs_t ?_ | (simp [go_sem]; done)); simp only [go_sem]; (first | exact VLe.refl _ | refine VLe_int ?_ | refine VLe_bool ?_ | refine VLe_str ?_ | skip))
                    | (with_reducible refine And.intro ?_ ?_)
                    | with_reducible intro _
                  all_goals first
                    | omega
                    | skip
                  refine loop_of (T := fun k : Nat => spar 258 [(0, items l), (1, .int .i64 width), (5, ints B), (14, .int .i64 i), (15, .op (h.length + 1) (verOf (some O2) + 1) 0), (16, .int .i64 (sumOf Item.width l a k)), (17, .int .i64 (sumOf Item.shrink l a k)), (18, .int .i64 k), (160, lnsV ls), (161, .int .i64 ls.length), (162, .int .i64 i)])
                    (H := fun _ => h ++ [O, .mem (verOf (some O2) + 1) 44 (lineC x)]) (inv := fun k => a ≤ k ∧ (k ≤ b ∨ k = a)) (m := fun k => b - k) a ⟨by omega, by omega⟩ ?_ ?_
                  · rw [sumOf_self, sumOf_self]
                    simp only [lineC, x1, x2]
                    refine Wk.temps ?_
                    (simp only [lnsV, items, ints, spar, List.foldl, List.replicate, go_sem, VLes_nil, VLes_cons, VLe_undef_iff, VLe_self]; try (repeat' first | (with_reducible refine And.intro ?_ ?_) | (refine VLe_int ?_; omega) | (refine VLe_bool ?_; rfl) | exact VLe.refl _))
                  · rintro k ⟨k1, k2⟩ K2 hK2
                    by_cases hk : k < b
                    · have s1 := sumOf_snoc Item.width l k1
                      have s2 := sumOf_snoc Item.shrink l k1
                      have q1 := hbW k (by omega)
                      have q2 := hbS k (by omega)
                      have q3 := hv.num k
                      by_cases hk3 : (it l k).kind = 3
                      · rw [if_pos hk3] at s1 s2
                        simp (disch := omega) only [spar, List.foldl, List.replicate, ints, items, lnsV, lineC, itemC, x1, x2, hk3, go_sem, wrap64_id, Int.tdiv_eq_ediv_of_nonneg, Int.tmod_eq_emod_of_nonneg]
                        repeat' first
                          | ((first | refine fnQ_pure1 ?_ ?_ | refine fnQ_pure0 ?_ ?_); (next => repeat' first | exact rvs_n | refine rvs_t ?_ | (simp [go_sem]; done)); simp only [go_sem]; (first | exact VLe.refl _ | refine VLe_int ?_ | refine VLe_bool ?_ | refine VLe_str ?_ | skip))
                          | (with_reducible refine And.intro ?_ ?_)
                          | with_reducible intro _
                        all_goals first
                          | omega
                          | skip
                        all_goals
                          refine hK2 _ _ (k + 1) ⟨by omega, by omega⟩ (by omega) ?_
                          rw [s1, s2, Int.add_zero, Int.add_zero]
                          simp only [lineC, x1, x2]
                          refine Wk.temps ?_
                          (simp only [lnsV, items, ints, spar, List.foldl, List.replicate, go_sem, VLes_nil, VLes_cons, VLe_undef_iff, VLe_self]; try (repeat' first | (with_reducible refine And.intro ?_ ?_) | (refine VLe_int ?_; omega) | (refine VLe_bool ?_; rfl) | exact VLe.refl _))
                      · rw [if_neg hk3] at s1 s2
                        simp (disch := omega) only [spar, List.foldl, List.replicate, ints, items, lnsV, lineC, itemC, x1, x2, hk3, go_sem, wrap64_id, Int.tdiv_eq_ediv_of_nonneg, Int.tmod_eq_emod_of_nonneg]
                        repeat' first
                          | ((first | refine fnQ_pure1 ?_ ?_ | refine fnQ_pure0 ?_ ?_); (next => repeat' first | exact rvs_n | refine rvs_t ?_ | (simp [go_sem]; done)); simp only [go_sem]; (first | exact VLe.refl _ | refine VLe_int ?_ | refine VLe_bool ?_ | refine VLe_str ?_ | skip))
                          | (with_reducible refine And.intro ?_ ?_)
                          | with_reducible intro _
                        all_goals first
                          | omega
                          | skip
                        all_goals
                          refine hK2 _ _ (k + 1) ⟨by omega, by omega⟩ (by omega) ?_
                          rw [s1, s2]
                          simp only [lineC, x1, x2]
                          refine Wk.temps ?_
                          (simp only [lnsV, items, ints, spar, List.foldl, List.replicate, go_sem, VLes_nil, VLes_cons, VLe_undef_iff, VLe_self]; try (repeat' first | (with_reducible refine And.intro ?_ ?_) | (refine VLe_int ?_; omega) | (refine VLe_bool ?_; rfl) | exact VLe.refl _))
                    · have hse : ∀ g : It → Int, sumOf g l a k = sumOf g l a b := by
                        intro g
                        rcases k2 with k2 | k2
                        · rw [show k = b by omega]
                        · rw [k2]; unfold sumOf; rw [show b - a = 0 by omega, Nat.sub_self]
                      rw [hse, hse]
                      have q1 := hbW b (by omega)
                      have q2 := hbS b (by omega)
                      simp (disch := omega) only [spar, List.foldl, List.replicate, ints, items, lnsV, lineC, itemC, x1, x2, hbi, go_sem, wrap64_id, Int.tdiv_eq_ediv_of_nonneg, Int.tmod_eq_emod_of_nonneg]
                      repeat' first
                        | ((first | refine fnQ_pure1 ?_ ?_ | refine fnQ_pure0 ?_ ?_); (next => repeat' first | exact rvs_n | refine rvs_t ?_ | (simp [go_sem]; done)); simp only [go_sem]; (first | exact VLe.refl _ | refine VLe_int ?_ | refine VLe_bool ?_ | refine VLe_str ?_ | skip))
                        | (with_reducible refine And.intro ?_ ?_)
                        | with_reducible intro _
                      all_goals first
                        | omega
                        | skip
                      all_goals
                        refine hK _ _ (i + 1, .mem (verOf (some O2) + 1) 44 (lineC x)) ⟨by simp only; omega, rfl⟩ (by simp only; omega) ?_
                        simp only [lineC, x1, x2]
                        refine Wk.temps ?_
                        (simp only [lnsV, itemC, items, ints, spar, List.foldl, List.replicate, go_sem, VLes_nil, VLes_cons, VLe_undef_iff, VLe_self]; try (repeat' first | (with_reducible refine And.intro ?_ ?_) | (refine VLe_int ?_; omega) | (refine VLe_bool ?_; rfl) | exact VLe.refl _))
                · have e : i = ls.length := by omega
                  subst e
                  simp (disch := omega) only [spar, List.foldl, List.replicate, ints, lnsV, i2', go_sem, wrap64_id, Int.tdiv_eq_ediv_of_nonneg, Int.tmod_eq_emod_of_nonneg]
                  repeat' first
                    | ((first | refine callA_pure (t11 _) ?_ ?_); (next => repeat' first | exact flags_n | refine flags_c (by first | rfl | assumption) ?_); simp (disch := omega) only [lnsV, go_sem, wrap64_id, Int.tdiv_eq_ediv_of_nonneg, Int.tmod_eq_emod_of_nonneg])
                    | ((first | refine callG_pure (fun e => ⟨?_, t11 _⟩) ?_); (next => repeat' first | exact flags_n | refine flags_c (by first | rfl | assumption) ?_); simp (disch := omega) only [lnsV, go_sem, wrap64_id, Int.tdiv_eq_ediv_of_nonneg, Int.tmod_eq_emod_of_nonneg])
                    | ((first | refine fnQ_pure1 ?_ ?_ | refine fnQ_pure0 ?_ ?_); (next => repeat' first | exact rvs_n | refine rvs_t ?_ | (simp [go_sem]; done)); simp only [go_sem]; (first | exact VLe.refl _ | refine VLe_int ?_ | refine VLe_bool ?_ | refine VLe_str ?_ | skip))
                    | (with_reducible refine And.intro ?_ ?_)
                    | with_reducible intro _
                  all_goals first
                    | omega
                    | skip
end

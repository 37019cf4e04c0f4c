import Derived.Test.YtonpflblcnpegaaDoorE1
set_option linter.all false
set_option linter.unusedSimpArgs false
set_option linter.unusedVariables false
set_option linter.unusedSectionVars false
open Go Go.Proofs AF HY
namespace HY
set_option maxRecDepth 100000
theorem _root_.AF.LowI.ret {h hh : List AObj} {ts : List AV} {L : LInfo} (s : LS) (hl : LowI h hh) (hts : ∀ c ∈ ts, lowV (h.length + 1) c = true) :
    (hh ++ [AObj.lp s ts L]).length = (h ++ [AObj.lp .ready ts L]).length ∧ ∀ o ∈ hh ++ [AObj.lp s ts L], o ∈ h ++ [AObj.lp .ready ts L] ∨ lowO (h ++ [AObj.lp .ready ts L]).length o := by
  refine ⟨by simp [hl.1], fun o ho => ?_⟩
  rw [List.length_append, List.length_singleton]
  rcases List.mem_append.1 ho with ho | ho
  · rcases hl.2 o ho with h1 | h1
    · exact .inl (List.mem_append_left _ h1)
    · exact .inr h1.2
  · rw [List.mem_singleton] at ho
    subst ho
    exact .inr hts
theorem u8_range (b : UInt8) : 0 ≤ ((b.toNat : Nat) : Int) ∧ ((b.toNat : Nat) : Int) ≤ 255 := by
  have := b.toNat_lt
  omega
theorem t103b (b : UInt8) (h : List AObj) : ACalls Tryd.prog 71 [.int .u8 (b.toNat : Int)] h (.int .i64 (kind b)) h := t103 _ h (u8_range b).1 (u8_range b).2
theorem t117b (b : UInt8) (h : List AObj) : ACalls Tryd.prog 80 [.int .u8 (b.toNat : Int)] h (.int .i64 (kind b)) h := t117 _ h
theorem t115 (s : List UInt8) (f a : Nat) (h : List AObj) (hf : f < s.length) : ACalls Tryd.prog 77 [.str s, .int .i64 f, .int .i64 a] h (.bool (decide (kind (ch s f) = 1) && decide (f < a))) h := by
  refine acalls_of fn77d (by simp) ?_
  simp only [List.length_cons, List.length_nil, Nat.reduceAdd, Nat.reduceSub, List.replicate, List.cons_append, List.nil_append, List.append_nil]
  simp (disch := omega) only [c77d, ch_eq, go_sem, wrap64_id, Int.tdiv_eq_ediv_of_nonneg, Int.tmod_eq_emod_of_nonneg]
  repeat' first
    | ((first | refine callA_pure (t103b _ _) ?_ ?_); (next => repeat' first | exact flags_n | refine flags_c (by first | rfl | assumption) ?_); simp (disch := omega) only [ch_eq, go_sem, wrap64_id, Int.tdiv_eq_ediv_of_nonneg, Int.tmod_eq_emod_of_nonneg])
    | ((first | refine callG_pure (fun e => ⟨?_, t103b _ _⟩) ?_); (next => repeat' first | exact flags_n | refine flags_c (by first | rfl | assumption) ?_); simp (disch := omega) only [ch_eq, go_sem, wrap64_id, Int.tdiv_eq_ediv_of_nonneg, Int.tmod_eq_emod_of_nonneg])
    | ((first | refine fnQ_pure1 ?_ ?_ | refine fnQ_pure0 ?_ ?_); (next => repeat' first | exact rvs_n | refine rvs_t ?_ | (simp [go_sem]; done)); simp only [go_sem]; (first | exact VLe.refl _ | refine VLe_int ?_ | refine VLe_bool ?_ | refine VLe_str ?_ | skip))
    | (with_reducible refine And.intro ?_ ?_)
    | with_reducible intro _
  all_goals first
    | omega
    | (congr 1; exact decide_eq_decide.2 (by omega))
    | skip
theorem clus_step {s : List UInt8} {f i : Nat} (hf : f < i) (hi : i < s.length) : clusO f ((s.drop f).take (i - f)) (s.drop i) = if kind (ch s i) = 2 ∧ kind (ch s f) = 1 then clusO f ((s.drop f).take (i + 1 - f)) (s.drop (i + 1)) else (f, (s.drop f).take (i - f)) :: clusO i ((s.drop i).take (i + 1 - i)) (s.drop (i + 1)) := by
  have e1 : s.drop i = ch s i :: s.drop (i + 1) := by rw [List.drop_eq_getElem_cons hi]; simp [ch, hi]
  have e2 : ch ((s.drop f).take (i - f)) 0 = ch s f := by simp [ch, List.getD_eq_getElem?_getD, List.getElem?_take, show 0 < i - f by omega]
  have e3 : (s.drop f).take (i + 1 - f) = (s.drop f).take (i - f) ++ [ch s i] := by
    rw [show i + 1 - f = (i - f) + 1 by omega, List.take_add_one, List.getElem?_drop, show f + (i - f) = i by omega]
    simp [ch, List.getD_eq_getElem?_getD, hi]
  have e4 : f + ((s.drop f).take (i - f)).length = i := by rw [List.length_take, List.length_drop]; omega
  have e5 : (s.drop i).take (i + 1 - i) = [ch s i] := by rw [e1, show i + 1 - i = 1 by omega]; rfl
  rw [e5, e1]
  simp only [clusO, e2, e4, e3]
theorem it114 (s : List UInt8) (hs : s.length ≤ 1000000000) : Iter Tryd.prog 76 [.ip [.str s]] ((clusters s).map fun x => [.int .i64 (x.1 : Int), .str x.2]) := by
  intro h ts L S E hS hE body start hts
  refine acallsQ_of fn76d (by simp) ?_
  simp only [List.length_cons, List.length_nil, Nat.reduceAdd, Nat.reduceSub, List.replicate, List.cons_append, List.nil_append, List.append_nil]
  simp (disch := omega) only [c76d, go_sem, wrap64_id, Int.tdiv_eq_ediv_of_nonneg, Int.tmod_eq_emod_of_nonneg]
  repeat' first
    | ((first | refine fnQ_pure1 ?_ ?_ | refine fnQ_pure0 ?_ ?_); (next => repeat' first | exact rvs_n | refine rvs_t ?_ | (simp [go_sem]; done)); simp only [go_sem]; (first | exact VLe.refl _ | refine VLe_int ?_ | refine VLe_bool ?_ | refine VLe_str ?_ | skip))
    | (with_reducible refine And.intro ?_ ?_)
    | with_reducible intro _
  all_goals first
    | omega
    | skip
  refine loop_of (T := fun i : Nat × Nat × Nat × List AObj => spar 37 [(0, .yld h.length), (1, .ip [.str s]), (3, .int .i64 i.1), (4, .int .i64 i.2.1)]) (H := fun i => i.2.2.2 ++ [.lp .ready ts L])
    (inv := fun i => S i.2.2.1 i.2.2.2 ∧ ((i.2.1 ≤ s.length ∧ i.1 < i.2.1 ∧ (clusters s).drop i.2.2.1 = clusO i.1 ((s.drop i.1).take (i.2.1 - i.1)) (s.drop i.2.1)) ∨ (s.length < i.2.1 ∧ i.2.1 ≤ s.length + 1 ∧ i.2.2.1 = (clusters s).length))) (m := fun i => s.length + 1 - i.2.1) (0, 1, 0, h) ⟨start, ?_⟩ (Wk.temps ?_) ?_
  · simp only
    cases s with
    | nil => right; simp [clusters]
    | cons c r => left; simp [clusters]
  · (simp only [spar, List.foldl, List.replicate, go_sem, VLes_nil, VLes_cons, VLe_undef_iff, VLe_self]; try (repeat' first | (with_reducible refine And.intro ?_ ?_) | (refine VLe_int ?_; omega) | (refine VLe_bool ?_; rfl) | exact VLe.refl _))
  · rintro ⟨f, i, j, hh⟩ ⟨i1, i2⟩ K hK
    simp only at i1 i2 hK
    obtain ⟨hlen, hlow⟩ := hS _ _ i1
    rcases i2 with ⟨g1, g2, g3⟩ | ⟨g1, g2, rfl⟩
    · have hjl : j < (clusters s).length := by
        have : (clusters s).drop j ≠ [] := by rw [g3]; exact clusO_ne _ _ _
        by_cases hj : j < (clusters s).length
        · exact hj
        · exact absurd (List.drop_of_length_le (by omega)) this
      by_cases hk : i < s.length ∧ kind (ch s i) = 2 ∧ kind (ch s f) = 1
      · have hst := clus_step g2 hk.1
        rw [if_pos hk.2] at hst
        simp (disch := omega) only [spar, List.foldl, List.replicate, ch_eq, hk.2.1, hk.2.2, go_sem, wrap64_id, Int.tdiv_eq_ediv_of_nonneg, Int.tmod_eq_emod_of_nonneg]
        repeat' first
          | ((first | refine callA_pure (t103b _ _) ?_ ?_ | refine callA_pure (t115 s f i _ (by omega)) ?_ ?_); (next => repeat' first | exact flags_n | refine flags_c (by first | rfl | assumption) ?_); simp (disch := omega) only [ch_eq, hk.2.1, hk.2.2, go_sem, wrap64_id, Int.tdiv_eq_ediv_of_nonneg, Int.tmod_eq_emod_of_nonneg])
          | ((first | refine callG_pure (fun e => ⟨?_, t103b _ _⟩) ?_ | refine callG_pure (fun e => ⟨?_, t115 s f i _ (by omega)⟩) ?_); (next => repeat' first | exact flags_n | refine flags_c (by first | rfl | assumption) ?_); simp (disch := omega) only [ch_eq, hk.2.1, hk.2.2, go_sem, wrap64_id, Int.tdiv_eq_ediv_of_nonneg, Int.tmod_eq_emod_of_nonneg])
          | ((first | refine fnQ_pure1 ?_ ?_ | refine fnQ_pure0 ?_ ?_); (next => repeat' first | exact rvs_n | refine rvs_t ?_ | (simp [go_sem]; done)); simp only [go_sem]; (first | exact VLe.refl _ | refine VLe_int ?_ | refine VLe_bool ?_ | refine VLe_str ?_ | skip))
          | (with_reducible refine And.intro ?_ ?_)
          | with_reducible intro _
        all_goals first
          | omega
          | skip
        refine hK _ _ (f, i + 1, j, hh) ⟨i1, .inl ⟨by simp only; omega, by simp only; omega, by rw [g3, hst]⟩⟩ (by simp only; omega) (Wk.temps ?_)
        (simp only [spar, List.foldl, List.replicate, go_sem, VLes_nil, VLes_cons, VLe_undef_iff, VLe_self]; try (repeat' first | (with_reducible refine And.intro ?_ ?_) | (refine VLe_int ?_; omega) | (refine VLe_bool ?_; rfl) | exact VLe.refl _))
      · obtain ⟨rest, hrest, hr1⟩ : ∃ rest, (clusters s).drop j = (f, (s.drop f).take (i - f)) :: rest ∧ (if i < s.length then rest = clusO i ((s.drop i).take (i + 1 - i)) (s.drop (i + 1)) else rest = []) := by
          by_cases hi : i < s.length
          · have hst := clus_step g2 hi
            rw [if_neg (fun h => hk ⟨hi, h⟩)] at hst
            exact ⟨_, g3.trans hst, by rw [if_pos hi]⟩
          · refine ⟨[], ?_, by rw [if_neg hi]⟩
            rw [g3, show s.drop i = [] from List.drop_of_length_le (by omega)]; rfl
        rw [List.drop_eq_getElem_cons hjl] at hrest
        obtain ⟨hget, hdrop⟩ := List.cons.inj hrest
        have hb := body j hh [] (by simpa using hjl) i1
        rw [List.getElem_map, hget] at hb
        simp only at hb
        have hfit : (i : Int) - f = ((i - f : Nat) : Int) := by omega
        simp (disch := omega) only [spar, List.foldl, List.replicate, ch_eq, go_sem, wrap64_id, Int.tdiv_eq_ediv_of_nonneg, Int.tmod_eq_emod_of_nonneg]
        repeat' first
          | ((first | refine callA_pure (t103b _ _) ?_ ?_ | refine callA_pure (t115 s f i _ (by omega)) ?_ ?_); (next => repeat' first | exact flags_n | refine flags_c (by first | rfl | assumption) ?_); simp (disch := omega) only [ch_eq, go_sem, wrap64_id, Int.tdiv_eq_ediv_of_nonneg, Int.tmod_eq_emod_of_nonneg])
          | ((first | refine callG_pure (fun e => ⟨?_, t103b _ _⟩) ?_ | refine callG_pure (fun e => ⟨?_, t115 s f i _ (by omega)⟩) ?_); (next => repeat' first | exact flags_n | refine flags_c (by first | rfl | assumption) ?_); simp (disch := omega) only [ch_eq, go_sem, wrap64_id, Int.tdiv_eq_ediv_of_nonneg, Int.tmod_eq_emod_of_nonneg])
          | ((first | refine fnQ_pure1 ?_ ?_ | refine fnQ_pure0 ?_ ?_); (next => repeat' first | exact rvs_n | refine rvs_t ?_ | (simp [go_sem]; done)); simp only [go_sem]; (first | exact VLe.refl _ | refine VLe_int ?_ | refine VLe_bool ?_ | refine VLe_str ?_ | skip))
          | (with_reducible refine And.intro ?_ ?_)
          | with_reducible intro _
        all_goals first
          | omega
          | exact ⟨.ready, ts, L, getO_i hlen⟩
          | skip
        refine AYield.mono ?_ hb
        rintro v h' ⟨hh', ⟨rfl, hn, rfl⟩ | ⟨st, rfl, hs', rfl⟩⟩
        · simp (disch := omega) only [go_sem, wrap64_id, Int.tdiv_eq_ediv_of_nonneg, Int.tmod_eq_emod_of_nonneg]
          repeat' first
            | ((first | refine fnQ_pure1 ?_ ?_ | refine fnQ_pure0 ?_ ?_); (next => repeat' first | exact rvs_n | refine rvs_t ?_ | (simp [go_sem]; done)); simp only [go_sem]; (first | exact VLe.refl _ | refine VLe_int ?_ | refine VLe_bool ?_ | refine VLe_str ?_ | skip))
            | (with_reducible refine And.intro ?_ ?_)
            | with_reducible intro _
          all_goals first
            | omega
            | (rename_i hx; revert hx; simp; done)
            | skip
          by_cases hi : i < s.length
          · rw [if_pos hi] at hr1
            refine hK _ _ (i, i + 1, j + 1, hh') ⟨hn, .inl ⟨by simp only; omega, by simp only; omega, by simp only; rw [hdrop, hr1]⟩⟩ (by simp only; omega) (Wk.temps ?_)
            (simp only [spar, List.foldl, List.replicate, go_sem, VLes_nil, VLes_cons, VLe_undef_iff, VLe_self]; try (repeat' first | (with_reducible refine And.intro ?_ ?_) | (refine VLe_int ?_; omega) | (refine VLe_bool ?_; rfl) | exact VLe.refl _))
          · rw [if_neg hi] at hr1
            refine hK _ _ (i, i + 1, j + 1, hh') ⟨hn, .inr ⟨by simp only; omega, by simp only; omega, ?_⟩⟩ (by simp only; omega) (Wk.temps ?_)
            · have : ((clusters s).drop (j + 1)).length = 0 := by rw [hdrop, hr1]; rfl
              rw [List.length_drop] at this
              simp only; omega
            · (simp only [spar, List.foldl, List.replicate, go_sem, VLes_nil, VLes_cons, VLe_undef_iff, VLe_self]; try (repeat' first | (with_reducible refine And.intro ?_ ?_) | (refine VLe_int ?_; omega) | (refine VLe_bool ?_; rfl) | exact VLe.refl _))
        · simp (disch := omega) only [go_sem, wrap64_id, Int.tdiv_eq_ediv_of_nonneg, Int.tmod_eq_emod_of_nonneg]
          obtain ⟨r1, r2⟩ := (hE _ _ hs').ret (L := L) st hts
          exact fnQ_eff0 trivial r1 r2 ⟨_, .inr ⟨st, hs', rfl⟩⟩ (VLe.refl _)
    · simp (disch := omega) only [spar, List.foldl, List.replicate, go_sem, wrap64_id, Int.tdiv_eq_ediv_of_nonneg, Int.tmod_eq_emod_of_nonneg]
      repeat' first
        | ((first | refine fnQ_pure1 ?_ ?_ | refine fnQ_pure0 ?_ ?_); (next => repeat' first | exact rvs_n | refine rvs_t ?_ | (simp [go_sem]; done)); simp only [go_sem]; (first | exact VLe.refl _ | refine VLe_int ?_ | refine VLe_bool ?_ | refine VLe_str ?_ | skip))
        | (with_reducible refine And.intro ?_ ?_)
        | with_reducible intro _
      all_goals first
        | omega
        | skip
      obtain ⟨r1, r2⟩ := (hS _ _ i1).ret (L := L) .ready hts
      exact fnQ_effn0 trivial r1 r2 ⟨hh, .inl ⟨by simpa using i1, rfl⟩⟩ (VLe.refl _)
end HY

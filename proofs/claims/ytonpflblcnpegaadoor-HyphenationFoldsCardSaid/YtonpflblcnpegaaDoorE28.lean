import Derived.Test.YtonpflblcnpegaaDoorE27
set_option linter.all false
set_option linter.unusedSimpArgs false
set_option linter.unusedVariables false
set_option linter.unusedSectionVars false
open Go Go.Proofs AF HY
namespace HY
set_option maxRecDepth 100000
def dg (b : UInt8) : Bool := decide (kindI (b.toNat : Int) = 3)
theorem u79 (b : UInt8) (h : List AObj) : ACalls Tryd.prog 79 [.int .u8 (b.toNat : Int)] h (.bool (dg b)) h := by
  have hb : b.toNat < 256 := b.toNat_lt
  have c71 := fun h => t103 (b.toNat : Int) h (by omega) (by omega)
  unfold dg
  refine acalls_of fn79d (by simp) ?_
  simp only [List.length_cons, List.length_nil, Nat.reduceAdd, Nat.reduceSub, List.replicate, List.cons_append, List.nil_append, List.append_nil]
  simp (disch := omega) only [c79d, go_sem, wrap64_id, Int.tdiv_eq_ediv_of_nonneg, Int.tmod_eq_emod_of_nonneg]
  repeat' first
    | ((first | refine callA_pure (c71 _) ?_ ?_); (next => repeat' first | exact flags_n | refine flags_c (by first | rfl | assumption) ?_); simp (disch := omega) only [go_sem, wrap64_id, Int.tdiv_eq_ediv_of_nonneg, Int.tmod_eq_emod_of_nonneg])
    | ((first | refine callG_pure (fun e => ⟨?_, c71 _⟩) ?_); (next => repeat' first | exact flags_n | refine flags_c (by first | rfl | assumption) ?_); simp (disch := omega) only [go_sem, wrap64_id, Int.tdiv_eq_ediv_of_nonneg, Int.tmod_eq_emod_of_nonneg])
    | ((first | refine fnQ_pure1 ?_ ?_ | refine fnQ_pure0 ?_ ?_); (next => repeat' first | exact rvs_n | refine rvs_t ?_ | (simp [go_sem]; done)); simp only [go_sem]; (first | exact VLe.refl _ | refine VLe_int ?_ | refine VLe_bool ?_ | refine VLe_str ?_ | skip))
    | (with_reducible refine And.intro ?_ ?_)
    | with_reducible intro _
  all_goals first
    | omega
    | (rename_i hx; revert hx; simp; done)
    | (simp; done)
    | skip
theorem dg_iff (b : UInt8) : dg b = true ↔ 48 ≤ b.toNat ∧ b.toNat ≤ 57 := by
  unfold dg
  rw [decide_eq_true_eq]
  have hb : b.toNat < 256 := b.toNat_lt
  grind [kindI]
/-- A digit that may not stand where it stands. -/
def badD (s : List UInt8) (i : Nat) : Bool := dg (s.getD i 0) && (decide (s.getD i 0 = 48) || (decide (i + 1 < s.length) && (dg (s.getD (i + 1) 0) || decide (kindI ((s.getD (i + 1) 0).toNat : Int) = 2))))
def letB (s : List UInt8) : List UInt8 := s.filter fun b => !dg b
theorem letB_t {s : List UInt8} {i : Nat} (hi : i < s.length) (h : dg (s.getD i 0) = true) : letB (s.take (i + 1)) = letB (s.take i) := by
  have e : s.getD i 0 = s[i] := by rw [List.getD_eq_getElem?_getD, List.getElem?_eq_getElem hi]; rfl
  rw [e] at h
  unfold letB
  rw [List.take_add_one, List.getElem?_eq_getElem hi, List.filter_append]
  simp [h]
theorem letB_f {s : List UInt8} {i : Nat} (hi : i < s.length) (h : dg (s.getD i 0) = false) : letB (s.take (i + 1)) = letB (s.take i) ++ (s.drop i).take 1 := by
  have e : s.getD i 0 = s[i] := by rw [List.getD_eq_getElem?_getD, List.getElem?_eq_getElem hi]; rfl
  rw [e] at h
  unfold letB
  rw [List.take_add_one, List.getElem?_eq_getElem hi, List.filter_append, List.drop_eq_getElem_cons hi]
  show _ ++ List.filter _ [s[i]] = _ ++ [s[i]]
  simp [h]
theorem letB_le (s : List UInt8) (i : Nat) : (letB (s.take i)).length ≤ s.length := by
  have := List.length_filter_le (fun b => !dg b) (s.take i)
  rw [List.length_take] at this
  unfold letB
  omega
def lvStep (s : List UInt8) (st : Nat × List Int) (u : List UInt8) : Nat × List Int :=
  if dg (s.getD st.1 0) then (st.1 + 1 + u.length, st.2 ++ [((s.getD st.1 0).toNat : Int) - 48]) else (st.1 + u.length, st.2 ++ [0])
def lvAll (s : List UInt8) (us : List (List UInt8)) : Nat × List Int := us.foldl (lvStep s) (0, [])
def lastLv (s : List UInt8) (a : Nat) : Int := if a < s.length then ((s.getD a 0).toNat : Int) - 48 else 0
def levB (s : List UInt8) : List Int := (lvAll s (clus (letB s))).2 ++ [lastLv s (lvAll s (clus (letB s))).1]
def okPart (s : List UInt8) : Prop := s ≠ [] ∧ (∀ i, i < s.length → badD s i = false) ∧
  (∀ i, i < (clus (letB s)).length → (lvAll s ((clus (letB s)).take i)).1 < s.length) ∧ ((lvAll s (clus (letB s))).1 < s.length → dg (s.getD (lvAll s (clus (letB s))).1 0) = true)
theorem lvAll_succ (s : List UInt8) (us : List (List UInt8)) {i : Nat} (hi : i < us.length) : lvAll s (us.take (i + 1)) = lvStep s (lvAll s (us.take i)) (us.getD i []) := by
  unfold lvAll
  rw [List.take_add_one, List.getElem?_eq_getElem hi, List.foldl_append, List.getD_eq_getElem?_getD, List.getElem?_eq_getElem hi]
  rfl
theorem lvAll_len (s : List UInt8) (us : List (List UInt8)) : (lvAll s us).2.length = us.length := by
  have : ∀ (us : List (List UInt8)) (st : Nat × List Int), (us.foldl (lvStep s) st).2.length = st.2.length + us.length := by
    intro us
    induction us with
    | nil => intro st; rfl
    | cons u us ih =>
      intro st
      rw [List.foldl_cons, ih, List.length_cons]
      have : (lvStep s st u).2.length = st.2.length + 1 := by unfold lvStep; split <;> simp
      omega
  have := this us (0, [])
  rw [List.length_nil, Nat.zero_add] at this
  exact this
theorem lvAll_at (s : List UInt8) (us : List (List UInt8)) : (lvAll s us).1 ≤ us.length + us.flatten.length := by
  have : ∀ (us : List (List UInt8)) (st : Nat × List Int), (us.foldl (lvStep s) st).1 ≤ st.1 + us.length + us.flatten.length := by
    intro us
    induction us with
    | nil => intro st; simp
    | cons u us ih =>
      intro st
      rw [List.foldl_cons, List.flatten_cons, List.length_append, List.length_cons]
      have h1 := ih (lvStep s st u)
      have : (lvStep s st u).1 ≤ st.1 + 1 + u.length := by unfold lvStep; split <;> simp <;> omega
      omega
  have := this us (0, [])
  rw [Nat.zero_add] at this
  exact this
def lvV (b k : Nat) : AV := if k = 0 then .nl else .osl b k 1 0 k
def lvO (k : Nat) (L : List Int) : AObj := if k = 0 then .emp 0 else .mem k 3 (intsC L)
theorem lvV0 (b : Nat) : lvV b 0 = .nl := rfl
theorem lvV1 (b k : Nat) : lvV b (k + 1) = .osl b (k + 1) 1 0 (k + 1) := rfl
theorem lvO0 (L : List Int) : lvO 0 L = .emp 0 := rfl
theorem lvO1 (k : Nat) (L : List Int) : lvO (k + 1) L = .mem (k + 1) 3 (intsC L) := rfl
def lvT (k : Nat) (x : Int) : AObj := if k = 0 then .emp 0 else .mem k 3 [.int .i64 x]
theorem lvT0 (x : Int) : lvT 0 x = .emp 0 := rfl
theorem lvT1 (k : Nat) (x : Int) : lvT (k + 1) x = .mem (k + 1) 3 [.int .i64 x] := rfl
theorem getD_snoc (l : List Int) (x : Int) : (l ++ [x]).getD l.length 0 = x := by simp [List.getD_eq_getElem?_getD]
theorem lv_next {h : List AObj} {L : List UInt8} {us : List (List UInt8)} {s : List UInt8} {k a' : Nat} {lv : List Int} {x : Int} (hl : lv.length = k) (hsu : lvAll s (us.take (k + 1)) = (a', lv ++ [x])) :
    h ++ [AObj.mem 1 32 [.str [], .nl], .mem 1 32 [.str L, lvV (h.length + 3) (k + 1)], lvT (k + 1) ((lvAll s (us.take (k + 1))).2.getD (k + 1 - 1) 0), lvO (k + 1) (lvAll s (us.take (k + 1))).2, .emp 0, .emp 0] =
    h ++ [AObj.mem 1 32 [.str [], .nl], .mem 1 32 [.str L, .osl (h.length + 3) (k + 1) 1 0 (k + 1)], .mem (k + 1) 3 [.int .i64 x], .mem (k + 1) 3 (intsC lv ++ [.int .i64 x]), .emp 0, .emp 0] := by
  subst hl
  rw [hsu, lvV1, lvT1, lvO1]
  simp only [Nat.add_sub_cancel, getD_snoc, intsC_snoc]
set_option maxHeartbeats 4000000 in
theorem u46 (s : List UInt8) (h : List AObj) (hs : s.length ≤ 1000000000) (ho : okPart s) : ACalls Tryd.prog 46 [.str s] h (.tup [.agg [.str (letB s), intsV (levB s)], .bool true]) h := by
  obtain ⟨o0, o1, o2, o3⟩ := ho
  have k0 : (s = []) = False := eq_false o0
  refine acalls_of fn46d (by simp) ?_
  simp only [List.length_cons, List.length_nil, Nat.reduceAdd, Nat.reduceSub, List.replicate, List.cons_append, List.nil_append, List.append_nil]
  simp (disch := omega) only [c46d, k0, go_sem, wrap64_id, Int.tdiv_eq_ediv_of_nonneg, Int.tmod_eq_emod_of_nonneg]
  repeat' first
    | ((first | refine fnQ_pure1 ?_ ?_ | refine fnQ_pure0 ?_ ?_); (next => repeat' first | exact rvs_n | refine rvs_t ?_ | (simp [go_sem]; done)); simp only [go_sem]; (first | exact VLe.refl _ | refine VLe_int ?_ | refine VLe_bool ?_ | refine VLe_str ?_ | skip))
    | (with_reducible refine And.intro ?_ ?_)
    | with_reducible intro _
  all_goals first
    | omega
    | (rename_i hx; revert hx; simp; done)
    | (simp; done)
    | skip
  refine loop_of (T := fun i : Nat => spar 106 [(0, .str s), (2, .op h.length 1 0), (4, .op (h.length + 1) 1 0), (6, .int .i64 i)])
    (H := fun i => h ++ [.mem 1 32 [.str [], .nl], .mem 1 32 [.str (letB (s.take i)), .nl], .emp 0, .emp 0, .emp 0, .emp 0])
    (inv := fun i => i ≤ s.length) (m := fun i => s.length - i) 0 (by omega) (Wk.temps ?_) ?_
  · (simp only [spar, List.foldl, List.replicate, go_sem, VLes_nil, VLes_cons, VLe_undef_iff, VLe_self]; try (repeat' first | (with_reducible refine And.intro ?_ ?_) | (refine VLe_int ?_; omega) | (refine VLe_bool ?_; rfl) | exact VLe.refl _))
  rintro i i1 K hK
  by_cases hi : i < s.length
  · have c79 := fun h => u79 (s.getD i 0) h
    have hlb := letB_le s i
    have hbad := o1 i hi
    unfold badD at hbad
    cases hd : dg (s.getD i 0) with
    | false =>
      rw [hd] at c79
      simp (disch := omega) only [spar, List.foldl, List.replicate, go_sem, wrap64_id, Int.tdiv_eq_ediv_of_nonneg, Int.tmod_eq_emod_of_nonneg]
      repeat' first
        | ((first | refine callA_pure (c79 _) ?_ ?_); (next => repeat' first | exact flags_n | refine flags_c (by first | rfl | assumption) ?_); simp (disch := omega) only [spar, go_sem, wrap64_id, Int.tdiv_eq_ediv_of_nonneg, Int.tmod_eq_emod_of_nonneg])
        | ((first | refine callG_pure (fun e => ⟨?_, c79 _⟩) ?_); (next => repeat' first | exact flags_n | refine flags_c (by first | rfl | assumption) ?_); simp (disch := omega) only [spar, go_sem, wrap64_id, Int.tdiv_eq_ediv_of_nonneg, Int.tmod_eq_emod_of_nonneg])
        | ((first | refine fnQ_pure1 ?_ ?_ | refine fnQ_pure0 ?_ ?_); (next => repeat' first | exact rvs_n | refine rvs_t ?_ | (simp [go_sem]; done)); simp only [go_sem]; (first | exact VLe.refl _ | refine VLe_int ?_ | refine VLe_bool ?_ | refine VLe_str ?_ | skip))
        | (with_reducible refine And.intro ?_ ?_)
        | with_reducible intro _
      all_goals first
        | omega
        | (rename_i hx; revert hx; simp; done)
        | (simp; done)
        | skip
      · rw [List.length_take, List.length_drop]; omega
      · have f1 : ((i : Int) + 1).toNat - i = 1 := by omega
        rw [f1, ← letB_f hi hd]
        refine hK _ _ (i + 1) (by omega) (by omega) (Wk.temps ?_)
        (simp only [spar, List.foldl, List.replicate, go_sem, VLes_nil, VLes_cons, VLe_undef_iff, VLe_self]; try (repeat' first | (with_reducible refine And.intro ?_ ?_) | (refine VLe_int ?_; omega) | (refine VLe_bool ?_; rfl) | exact VLe.refl _))
    | true =>
      rw [hd] at c79 hbad
      simp only [Bool.true_and, Bool.or_eq_false_iff, decide_eq_false_iff_not, Bool.and_eq_false_imp, decide_eq_true_eq] at hbad
      obtain ⟨b1, b2⟩ := hbad
      have k2 : (((s.getD i 0).toNat : Int) = 48) = False := eq_false (fun e => b1 (UInt8.toNat_inj.1 (by simpa using (show (s.getD i 0).toNat = 48 by omega))))
      have k2' : (((s[i]?.getD 0).toNat : Int) = 48) = False := k2
      by_cases hn : i + 1 < s.length
      · obtain ⟨b3, b4⟩ := b2 hn
        have k3 : ((i : Int) + 1 < s.length) = True := eq_true (by omega)
        have c79b := fun h => u79 (s.getD (i + 1) 0) h
        rw [b3] at c79b
        have hlt := (s.getD (i + 1) 0).toNat_lt
        have c71 := fun h => t103 ((s.getD (i + 1) 0).toNat : Int) h (by omega) (by omega)
        have k4 : (kindI ((s.getD (i + 1) 0).toNat : Int) = 2) = False := eq_false b4
        have k4' : (kindI ((s[i + 1]?.getD 0).toNat : Int) = 2) = False := k4
        have f0 : ((i : Int) + 1).toNat = i + 1 := by omega
        simp (disch := omega) only [spar, List.foldl, List.replicate, k2, k2', k3, k4, k4', go_sem, wrap64_id, Int.tdiv_eq_ediv_of_nonneg, Int.tmod_eq_emod_of_nonneg]
        repeat' first
          | ((first | refine callA_pure (c79 _) ?_ ?_ | refine callA_pure (c79b _) ?_ ?_ | refine callA_pure (c71 _) ?_ ?_); (next => repeat' first | exact flags_n | refine flags_c (by first | rfl | assumption) ?_); simp (disch := omega) only [spar, k2, k2', k3, k4, k4', go_sem, wrap64_id, Int.tdiv_eq_ediv_of_nonneg, Int.tmod_eq_emod_of_nonneg])
          | ((first | refine callG_pure (fun e => ⟨?_, c79 _⟩) ?_ | refine callG_pure (fun e => ⟨?_, c79b _⟩) ?_ | refine callG_pure (fun e => ⟨?_, c71 _⟩) ?_); (next => repeat' first | exact flags_n | refine flags_c (by first | rfl | assumption) ?_); simp (disch := omega) only [spar, k2, k2', k3, k4, k4', go_sem, wrap64_id, Int.tdiv_eq_ediv_of_nonneg, Int.tmod_eq_emod_of_nonneg])
          | ((first | refine fnQ_pure1 ?_ ?_ | refine fnQ_pure0 ?_ ?_); (next => repeat' first | exact rvs_n | refine rvs_t ?_ | (simp [go_sem]; done)); simp only [go_sem]; (first | exact VLe.refl _ | refine VLe_int ?_ | refine VLe_bool ?_ | refine VLe_str ?_ | skip))
          | (with_reducible refine And.intro ?_ ?_)
          | with_reducible intro _
        all_goals first
          | omega
          | (rename_i hx; revert hx; simp; done)
          | (simp; done)
          | skip
        rw [← letB_t hi hd]
        refine hK _ _ (i + 1) (by omega) (by omega) (Wk.temps ?_)
        (simp only [spar, List.foldl, List.replicate, go_sem, VLes_nil, VLes_cons, VLe_undef_iff, VLe_self]; try (repeat' first | (with_reducible refine And.intro ?_ ?_) | (refine VLe_int ?_; omega) | (refine VLe_bool ?_; rfl) | exact VLe.refl _))
      · have k3 : ((i : Int) + 1 < s.length) = False := eq_false (by omega)
        simp (disch := omega) only [spar, List.foldl, List.replicate, k2, k2', k3, go_sem, wrap64_id, Int.tdiv_eq_ediv_of_nonneg, Int.tmod_eq_emod_of_nonneg]
        repeat' first
          | ((first | refine callA_pure (c79 _) ?_ ?_); (next => repeat' first | exact flags_n | refine flags_c (by first | rfl | assumption) ?_); simp (disch := omega) only [spar, k2, k2', k3, go_sem, wrap64_id, Int.tdiv_eq_ediv_of_nonneg, Int.tmod_eq_emod_of_nonneg])
          | ((first | refine callG_pure (fun e => ⟨?_, c79 _⟩) ?_); (next => repeat' first | exact flags_n | refine flags_c (by first | rfl | assumption) ?_); simp (disch := omega) only [spar, k2, k2', k3, go_sem, wrap64_id, Int.tdiv_eq_ediv_of_nonneg, Int.tmod_eq_emod_of_nonneg])
          | ((first | refine fnQ_pure1 ?_ ?_ | refine fnQ_pure0 ?_ ?_); (next => repeat' first | exact rvs_n | refine rvs_t ?_ | (simp [go_sem]; done)); simp only [go_sem]; (first | exact VLe.refl _ | refine VLe_int ?_ | refine VLe_bool ?_ | refine VLe_str ?_ | skip))
          | (with_reducible refine And.intro ?_ ?_)
          | with_reducible intro _
        all_goals first
          | omega
          | (rename_i hx; revert hx; simp; done)
          | (simp; done)
          | skip
        refine callG_false (.bool false) ?_
        simp (disch := omega) only [spar, k2, k2', k3, go_sem, wrap64_id, Int.tdiv_eq_ediv_of_nonneg, Int.tmod_eq_emod_of_nonneg]
        refine callG_false (.int .i64 0) ?_
        simp (disch := omega) only [spar, k2, k2', k3, go_sem, wrap64_id, Int.tdiv_eq_ediv_of_nonneg, Int.tmod_eq_emod_of_nonneg]
        repeat' first
          | ((first | refine fnQ_pure1 ?_ ?_ | refine fnQ_pure0 ?_ ?_); (next => repeat' first | exact rvs_n | refine rvs_t ?_ | (simp [go_sem]; done)); simp only [go_sem]; (first | exact VLe.refl _ | refine VLe_int ?_ | refine VLe_bool ?_ | refine VLe_str ?_ | skip))
          | (with_reducible refine And.intro ?_ ?_)
          | with_reducible intro _
        all_goals first
          | omega
          | (rename_i hx; revert hx; simp; done)
          | (simp; done)
          | skip
        rw [← letB_t hi hd]
        refine hK _ _ (i + 1) (by omega) (by omega) (Wk.temps ?_)
        (simp only [spar, List.foldl, List.replicate, go_sem, VLes_nil, VLes_cons, VLe_undef_iff, VLe_self]; try (repeat' first | (with_reducible refine And.intro ?_ ?_) | (refine VLe_int ?_; omega) | (refine VLe_bool ?_; rfl) | exact VLe.refl _))
  have e : i = s.length := by omega
  subst e
  rw [List.take_length]
  clear hK
  obtain ⟨L, hL⟩ : ∃ L, L = letB s := ⟨_, rfl⟩
  have hLl : L.length ≤ s.length := by have := letB_le s s.length; rw [List.take_length] at this; rw [hL]; exact this
  rw [← hL] at o2 o3 ⊢
  have c49 := fun h => t105 L h (by omega)
  unfold levB
  rw [← hL]
  have hcl := clus_len L
  have hjn := clus_join L
  obtain ⟨us, hus⟩ : ∃ us, us = clus L := ⟨_, rfl⟩
  rw [← hus] at o2 o3 hcl hjn c49 ⊢
  simp (disch := omega) only [spar, List.foldl, List.replicate, go_sem, wrap64_id, Int.tdiv_eq_ediv_of_nonneg, Int.tmod_eq_emod_of_nonneg]
  repeat' first
    | ((first | refine callA_pure (c49 _) ?_ ?_); (next => repeat' first | exact flags_n | refine flags_c (by first | rfl | assumption) ?_); simp (disch := omega) only [strs, go_sem, wrap64_id, Int.tdiv_eq_ediv_of_nonneg, Int.tmod_eq_emod_of_nonneg])
    | ((first | refine callG_pure (fun e => ⟨?_, c49 _⟩) ?_); (next => repeat' first | exact flags_n | refine flags_c (by first | rfl | assumption) ?_); simp (disch := omega) only [strs, go_sem, wrap64_id, Int.tdiv_eq_ediv_of_nonneg, Int.tmod_eq_emod_of_nonneg])
    | ((first | refine fnQ_pure1 ?_ ?_ | refine fnQ_pure0 ?_ ?_); (next => repeat' first | exact rvs_n | refine rvs_t ?_ | (simp [go_sem]; done)); simp only [go_sem]; (first | exact VLe.refl _ | refine VLe_int ?_ | refine VLe_bool ?_ | refine VLe_str ?_ | skip))
    | (with_reducible refine And.intro ?_ ?_)
    | with_reducible intro _
  all_goals first
    | omega
    | (rename_i hx; revert hx; simp; done)
    | (simp; done)
    | skip
  refine loop_of (T := fun k : Nat => spar 106 [(0, .str s), (2, .op h.length 1 0), (4, .op (h.length + 1) 1 0), (7, .int .i64 (lvAll s (us.take k)).1), (62, strs us), (63, .int .i64 us.length), (64, .int .i64 k)])
    (H := fun k => h ++ [.mem 1 32 [.str [], .nl], .mem 1 32 [.str L, lvV (h.length + 3) k], lvT k ((lvAll s (us.take k)).2.getD (k - 1) 0), lvO k (lvAll s (us.take k)).2, .emp 0, .emp 0])
    (inv := fun k => k ≤ us.length) (m := fun k => us.length - k) 0 (by omega) (Wk.temps ?_) ?_
  · (simp only [strs, spar, List.foldl, List.replicate, go_sem, VLes_nil, VLes_cons, VLe_undef_iff, VLe_self]; try (repeat' first | (with_reducible refine And.intro ?_ ?_) | (refine VLe_int ?_; omega) | (refine VLe_bool ?_; rfl) | exact VLe.refl _))
  rintro k q1 K2 hK2
  by_cases hk : k < us.length
  · have ho := o2 k hk
    have hll := lvAll_len s (us.take k)
    rw [List.length_take, Nat.min_eq_left q1] at hll
    have hsu := lvAll_succ s us hk
    have hle := lvAll_at s (us.take (k + 1))
    rw [hsu] at hle
    have hsf : (us.take (k + 1)).flatten.length ≤ s.length := by have := flatten_take_le us (k + 1); rw [hjn] at this; omega
    have hstl : (us.take (k + 1)).length ≤ s.length := by rw [List.length_take]; omega
    obtain ⟨st, hst⟩ : ∃ st, st = lvAll s (us.take k) := ⟨_, rfl⟩
    rw [← hst] at ho hll hsu hle
    obtain ⟨a, lv⟩ := st
    simp only at ho hll
    have hst1 : (lvAll s (us.take k)).1 = a := by rw [← hst]
    have hst2 : (lvAll s (us.take k)).2 = lv := by rw [← hst]
    have c79 := fun h => u79 (s.getD a 0) h
    have eI := intsC_len lv
    have eT : List.take k (intsC lv) = intsC lv := List.take_of_length_le (by omega)
    cases hd : dg (s.getD a 0) with
    | true =>
      have hd2 := (dg_iff _).1 hd
      unfold lvStep at hsu hle
      simp only at hsu hle
      rw [if_pos hd] at hsu hle
      simp only at hle
      rw [hd] at c79
      have e6 : IntKind.i64.wrap (IntKind.u8.wrap (((s[a]?.getD 0).toNat : Int) - 48)) = ((s.getD a 0).toNat : Int) - 48 := by
        show IntKind.i64.wrap (IntKind.u8.wrap (((s.getD a 0).toNat : Int) - 48)) = _
        rw [wrap8_id (by omega) (by omega), wrap64_id (by omega) (by omega)]
      rw [← hst]
      cases k with
      | zero =>
        have e0 : lv = [] := List.eq_nil_of_length_eq_zero hll
        subst e0
        simp (disch := omega) only [spar, List.foldl, List.replicate, strs, lvV0, lvO0, lvT0, madeA1, go_sem, wrap64_id, Int.tdiv_eq_ediv_of_nonneg, Int.tmod_eq_emod_of_nonneg]
        repeat' first
          | ((first | refine callA_pure (c79 _) ?_ ?_); (next => repeat' first | exact flags_n | refine flags_c (by first | rfl | assumption) ?_); simp (disch := omega) only [spar, strs, madeA1, go_sem, wrap64_id, Int.tdiv_eq_ediv_of_nonneg, Int.tmod_eq_emod_of_nonneg])
          | ((first | refine callG_pure (fun e => ⟨?_, c79 _⟩) ?_); (next => repeat' first | exact flags_n | refine flags_c (by first | rfl | assumption) ?_); simp (disch := omega) only [spar, strs, madeA1, go_sem, wrap64_id, Int.tdiv_eq_ediv_of_nonneg, Int.tmod_eq_emod_of_nonneg])
          | ((first | refine fnQ_pure1 ?_ ?_ | refine fnQ_pure0 ?_ ?_); (next => repeat' first | exact rvs_n | refine rvs_t ?_ | (simp [go_sem]; done)); simp only [go_sem]; (first | exact VLe.refl _ | refine VLe_int ?_ | refine VLe_bool ?_ | refine VLe_str ?_ | skip))
          | (with_reducible refine And.intro ?_ ?_)
          | with_reducible intro _
        all_goals first
          | omega
          | (rename_i hx; revert hx; simp; done)
          | (simp; done)
          | skip
        rw [e6]
        refine Eq.mp (congrArg (K2 _) (lv_next (k := 0) (lv := []) rfl hsu)) (hK2 _ _ (0 + 1) (by omega) (by omega) (Wk.temps ?_))
        (simp only [strs, hsu, spar, List.foldl, List.replicate, go_sem, VLes_nil, VLes_cons, VLe_undef_iff, VLe_self]; try (repeat' first | (with_reducible refine And.intro ?_ ?_) | (refine VLe_int ?_; omega) | (refine VLe_bool ?_; rfl) | exact VLe.refl _))
      | succ k =>
        simp (disch := omega) only [spar, List.foldl, List.replicate, strs, lvV1, lvO1, lvT1, eI, eT, hll, madeA1, go_sem, wrap64_id, Int.tdiv_eq_ediv_of_nonneg, Int.tmod_eq_emod_of_nonneg]
        repeat' first
          | ((first | refine callA_pure (c79 _) ?_ ?_); (next => repeat' first | exact flags_n | refine flags_c (by first | rfl | assumption) ?_); simp (disch := omega) only [spar, strs, eI, eT, hll, madeA1, go_sem, wrap64_id, Int.tdiv_eq_ediv_of_nonneg, Int.tmod_eq_emod_of_nonneg])
          | ((first | refine callG_pure (fun e => ⟨?_, c79 _⟩) ?_); (next => repeat' first | exact flags_n | refine flags_c (by first | rfl | assumption) ?_); simp (disch := omega) only [spar, strs, eI, eT, hll, madeA1, go_sem, wrap64_id, Int.tdiv_eq_ediv_of_nonneg, Int.tmod_eq_emod_of_nonneg])
          | ((first | refine fnQ_pure1 ?_ ?_ | refine fnQ_pure0 ?_ ?_); (next => repeat' first | exact rvs_n | refine rvs_t ?_ | (simp [go_sem]; done)); simp only [go_sem]; (first | exact VLe.refl _ | refine VLe_int ?_ | refine VLe_bool ?_ | refine VLe_str ?_ | skip))
          | (with_reducible refine And.intro ?_ ?_)
          | with_reducible intro _
        all_goals first
          | omega
          | (rename_i hx; revert hx; simp; done)
          | (simp; done)
          | skip
        rw [e6]
        refine Eq.mp (congrArg (K2 _) (lv_next hll hsu)) (hK2 _ _ (k + 1 + 1) (by omega) (by omega) (Wk.temps ?_))
        (simp only [strs, hsu, spar, List.foldl, List.replicate, go_sem, VLes_nil, VLes_cons, VLe_undef_iff, VLe_self]; try (repeat' first | (with_reducible refine And.intro ?_ ?_) | (refine VLe_int ?_; omega) | (refine VLe_bool ?_; rfl) | exact VLe.refl _))
    | false =>
      unfold lvStep at hsu hle
      simp only at hsu hle
      rw [if_neg (by rw [hd]; simp)] at hsu hle
      simp only at hle
      rw [hd] at c79
      rw [← hst]
      cases k with
      | zero =>
        have e0 : lv = [] := List.eq_nil_of_length_eq_zero hll
        subst e0
        simp (disch := omega) only [spar, List.foldl, List.replicate, strs, lvV0, lvO0, lvT0, madeA1, go_sem, wrap64_id, Int.tdiv_eq_ediv_of_nonneg, Int.tmod_eq_emod_of_nonneg]
        repeat' first
          | ((first | refine callA_pure (c79 _) ?_ ?_); (next => repeat' first | exact flags_n | refine flags_c (by first | rfl | assumption) ?_); simp (disch := omega) only [spar, strs, madeA1, go_sem, wrap64_id, Int.tdiv_eq_ediv_of_nonneg, Int.tmod_eq_emod_of_nonneg])
          | ((first | refine callG_pure (fun e => ⟨?_, c79 _⟩) ?_); (next => repeat' first | exact flags_n | refine flags_c (by first | rfl | assumption) ?_); simp (disch := omega) only [spar, strs, madeA1, go_sem, wrap64_id, Int.tdiv_eq_ediv_of_nonneg, Int.tmod_eq_emod_of_nonneg])
          | ((first | refine fnQ_pure1 ?_ ?_ | refine fnQ_pure0 ?_ ?_); (next => repeat' first | exact rvs_n | refine rvs_t ?_ | (simp [go_sem]; done)); simp only [go_sem]; (first | exact VLe.refl _ | refine VLe_int ?_ | refine VLe_bool ?_ | refine VLe_str ?_ | skip))
          | (with_reducible refine And.intro ?_ ?_)
          | with_reducible intro _
        all_goals first
          | omega
          | (rename_i hx; revert hx; simp; done)
          | (simp; done)
          | skip
        refine Eq.mp (congrArg (K2 _) (lv_next (k := 0) (lv := []) rfl hsu)) (hK2 _ _ (0 + 1) (by omega) (by omega) (Wk.temps ?_))
        (simp only [strs, hsu, spar, List.foldl, List.replicate, go_sem, VLes_nil, VLes_cons, VLe_undef_iff, VLe_self]; try (repeat' first | (with_reducible refine And.intro ?_ ?_) | (refine VLe_int ?_; omega) | (refine VLe_bool ?_; rfl) | exact VLe.refl _))
      | succ k =>
        simp (disch := omega) only [spar, List.foldl, List.replicate, strs, lvV1, lvO1, lvT1, eI, eT, hll, madeA1, go_sem, wrap64_id, Int.tdiv_eq_ediv_of_nonneg, Int.tmod_eq_emod_of_nonneg]
        repeat' first
          | ((first | refine callA_pure (c79 _) ?_ ?_); (next => repeat' first | exact flags_n | refine flags_c (by first | rfl | assumption) ?_); simp (disch := omega) only [spar, strs, eI, eT, hll, madeA1, go_sem, wrap64_id, Int.tdiv_eq_ediv_of_nonneg, Int.tmod_eq_emod_of_nonneg])
          | ((first | refine callG_pure (fun e => ⟨?_, c79 _⟩) ?_); (next => repeat' first | exact flags_n | refine flags_c (by first | rfl | assumption) ?_); simp (disch := omega) only [spar, strs, eI, eT, hll, madeA1, go_sem, wrap64_id, Int.tdiv_eq_ediv_of_nonneg, Int.tmod_eq_emod_of_nonneg])
          | ((first | refine fnQ_pure1 ?_ ?_ | refine fnQ_pure0 ?_ ?_); (next => repeat' first | exact rvs_n | refine rvs_t ?_ | (simp [go_sem]; done)); simp only [go_sem]; (first | exact VLe.refl _ | refine VLe_int ?_ | refine VLe_bool ?_ | refine VLe_str ?_ | skip))
          | (with_reducible refine And.intro ?_ ?_)
          | with_reducible intro _
        all_goals first
          | omega
          | (rename_i hx; revert hx; simp; done)
          | (simp; done)
          | skip
        refine Eq.mp (congrArg (K2 _) (lv_next hll hsu)) (hK2 _ _ (k + 1 + 1) (by omega) (by omega) (Wk.temps ?_))
        (simp only [strs, hsu, spar, List.foldl, List.replicate, go_sem, VLes_nil, VLes_cons, VLe_undef_iff, VLe_self]; try (repeat' first | (with_reducible refine And.intro ?_ ?_) | (refine VLe_int ?_; omega) | (refine VLe_bool ?_; rfl) | exact VLe.refl _))
  have e : k = us.length := by omega
  subst e
  rw [List.take_length]
  have hll := lvAll_len s us
  have hle := lvAll_at s us
  rw [hjn] at hle
  have hus0 : us.length = 0 → us = [] := List.eq_nil_of_length_eq_zero
  clear hK2
  obtain ⟨st, hst⟩ : ∃ st, st = lvAll s us := ⟨_, rfl⟩
  rw [← hst] at o3 hll hle ⊢
  obtain ⟨a, lv⟩ := st
  simp only at o3 hll hle ⊢
  have eI := intsC_len lv
  obtain ⟨n, hn⟩ : ∃ n, n = us.length := ⟨_, rfl⟩
  rw [← hn] at hll ⊢
  have eT : List.take n (intsC lv) = intsC lv := List.take_of_length_le (by omega)
  by_cases ha : a < s.length
  · have hd2 := (dg_iff _).1 (o3 ha)
    have k7 : ((a : Int) < s.length) = True := eq_true (by omega)
    have e6 : IntKind.i64.wrap (IntKind.u8.wrap (((s[a]?.getD 0).toNat : Int) - 48)) = ((s.getD a 0).toNat : Int) - 48 := by
      show IntKind.i64.wrap (IntKind.u8.wrap (((s.getD a 0).toNat : Int) - 48)) = _
      rw [wrap8_id (by omega) (by omega), wrap64_id (by omega) (by omega)]
    have e7 : lastLv s a = ((s.getD a 0).toNat : Int) - 48 := if_pos ha
    rw [e7]
    cases n with
    | zero =>
      have e0 : lv = [] := List.eq_nil_of_length_eq_zero hll
      subst e0
      simp (disch := omega) only [spar, List.foldl, List.replicate, strs, lvV0, lvO0, lvT0, madeA1, k7, go_sem, wrap64_id, Int.tdiv_eq_ediv_of_nonneg, Int.tmod_eq_emod_of_nonneg]
      repeat' first
        | ((first | refine fnQ_pure1 ?_ ?_ | refine fnQ_pure0 ?_ ?_); (next => repeat' first | exact rvs_n | refine rvs_t ?_ | (simp [go_sem]; done)); simp only [go_sem]; (first | exact VLe.refl _ | refine VLe_int ?_ | refine VLe_bool ?_ | refine VLe_str ?_ | skip))
        | (with_reducible refine And.intro ?_ ?_)
        | with_reducible intro _
      all_goals first
        | omega
        | (rename_i hx; revert hx; simp; done)
        | (simp; done)
        | skip
      rw [e6]
      exact VLe_tup ⟨VLe_agg ⟨VLe.refl _, intsV_of (p := [((s.getD a 0).toNat : Int) - 48]) rfl, trivial⟩, VLe.refl _, trivial⟩
    | succ n =>
      simp (disch := omega) only [spar, List.foldl, List.replicate, strs, lvV1, lvO1, lvT1, eI, eT, hll, madeA1, k7, go_sem, wrap64_id, Int.tdiv_eq_ediv_of_nonneg, Int.tmod_eq_emod_of_nonneg]
      repeat' first
        | ((first | refine fnQ_pure1 ?_ ?_ | refine fnQ_pure0 ?_ ?_); (next => repeat' first | exact rvs_n | refine rvs_t ?_ | (simp [go_sem]; done)); simp only [go_sem]; (first | exact VLe.refl _ | refine VLe_int ?_ | refine VLe_bool ?_ | refine VLe_str ?_ | skip))
        | (with_reducible refine And.intro ?_ ?_)
        | with_reducible intro _
      all_goals first
        | omega
        | (rename_i hx; revert hx; simp; done)
        | (simp; done)
        | skip
      rw [e6, ← intsC_snoc, if_pos (by rw [intsC_len, List.length_append]; simp; omega)]
      exact VLe_tup ⟨VLe_agg ⟨VLe.refl _, intsV_of (by rw [List.length_append]; simp; omega), trivial⟩, VLe.refl _, trivial⟩
  · have k7 : ((a : Int) < s.length) = False := eq_false (by omega)
    have e7 : lastLv s a = 0 := if_neg ha
    rw [e7]
    cases n with
    | zero =>
      have e0 : lv = [] := List.eq_nil_of_length_eq_zero hll
      subst e0
      simp (disch := omega) only [spar, List.foldl, List.replicate, strs, lvV0, lvO0, lvT0, madeA1, k7, go_sem, wrap64_id, Int.tdiv_eq_ediv_of_nonneg, Int.tmod_eq_emod_of_nonneg]
      repeat' first
        | ((first | refine fnQ_pure1 ?_ ?_ | refine fnQ_pure0 ?_ ?_); (next => repeat' first | exact rvs_n | refine rvs_t ?_ | (simp [go_sem]; done)); simp only [go_sem]; (first | exact VLe.refl _ | refine VLe_int ?_ | refine VLe_bool ?_ | refine VLe_str ?_ | skip))
        | (with_reducible refine And.intro ?_ ?_)
        | with_reducible intro _
      all_goals first
        | omega
        | (rename_i hx; revert hx; simp; done)
        | (simp; done)
        | skip
      exact VLe_tup ⟨VLe_agg ⟨VLe.refl _, intsV_of (p := [0]) rfl, trivial⟩, VLe.refl _, trivial⟩
    | succ n =>
      simp (disch := omega) only [spar, List.foldl, List.replicate, strs, lvV1, lvO1, lvT1, eI, eT, hll, madeA1, k7, go_sem, wrap64_id, Int.tdiv_eq_ediv_of_nonneg, Int.tmod_eq_emod_of_nonneg]
      repeat' first
        | ((first | refine fnQ_pure1 ?_ ?_ | refine fnQ_pure0 ?_ ?_); (next => repeat' first | exact rvs_n | refine rvs_t ?_ | (simp [go_sem]; done)); simp only [go_sem]; (first | exact VLe.refl _ | refine VLe_int ?_ | refine VLe_bool ?_ | refine VLe_str ?_ | skip))
        | (with_reducible refine And.intro ?_ ?_)
        | with_reducible intro _
      all_goals first
        | omega
        | (rename_i hx; revert hx; simp; done)
        | (simp; done)
        | skip
      rw [← intsC_snoc, if_pos (by rw [intsC_len, List.length_append]; simp; omega)]
      exact VLe_tup ⟨VLe_agg ⟨VLe.refl _, intsV_of (by rw [List.length_append]; simp; omega), trivial⟩, VLe.refl _, trivial⟩
end HY

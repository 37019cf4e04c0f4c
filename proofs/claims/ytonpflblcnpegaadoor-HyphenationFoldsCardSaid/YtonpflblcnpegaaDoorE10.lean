import Derived.Test.YtonpflblcnpegaaDoorE9
set_option linter.all false
set_option linter.unusedSimpArgs false
set_option linter.unusedVariables false
set_option linter.unusedSectionVars false
open Go Go.Proofs AF HY
namespace HY
set_option maxRecDepth 100000
theorem wrap8_id {n : Int} (h0 : 0 ≤ n) (h1 : n ≤ 255) : IntKind.u8.wrap n = n := by
  have e1 : (2 : Int) ^ IntKind.bits IntKind.u8 = 256 := rfl
  have e3 : IntKind.signed IntKind.u8 = false := rfl
  unfold IntKind.wrap
  rw [e1, e3]
  simp only [Bool.false_and, Bool.false_eq_true, if_false]
  omega
theorem foldB_nat (c : UInt8) : ((foldB c).toNat : Int) = if 65 ≤ (c.toNat : Int) ∧ (c.toNat : Int) ≤ 90 then (c.toNat : Int) + 32 else (c.toNat : Int) := by
  have hc := c.toNat_lt
  unfold foldB
  have e1 : (65 ≤ c) = (65 ≤ c.toNat) := by rw [UInt8.le_iff_toNat_le]; rfl
  have e2 : (c ≤ 90) = (c.toNat ≤ 90) := by rw [UInt8.le_iff_toNat_le]; rfl
  simp only [e1, e2]
  by_cases h : 65 ≤ c.toNat ∧ c.toNat ≤ 90
  · rw [if_pos h, if_pos (by omega), UInt8.toNat_add]
    have : (32 : UInt8).toNat = 32 := rfl
    rw [this]; omega
  · rw [if_neg h, if_neg (by omega)]
/-- The bytes when the first i of them have been folded. -/
def fcur (s : List UInt8) (i : Nat) : List UInt8 := (fold s).take i ++ s.drop i
theorem fcur_len (s : List UInt8) (i : Nat) (h : i ≤ s.length) : (fcur s i).length = s.length := by simp [fcur, fold]; omega
theorem fcur_get {s : List UInt8} {i : Nat} (h : i < s.length) : (bytesA (fcur s i))[i]? = some (.int .u8 ((ch s i).toNat : Int)) := by
  simp only [bytesA, fcur, List.getElem?_map]
  rw [List.getElem?_append_right (by simp [fold]; omega)]
  simp [fold, ch, List.getD_eq_getElem?_getD, Nat.min_eq_left (Nat.le_of_lt h), h]
theorem fcur_set {s : List UInt8} {i : Nat} (h : i < s.length) : List.take i (bytesA (fcur s i)) ++ [.int .u8 ((foldB (ch s i)).toNat : Int)] ++ List.drop (i + 1) (bytesA (fcur s i)) = bytesA (fcur s (i + 1)) := by
  simp only [bytesA, fcur, List.map_append, List.map_take, List.map_drop]
  have hl : (List.take i (List.map (fun b => AV.int .u8 ((b.toNat : Nat) : Int)) (fold s))).length = i := by simp [fold]; omega
  rw [List.take_append_of_le_length (by omega), List.take_of_length_le (by omega)]
  rw [show i + 1 = (List.take i (List.map (fun b => AV.int .u8 ((b.toNat : Nat) : Int)) (fold s))).length + 1 by omega]
  rw [List.drop_append, Nat.add_sub_cancel_left, List.drop_of_length_le (by omega), hl, List.nil_append, List.drop_drop]
  rw [List.take_add_one]
  congr 1
  congr 1
  simp [fold, ch, List.getD_eq_getElem?_getD, h]
theorem fcur_skip {s : List UInt8} {i : Nat} (h : i < s.length) (hb : foldB (ch s i) = ch s i) : fcur s (i + 1) = fcur s i := by
  unfold fcur
  rw [List.take_add_one, List.drop_eq_getElem_cons h]
  have : (fold s)[i]?.toList = [s[i]] := by
    have e : ch s i = s[i] := by simp [ch, h]
    rw [e] at hb
    simp [fold, h, hb]
  rw [this]; simp
theorem fcur_end (s : List UInt8) : fcur s s.length = fold s := by
  unfold fcur fold
  rw [List.drop_length, List.append_nil, List.take_of_length_le (by simp)]
theorem t141 (s : List UInt8) (h : List AObj) (hs : s.length ≤ 1000000000) : ACalls Tryd.prog 18 [.str s] h (.str (fold s)) h := by
  have h0 : bytesA s = bytesA (fcur s 0) := by simp [fcur]
  refine acalls_of fn18d (by simp) ?_
  simp only [List.length_cons, List.length_nil, Nat.reduceAdd, Nat.reduceSub, List.replicate, List.cons_append, List.nil_append, List.append_nil]
  simp (disch := omega) only [c18d, h0, go_sem, wrap64_id, Int.tdiv_eq_ediv_of_nonneg, Int.tmod_eq_emod_of_nonneg]
  repeat' first
    | ((first | refine fnQ_pure1 ?_ ?_ | refine fnQ_pure0 ?_ ?_); (next => repeat' first | exact rvs_n | refine rvs_t ?_ | (simp [go_sem]; done)); simp only [go_sem]; (first | exact VLe.refl _ | refine VLe_int ?_ | refine VLe_bool ?_ | refine VLe_str ?_ | skip))
    | (with_reducible refine And.intro ?_ ?_)
    | with_reducible intro _
  all_goals first
    | omega
    | (rename_i hx; revert hx; simp; done)
    | (simp; done)
    | skip
  refine loop_of (T := fun i : Nat => spar 30 [(3, .osl h.length 1 1 0 s.length), (8, .osl h.length 1 1 0 s.length), (9, .int .i64 s.length), (10, .int .i64 i)]) (H := fun i => h ++ [.mem 1 (5 + markTy) (bytesA (fcur s i))]) (inv := fun i => i ≤ s.length) (m := fun i => s.length - i) 0 (by omega) (Wk.temps ?_) ?_
  · (simp only [spar, List.foldl, List.replicate, go_sem, VLes_nil, VLes_cons, VLe_undef_iff, VLe_self]; try (repeat' first | (with_reducible refine And.intro ?_ ?_) | (refine VLe_int ?_; omega) | (refine VLe_bool ?_; rfl) | exact VLe.refl _))
  · intro i i1 K hK
    have hlen : (bytesA (fcur s i)).length = s.length := by rw [bytesA_len, fcur_len s i i1]
    by_cases hi : i < s.length
    · have hg := fcur_get hi
      have hst := fcur_set hi
      have hb := foldB_nat (ch s i)
      have hr := u8_range (ch s i)
      obtain ⟨c, hc⟩ : ∃ c : Int, c = ((ch s i).toNat : Int) := ⟨_, rfl⟩
      rw [← hc] at hg hb hr
      by_cases hu : 65 ≤ c ∧ c ≤ 90
      · rw [if_pos hu] at hb
        rw [hb] at hst
        have he : c - 65 + 97 = c + 32 := by omega
        simp (disch := omega) only [spar, List.foldl, List.replicate, hg, hlen, wrap8_id, he, go_sem, wrap64_id, Int.tdiv_eq_ediv_of_nonneg, Int.tmod_eq_emod_of_nonneg]
        repeat' first
          | ((first | refine fnQ_pure1 ?_ ?_ | refine fnQ_pure0 ?_ ?_); (next => repeat' first | exact rvs_n | refine rvs_t ?_ | (simp [go_sem]; done)); simp only [go_sem]; (first | exact VLe.refl _ | refine VLe_int ?_ | refine VLe_bool ?_ | refine VLe_str ?_ | skip))
          | (with_reducible refine And.intro ?_ ?_)
          | with_reducible intro _
        all_goals first
          | omega
          | (rename_i hx; revert hx; simp; done)
          | (simp; done)
          | skip
        rw [hst]
        refine hK _ _ (i + 1) (by omega) (by omega) (Wk.temps ?_)
        (simp only [spar, List.foldl, List.replicate, go_sem, VLes_nil, VLes_cons, VLe_undef_iff, VLe_self]; try (repeat' first | (with_reducible refine And.intro ?_ ?_) | (refine VLe_int ?_; omega) | (refine VLe_bool ?_; rfl) | exact VLe.refl _))
      · rw [if_neg hu] at hb
        have hsk := fcur_skip hi (by rw [← UInt8.toNat_inj]; omega)
        simp (disch := omega) only [spar, List.foldl, List.replicate, hg, hlen, go_sem, wrap64_id, Int.tdiv_eq_ediv_of_nonneg, Int.tmod_eq_emod_of_nonneg]
        repeat' first
          | ((first | refine fnQ_pure1 ?_ ?_ | refine fnQ_pure0 ?_ ?_); (next => repeat' first | exact rvs_n | refine rvs_t ?_ | (simp [go_sem]; done)); simp only [go_sem]; (first | exact VLe.refl _ | refine VLe_int ?_ | refine VLe_bool ?_ | refine VLe_str ?_ | skip))
          | (with_reducible refine And.intro ?_ ?_)
          | with_reducible intro _
        all_goals first
          | omega
          | (rename_i hx; revert hx; simp; done)
          | (simp; done)
          | skip
        refine hK _ _ (i + 1) (by omega) (by omega) ?_
        rw [hsk]
        refine Wk.temps ?_
        (simp only [spar, List.foldl, List.replicate, go_sem, VLes_nil, VLes_cons, VLe_undef_iff, VLe_self]; try (repeat' first | (with_reducible refine And.intro ?_ ?_) | (refine VLe_int ?_; omega) | (refine VLe_bool ?_; rfl) | exact VLe.refl _))
    · have e : i = s.length := by omega
      subst e
      rw [fcur_end] at hlen ⊢
      have hT : List.take s.length (bytesA (fold s)) = bytesA (fold s) := List.take_of_length_le (by omega)
      simp (disch := omega) only [spar, List.foldl, List.replicate, hlen, hT, byteOf_bytesA, go_sem, wrap64_id, Int.tdiv_eq_ediv_of_nonneg, Int.tmod_eq_emod_of_nonneg]
      repeat' first
        | ((first | refine fnQ_pure1 ?_ ?_ | refine fnQ_pure0 ?_ ?_); (next => repeat' first | exact rvs_n | refine rvs_t ?_ | (simp [go_sem]; done)); simp only [go_sem]; (first | exact VLe.refl _ | refine VLe_int ?_ | refine VLe_bool ?_ | refine VLe_str ?_ | skip))
        | (with_reducible refine And.intro ?_ ?_)
        | with_reducible intro _
      all_goals first
        | omega
        | (rename_i hx; revert hx; simp; done)
        | (simp; done)
        | skip
      all_goals
        rename_i c hc
        exact isByte_bytesA c hc

theorem bytesA_snoc (s : List UInt8) (c : UInt8) : bytesA (s ++ [c]) = bytesA s ++ [.int .u8 (c.toNat : Int)] := by simp [bytesA]
theorem t132 (s : List UInt8) (h : List AObj) (hs : s.length ≤ 1000000000) : ACalls Tryd.prog 65 [.str s] h (.str (fold s)) h := by
  refine acalls_of fn65d (by simp) ?_
  simp only [List.length_cons, List.length_nil, Nat.reduceAdd, Nat.reduceSub, List.replicate, List.cons_append, List.nil_append, List.append_nil]
  simp (disch := omega) only [c65d, madeA, go_sem, wrap64_id, Int.tdiv_eq_ediv_of_nonneg, Int.tmod_eq_emod_of_nonneg]
  repeat' first
    | ((first | refine fnQ_pure1 ?_ ?_ | refine fnQ_pure0 ?_ ?_); (next => repeat' first | exact rvs_n | refine rvs_t ?_ | (simp [go_sem]; done)); simp only [go_sem]; (first | exact VLe.refl _ | refine VLe_int ?_ | refine VLe_bool ?_ | refine VLe_str ?_ | skip))
    | (with_reducible refine And.intro ?_ ?_)
    | with_reducible intro _
  all_goals first
    | omega
    | (rename_i hx; revert hx; simp; done)
    | (simp; done)
    | skip
  refine loop_of (T := fun i : Nat × Nat × AObj => spar 31 [(0, .str s), (3, .osl h.length i.2.1 1 0 i.1), (4, .int .i64 i.1)]) (H := fun i => h ++ [.mem i.2.1 5 (bytesA ((fold s).take i.1)), i.2.2, .emp 0])
    (inv := fun i => i.1 ≤ s.length ∧ site [i.2.2] 0 = true) (m := fun i => s.length - i.1) (0, 1, .emp 0) ⟨by simp, rfl⟩ (Wk.temps ?_) ?_
  · (simp only [spar, List.foldl, List.replicate, go_sem, VLes_nil, VLes_cons, VLe_undef_iff, VLe_self]; try (repeat' first | (with_reducible refine And.intro ?_ ?_) | (refine VLe_int ?_; omega) | (refine VLe_bool ?_; rfl) | exact VLe.refl _))
  · rintro ⟨i, v, O⟩ ⟨i1, i2⟩ K hK
    simp only at i1 i2 hK
    have i2' : ∀ m, site (O :: m) 0 = true := fun _ => i2
    have hfl : (fold s).length = s.length := by simp [fold]
    have eL : (bytesA ((fold s).take i)).length = i := by rw [bytesA_len, List.length_take]; omega
    have eT : List.take i (bytesA ((fold s).take i)) = bytesA ((fold s).take i) := List.take_of_length_le (by omega)
    by_cases hi : i < s.length
    · have hb := foldB_nat (ch s i)
      have hr := u8_range (ch s i)
      have hnx : bytesA ((fold s).take (i + 1)) = bytesA ((fold s).take i) ++ [.int .u8 ((foldB (ch s i)).toNat : Int)] := by
        rw [List.take_add_one, ← bytesA_snoc]
        congr 2
        simp [fold, ch, List.getD_eq_getElem?_getD, hi]
      by_cases hu : 65 ≤ ((ch s i).toNat : Int) ∧ ((ch s i).toNat : Int) ≤ 90
      · rw [if_pos hu] at hb
        have he : ((ch s i).toNat : Int) + 97 - 65 = ((ch s i).toNat : Int) + 32 := by omega
        rw [hb] at hnx
        simp (disch := omega) only [spar, List.foldl, List.replicate, ch_eq, i2', eL, eT, madeA, wrap8_id, he, go_sem, wrap64_id, Int.tdiv_eq_ediv_of_nonneg, Int.tmod_eq_emod_of_nonneg]
        repeat' first
          | ((first | refine fnQ_pure1 ?_ ?_ | refine fnQ_pure0 ?_ ?_); (next => repeat' first | exact rvs_n | refine rvs_t ?_ | (simp [go_sem]; done)); simp only [go_sem]; (first | exact VLe.refl _ | refine VLe_int ?_ | refine VLe_bool ?_ | refine VLe_str ?_ | skip))
          | (with_reducible refine And.intro ?_ ?_)
          | with_reducible intro _
        all_goals first
          | omega
          | (rename_i hx; revert hx; simp; done)
          | (simp; done)
          | skip
        refine hK _ _ (i + 1, v + 1, .mem (verOf (some O) + 1) 5 [.int .u8 (((ch s i).toNat : Int) + 32)]) ⟨by simp only; omega, rfl⟩ (by simp only; omega) ?_
        simp only [hnx]
        refine Wk.temps ?_
        (simp only [spar, List.foldl, List.replicate, go_sem, VLes_nil, VLes_cons, VLe_undef_iff, VLe_self]; try (repeat' first | (with_reducible refine And.intro ?_ ?_) | (refine VLe_int ?_; omega) | (refine VLe_bool ?_; rfl) | exact VLe.refl _))
      · rw [if_neg hu] at hb
        rw [hb] at hnx
        simp (disch := omega) only [spar, List.foldl, List.replicate, ch_eq, i2', eL, eT, madeA, go_sem, wrap64_id, Int.tdiv_eq_ediv_of_nonneg, Int.tmod_eq_emod_of_nonneg]
        repeat' first
          | ((first | refine fnQ_pure1 ?_ ?_ | refine fnQ_pure0 ?_ ?_); (next => repeat' first | exact rvs_n | refine rvs_t ?_ | (simp [go_sem]; done)); simp only [go_sem]; (first | exact VLe.refl _ | refine VLe_int ?_ | refine VLe_bool ?_ | refine VLe_str ?_ | skip))
          | (with_reducible refine And.intro ?_ ?_)
          | with_reducible intro _
        all_goals first
          | omega
          | (rename_i hx; revert hx; simp; done)
          | (simp; done)
          | skip
        refine hK _ _ (i + 1, v + 1, .mem (verOf (some O) + 1) 5 [.int .u8 ((ch s i).toNat : Int)]) ⟨by simp only; omega, rfl⟩ (by simp only; omega) ?_
        simp only [hnx]
        refine Wk.temps ?_
        (simp only [spar, List.foldl, List.replicate, go_sem, VLes_nil, VLes_cons, VLe_undef_iff, VLe_self]; try (repeat' first | (with_reducible refine And.intro ?_ ?_) | (refine VLe_int ?_; omega) | (refine VLe_bool ?_; rfl) | exact VLe.refl _))
    · have e : i = s.length := by omega
      subst e
      rw [List.take_of_length_le (show (fold s).length ≤ s.length by omega)] at eL eT ⊢
      simp (disch := omega) only [spar, List.foldl, List.replicate, eL, eT, byteOf_bytesA, go_sem, wrap64_id, Int.tdiv_eq_ediv_of_nonneg, Int.tmod_eq_emod_of_nonneg]
      repeat' first
        | ((first | refine fnQ_pure1 ?_ ?_ | refine fnQ_pure0 ?_ ?_); (next => repeat' first | exact rvs_n | refine rvs_t ?_ | (simp [go_sem]; done)); simp only [go_sem]; (first | exact VLe.refl _ | refine VLe_int ?_ | refine VLe_bool ?_ | refine VLe_str ?_ | skip))
        | (with_reducible refine And.intro ?_ ?_)
        | with_reducible intro _
      all_goals first
        | omega
        | (rename_i hx; revert hx; simp; done)
        | (simp; done)
        | skip
      all_goals
        rename_i c hc
        exact isByte_bytesA c hc
end HY

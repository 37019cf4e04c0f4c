import Derived.Test.YtonpflblcnpegaaDoorK2
import Derived.Test.YtonpflblcnpegaaDoorK3
set_option linter.all false
set_option linter.unusedSimpArgs false
set_option linter.unusedVariables false
set_option linter.unusedSectionVars false
section
set_option linter.all false
set_option linter.unusedSimpArgs false
set_option linter.unusedVariables false
set_option linter.unusedSectionVars false
open Go Go.Proofs AF HY
namespace HY
set_option maxRecDepth 100000
def strs (l : List (List UInt8)) : AV := .sl l.length fun i => [.str (l.getD i [])]
theorem okF1 {P : Program} {f : FuncId} {fn : Func} (h : P.funcs[f]? = some fn) (h1 : fn.body.isSome = true) (h2 : (fn.name != "runtime.NumGoroutine") = true) : okF P f = true := by
  unfold okF; rw [h]; simp [h1, h2]
theorem t134 (s : List UInt8) (c : Int) (h : List AObj) : ACalls Tryd.prog 95 [.str s, .int .u8 c] h (.int .i64 (Go.Lib.indexByte s c.toNat.toUInt8)) h := by
  refine ⟨okF1 Tryd.func95 (by kernel_rfl) (by kernel_rfl), fun w σ xs H hv => ?_⟩
  obtain ⟨x, y, rfl, hx, hy⟩ := hv.two
  rw [vr_str hx, vr_int hy]
  refine (callsIn_wide.2 (ib_calls ⟨s.toArray⟩ c w)).mono ?_
  rintro e w' ⟨rfl, rfl⟩
  exact ⟨_, σ, rfl, H, .imm .int, Ext.refl _ _⟩
theorem t126 (s : List UInt8) (c : Int) (h : List AObj) : ACalls Tryd.prog 68 [.str s, .int .u8 c] h (.int .i64 (Go.Lib.indexByte s c.toNat.toUInt8)) h := by
  refine acalls_of fn68d (by simp) ?_
  simp only [List.length_cons, List.length_nil, Nat.reduceAdd, Nat.reduceSub, List.replicate, List.cons_append, List.nil_append, List.append_nil]
  simp (disch := omega) only [c68d, go_sem, wrap64_id, Int.tdiv_eq_ediv_of_nonneg, Int.tmod_eq_emod_of_nonneg]
  repeat' first
    | ((first | refine callA_pure (t134 s c _) ?_ ?_); (next => repeat' first | exact flags_n | refine flags_c (by first | rfl | assumption) ?_); simp (disch := omega) only [go_sem, wrap64_id, Int.tdiv_eq_ediv_of_nonneg, Int.tmod_eq_emod_of_nonneg])
    | ((first | refine callG_pure (fun e => ⟨?_, t134 s c _⟩) ?_); (next => repeat' first | exact flags_n | refine flags_c (by first | rfl | assumption) ?_); simp (disch := omega) only [go_sem, wrap64_id, Int.tdiv_eq_ediv_of_nonneg, Int.tmod_eq_emod_of_nonneg])
    | ((first | refine fnQ_pure1 ?_ ?_ | refine fnQ_pure0 ?_ ?_); (next => repeat' first | exact rvs_n | refine rvs_t ?_ | (simp [go_sem]; done)); simp only [go_sem]; (first | exact VLe.refl _ | refine VLe_int ?_ | refine VLe_bool ?_ | refine VLe_str ?_ | skip))
    | (with_reducible refine And.intro ?_ ?_)
    | with_reducible intro _
theorem punct_iff : ∀ n : Fin 256, (0 ≤ Go.Lib.indexByte [46, 44, 59, 58, 33, 63, 40, 41, 45] (UInt8.ofNat n.val)) ↔ (n.val = 46 ∨ n.val = 44 ∨ n.val = 59 ∨ n.val = 58 ∨ n.val = 33 ∨ n.val = 63 ∨ n.val = 40 ∨ n.val = 41 ∨ n.val = 45) := by decide +kernel
theorem t103 (n : Int) (h : List AObj) (n0 : 0 ≤ n) (n1 : n ≤ 255) : ACalls Tryd.prog 71 [.int .u8 n] h (.int .i64 (kindI n)) h := by
  obtain ⟨m, rfl⟩ : ∃ m : Nat, n = m := ⟨n.toNat, by omega⟩
  have hp := punct_iff ⟨m, by omega⟩
  simp only at hp
  obtain ⟨q, hq⟩ : ∃ q, q = Go.Lib.indexByte [46, 44, 59, 58, 33, 63, 40, 41, 45] (UInt8.ofNat m) := ⟨_, rfl⟩
  rw [← hq] at hp
  have hc : ∀ h, ACalls Tryd.prog 68 [.str [46, 44, 59, 58, 33, 63, 40, 41, 45], .int .u8 (m : Int)] h (.int .i64 q) h := fun h => by rw [hq]; exact t126 _ _ h
  refine acalls_of fn71d (by simp) ?_
  simp only [List.length_cons, List.length_nil, Nat.reduceAdd, Nat.reduceSub, List.replicate, List.cons_append, List.nil_append, List.append_nil]
  simp (disch := omega) only [c71d, go_sem, wrap64_id, Int.tdiv_eq_ediv_of_nonneg, Int.tmod_eq_emod_of_nonneg]
  repeat' first
    | ((first | refine callA_pure (hc _) ?_ ?_); (next => repeat' first | exact flags_n | refine flags_c (by first | rfl | assumption) ?_); simp (disch := omega) only [go_sem, wrap64_id, Int.tdiv_eq_ediv_of_nonneg, Int.tmod_eq_emod_of_nonneg])
    | ((first | refine callG_pure (fun e => ⟨?_, hc _⟩) ?_); (next => repeat' first | exact flags_n | refine flags_c (by first | rfl | assumption) ?_); simp (disch := omega) only [go_sem, wrap64_id, Int.tdiv_eq_ediv_of_nonneg, Int.tmod_eq_emod_of_nonneg])
    | ((first | refine fnQ_pure1 ?_ ?_ | refine fnQ_pure0 ?_ ?_); (next => repeat' first | exact rvs_n | refine rvs_t ?_ | (simp [go_sem]; done)); simp only [go_sem]; (first | exact VLe.refl _ | refine VLe_int ?_ | refine VLe_bool ?_ | refine VLe_str ?_ | skip))
    | (with_reducible refine And.intro ?_ ?_)
    | with_reducible intro _
  all_goals first
    | omega
    | (unfold kindI; (repeat' split) <;> omega)
theorem t117 (n : Int) (h : List AObj) : ACalls Tryd.prog 80 [.int .u8 n] h (.int .i64 (kindI n)) h := by
  refine acalls_of fn80d (by simp) ?_
  simp only [List.length_cons, List.length_nil, Nat.reduceAdd, Nat.reduceSub, List.replicate, List.cons_append, List.nil_append, List.append_nil]
  simp (disch := omega) only [c80d, go_sem, wrap64_id, Int.tdiv_eq_ediv_of_nonneg, Int.tmod_eq_emod_of_nonneg]
  repeat' first
    | ((first | refine fnQ_pure1 ?_ ?_ | refine fnQ_pure0 ?_ ?_); (next => repeat' first | exact rvs_n | refine rvs_t ?_ | (simp [go_sem]; done)); simp only [go_sem]; (first | exact VLe.refl _ | refine VLe_int ?_ | refine VLe_bool ?_ | refine VLe_str ?_ | skip))
    | (with_reducible refine And.intro ?_ ?_)
    | with_reducible intro _
  all_goals first
    | omega
    | grind [kindI]
end HY
end

section
set_option linter.all false
set_option linter.unusedSimpArgs false
set_option linter.unusedVariables false
set_option linter.unusedSectionVars false
open Go Go.Proofs AF HY
namespace HY
set_option maxRecDepth 100000
theorem _root_.AF.LowI.ret {h hh : List AObj} {ts : List AV} {L : LInfo} (s : LS) (hl : LowI h hh) (hts : ∀ c ∈ ts, lowV (h.length + 1) c = true) :
    (hh ++ [AObj.lp s ts L]).length = (h ++ [AObj.lp .ready ts L]).length ∧ ∀ o ∈ hh ++ [AObj.lp s ts L], o ∈ h ++ [AObj.lp .ready ts L] ∨ lowO (h ++ [AObj.lp .ready ts L]).length o := by
  refine ⟨by simp [hl.1], fun o ho => ?_⟩
  rw [List.length_append, List.length_singleton]
  rcases List.mem_append.1 ho with ho | ho
  · rcases hl.2 o ho with h1 | h1
    · exact .inl (List.mem_append_left _ h1)
    · exact .inr h1.2
  · rw [List.mem_singleton] at ho
    subst ho
    exact .inr hts
theorem u8_range (b : UInt8) : 0 ≤ ((b.toNat : Nat) : Int) ∧ ((b.toNat : Nat) : Int) ≤ 255 := by
  have := b.toNat_lt
  omega
theorem t103b (b : UInt8) (h : List AObj) : ACalls Tryd.prog 71 [.int .u8 (b.toNat : Int)] h (.int .i64 (kind b)) h := t103 _ h (u8_range b).1 (u8_range b).2
theorem t117b (b : UInt8) (h : List AObj) : ACalls Tryd.prog 80 [.int .u8 (b.toNat : Int)] h (.int .i64 (kind b)) h := t117 _ h
theorem t115 (s : List UInt8) (f a : Nat) (h : List AObj) (hf : f < s.length) : ACalls Tryd.prog 77 [.str s, .int .i64 f, .int .i64 a] h (.bool (decide (kind (ch s f) = 1) && decide (f < a))) h := by
  refine acalls_of fn77d (by simp) ?_
  simp only [List.length_cons, List.length_nil, Nat.reduceAdd, Nat.reduceSub, List.replicate, List.cons_append, List.nil_append, List.append_nil]
  simp (disch := omega) only [c77d, ch_eq, go_sem, wrap64_id, Int.tdiv_eq_ediv_of_nonneg, Int.tmod_eq_emod_of_nonneg]
  repeat' first
    | ((first | refine callA_pure (t103b _ _) ?_ ?_); (next => repeat' first | exact flags_n | refine flags_c (by first | rfl | assumption) ?_); simp (disch := omega) only [ch_eq, go_sem, wrap64_id, Int.tdiv_eq_ediv_of_nonneg, Int.tmod_eq_emod_of_nonneg])
    | ((first | refine callG_pure (fun e => ⟨?_, t103b _ _⟩) ?_); (next => repeat' first | exact flags_n | refine flags_c (by first | rfl | assumption) ?_); simp (disch := omega) only [ch_eq, go_sem, wrap64_id, Int.tdiv_eq_ediv_of_nonneg, Int.tmod_eq_emod_of_nonneg])
    | ((first | refine fnQ_pure1 ?_ ?_ | refine fnQ_pure0 ?_ ?_); (next => repeat' first | exact rvs_n | refine rvs_t ?_ | (simp [go_sem]; done)); simp only [go_sem]; (first | exact VLe.refl _ | refine VLe_int ?_ | refine VLe_bool ?_ | refine VLe_str ?_ | skip))
    | (with_reducible refine And.intro ?_ ?_)
    | with_reducible intro _
  all_goals first
    | omega
    | (congr 1; exact decide_eq_decide.2 (by omega))
    | skip
theorem clus_step {s : List UInt8} {f i : Nat} (hf : f < i) (hi : i < s.length) : clusO f ((s.drop f).take (i - f)) (s.drop i) = if kind (ch s i) = 2 ∧ kind (ch s f) = 1 then clusO f ((s.drop f).take (i + 1 - f)) (s.drop (i + 1)) else (f, (s.drop f).take (i - f)) :: clusO i ((s.drop i).take (i + 1 - i)) (s.drop (i + 1)) := by
  have e1 : s.drop i = ch s i :: s.drop (i + 1) := by rw [List.drop_eq_getElem_cons hi]; simp [ch, hi]
  have e2 : ch ((s.drop f).take (i - f)) 0 = ch s f := by simp [ch, List.getD_eq_getElem?_getD, List.getElem?_take, show 0 < i - f by omega]
  have e3 : (s.drop f).take (i + 1 - f) = (s.drop f).take (i - f) ++ [ch s i] := by
    rw [show i + 1 - f = (i - f) + 1 by omega, List.take_add_one, List.getElem?_drop, show f + (i - f) = i by omega]
    simp [ch, List.getD_eq_getElem?_getD, hi]
  have e4 : f + ((s.drop f).take (i - f)).length = i := by rw [List.length_take, List.length_drop]; omega
  have e5 : (s.drop i).take (i + 1 - i) = [ch s i] := by rw [e1, show i + 1 - i = 1 by omega]; rfl
  rw [e5, e1]
  simp only [clusO, e2, e4, e3]
theorem it114 (s : List UInt8) (hs : s.length ≤ 1000000000) : Iter Tryd.prog 76 [.ip [.str s]] ((clusters s).map fun x => [.int .i64 (x.1 : Int), .str x.2]) := by
  intro h ts L S E hS hE body start hts
  refine acallsQ_of fn76d (by simp) ?_
  simp only [List.length_cons, List.length_nil, Nat.reduceAdd, Nat.reduceSub, List.replicate, List.cons_append, List.nil_append, List.append_nil]
  simp (disch := omega) only [c76d, go_sem, wrap64_id, Int.tdiv_eq_ediv_of_nonneg, Int.tmod_eq_emod_of_nonneg]
  repeat' first
    | ((first | refine fnQ_pure1 ?_ ?_ | refine fnQ_pure0 ?_ ?_); (next => repeat' first | exact rvs_n | refine rvs_t ?_ | (simp [go_sem]; done)); simp only [go_sem]; (first | exact VLe.refl _ | refine VLe_int ?_ | refine VLe_bool ?_ | refine VLe_str ?_ | skip))
    | (with_reducible refine And.intro ?_ ?_)
    | with_reducible intro _
  all_goals first
    | omega
    | skip
  refine loop_of (T := fun i : Nat × Nat × Nat × List AObj => spar 37 [(0, .yld h.length), (1, .ip [.str s]), (3, .int .i64 i.1), (4, .int .i64 i.2.1)]) (H := fun i => i.2.2.2 ++ [.lp .ready ts L])
    (inv := fun i => S i.2.2.1 i.2.2.2 ∧ ((i.2.1 ≤ s.length ∧ i.1 < i.2.1 ∧ (clusters s).drop i.2.2.1 = clusO i.1 ((s.drop i.1).take (i.2.1 - i.1)) (s.drop i.2.1)) ∨ (s.length < i.2.1 ∧ i.2.1 ≤ s.length + 1 ∧ i.2.2.1 = (clusters s).length))) (m := fun i => s.length + 1 - i.2.1) (0, 1, 0, h) ⟨start, ?_⟩ (Wk.temps ?_) ?_
  · simp only
    cases s with
    | nil => right; simp [clusters]
    | cons c r => left; simp [clusters]
  · (simp only [spar, List.foldl, List.replicate, go_sem, VLes_nil, VLes_cons, VLe_undef_iff, VLe_self]; try (repeat' first | (with_reducible refine And.intro ?_ ?_) | (refine VLe_int ?_; omega) | (refine VLe_bool ?_; rfl) | exact VLe.refl _))
  · rintro ⟨f, i, j, hh⟩ ⟨i1, i2⟩ K hK
    simp only at i1 i2 hK
    obtain ⟨hlen, hlow⟩ := hS _ _ i1
    rcases i2 with ⟨g1, g2, g3⟩ | ⟨g1, g2, rfl⟩
    · have hjl : j < (clusters s).length := by
        have : (clusters s).drop j ≠ [] := by rw [g3]; exact clusO_ne _ _ _
        by_cases hj : j < (clusters s).length
        · exact hj
        · exact absurd (List.drop_of_length_le (by omega)) this
      by_cases hk : i < s.length ∧ kind (ch s i) = 2 ∧ kind (ch s f) = 1
      · have hst := clus_step g2 hk.1
        rw [if_pos hk.2] at hst
        simp (disch := omega) only [spar, List.foldl, List.replicate, ch_eq, hk.2.1, hk.2.2, go_sem, wrap64_id, Int.tdiv_eq_ediv_of_nonneg, Int.tmod_eq_emod_of_nonneg]
        repeat' first
          | ((first | refine callA_pure (t103b _ _) ?_ ?_ | refine callA_pure (t115 s f i _ (by omega)) ?_ ?_); (next => repeat' first | exact flags_n | refine flags_c (by first | rfl | assumption) ?_); simp (disch := omega) only [ch_eq, hk.2.1, hk.2.2, go_sem, wrap64_id, Int.tdiv_eq_ediv_of_nonneg, Int.tmod_eq_emod_of_nonneg])
          | ((first | refine callG_pure (fun e => ⟨?_, t103b _ _⟩) ?_ | refine callG_pure (fun e => ⟨?_, t115 s f i _ (by omega)⟩) ?_); (next => repeat' first | exact flags_n | refine flags_c (by first | rfl | assumption) ?_); simp (disch := omega) only [ch_eq, hk.2.1, hk.2.2, go_sem, wrap64_id, Int.tdiv_eq_ediv_of_nonneg, Int.tmod_eq_emod_of_nonneg])
          | ((first | refine fnQ_pure1 ?_ ?_ | refine fnQ_pure0 ?_ ?_); (next => repeat' first | exact rvs_n | refine rvs_t ?_ | (simp [go_sem]; done)); simp only [go_sem]; (first | exact VLe.refl _ | refine VLe_int ?_ | refine VLe_bool ?_ | refine VLe_str ?_ | skip))
          | (with_reducible refine And.intro ?_ ?_)
          | with_reducible intro _
        all_goals first
          | omega
          | skip
        refine hK _ _ (f, i + 1, j, hh) ⟨i1, .inl ⟨by simp only; omega, by simp only; omega, by rw [g3, hst]⟩⟩ (by simp only; omega) (Wk.temps ?_)
        (simp only [spar, List.foldl, List.replicate, go_sem, VLes_nil, VLes_cons, VLe_undef_iff, VLe_self]; try (repeat' first | (with_reducible refine And.intro ?_ ?_) | (refine VLe_int ?_; omega) | (refine VLe_bool ?_; rfl) | exact VLe.refl _))
      · obtain ⟨rest, hrest, hr1⟩ : ∃ rest, (clusters s).drop j = (f, (s.drop f).take (i - f)) :: rest ∧ (if i < s.length then rest = clusO i ((s.drop i).take (i + 1 - i)) (s.drop (i + 1)) else rest = []) := by
          by_cases hi : i < s.length
          · have hst := clus_step g2 hi
            rw [if_neg (fun h => hk ⟨hi, h⟩)] at hst
            exact ⟨_, g3.trans hst, by rw [if_pos hi]⟩
          · refine ⟨[], ?_, by rw [if_neg hi]⟩
            rw [g3, show s.drop i = [] from List.drop_of_length_le (by omega)]; rfl
        rw [List.drop_eq_getElem_cons hjl] at hrest
        obtain ⟨hget, hdrop⟩ := List.cons.inj hrest
        have hb := body j hh [] (by simpa using hjl) i1
        rw [List.getElem_map, hget] at hb
        simp only at hb
        have hfit : (i : Int) - f = ((i - f : Nat) : Int) := by omega
        simp (disch := omega) only [spar, List.foldl, List.replicate, ch_eq, go_sem, wrap64_id, Int.tdiv_eq_ediv_of_nonneg, Int.tmod_eq_emod_of_nonneg]
        repeat' first
          | ((first | refine callA_pure (t103b _ _) ?_ ?_ | refine callA_pure (t115 s f i _ (by omega)) ?_ ?_); (next => repeat' first | exact flags_n | refine flags_c (by first | rfl | assumption) ?_); simp (disch := omega) only [ch_eq, go_sem, wrap64_id, Int.tdiv_eq_ediv_of_nonneg, Int.tmod_eq_emod_of_nonneg])
          | ((first | refine callG_pure (fun e => ⟨?_, t103b _ _⟩) ?_ | refine callG_pure (fun e => ⟨?_, t115 s f i _ (by omega)⟩) ?_); (next => repeat' first | exact flags_n | refine flags_c (by first | rfl | assumption) ?_); simp (disch := omega) only [ch_eq, go_sem, wrap64_id, Int.tdiv_eq_ediv_of_nonneg, Int.tmod_eq_emod_of_nonneg])
          | ((first | refine fnQ_pure1 ?_ ?_ | refine fnQ_pure0 ?_ ?_); (next => repeat' first | exact rvs_n | refine rvs_t ?_ | (simp [go_sem]; done)); simp only [go_sem]; (first | exact VLe.refl _ | refine VLe_int ?_ | refine VLe_bool ?_ | refine VLe_str ?_ | skip))
          | (with_reducible refine And.intro ?_ ?_)
          | with_reducible intro _
        all_goals first
          | omega
          | exact ⟨.ready, ts, L, getO_i hlen⟩
          | skip
        refine AYield.mono ?_ hb
        rintro v h' ⟨hh', ⟨rfl, hn, rfl⟩ | ⟨st, rfl, hs', rfl⟩⟩
        · simp (disch := omega) only [go_sem, wrap64_id, Int.tdiv_eq_ediv_of_nonneg, Int.tmod_eq_emod_of_nonneg]
          repeat' first
            | ((first | refine fnQ_pure1 ?_ ?_ | refine fnQ_pure0 ?_ ?_); (next => repeat' first | exact rvs_n | refine rvs_t ?_ | (simp [go_sem]; done)); simp only [go_sem]; (first | exact VLe.refl _ | refine VLe_int ?_ | refine VLe_bool ?_ | refine VLe_str ?_ | skip))
            | (with_reducible refine And.intro ?_ ?_)
            | with_reducible intro _
          all_goals first
            | omega
            | (rename_i hx; revert hx; simp; done)
            | skip
          by_cases hi : i < s.length
          · rw [if_pos hi] at hr1
            refine hK _ _ (i, i + 1, j + 1, hh') ⟨hn, .inl ⟨by simp only; omega, by simp only; omega, by simp only; rw [hdrop, hr1]⟩⟩ (by simp only; omega) (Wk.temps ?_)
            (simp only [spar, List.foldl, List.replicate, go_sem, VLes_nil, VLes_cons, VLe_undef_iff, VLe_self]; try (repeat' first | (with_reducible refine And.intro ?_ ?_) | (refine VLe_int ?_; omega) | (refine VLe_bool ?_; rfl) | exact VLe.refl _))
          · rw [if_neg hi] at hr1
            refine hK _ _ (i, i + 1, j + 1, hh') ⟨hn, .inr ⟨by simp only; omega, by simp only; omega, ?_⟩⟩ (by simp only; omega) (Wk.temps ?_)
            · have : ((clusters s).drop (j + 1)).length = 0 := by rw [hdrop, hr1]; rfl
              rw [List.length_drop] at this
              simp only; omega
            · (simp only [spar, List.foldl, List.replicate, go_sem, VLes_nil, VLes_cons, VLe_undef_iff, VLe_self]; try (repeat' first | (with_reducible refine And.intro ?_ ?_) | (refine VLe_int ?_; omega) | (refine VLe_bool ?_; rfl) | exact VLe.refl _))
        · simp (disch := omega) only [go_sem, wrap64_id, Int.tdiv_eq_ediv_of_nonneg, Int.tmod_eq_emod_of_nonneg]
          obtain ⟨r1, r2⟩ := (hE _ _ hs').ret (L := L) st hts
          exact fnQ_eff0 trivial r1 r2 ⟨_, .inr ⟨st, hs', rfl⟩⟩ (VLe.refl _)
    · simp (disch := omega) only [spar, List.foldl, List.replicate, go_sem, wrap64_id, Int.tdiv_eq_ediv_of_nonneg, Int.tmod_eq_emod_of_nonneg]
      repeat' first
        | ((first | refine fnQ_pure1 ?_ ?_ | refine fnQ_pure0 ?_ ?_); (next => repeat' first | exact rvs_n | refine rvs_t ?_ | (simp [go_sem]; done)); simp only [go_sem]; (first | exact VLe.refl _ | refine VLe_int ?_ | refine VLe_bool ?_ | refine VLe_str ?_ | skip))
        | (with_reducible refine And.intro ?_ ?_)
        | with_reducible intro _
      all_goals first
        | omega
        | skip
      obtain ⟨r1, r2⟩ := (hS _ _ i1).ret (L := L) .ready hts
      exact fnQ_effn0 trivial r1 r2 ⟨hh, .inl ⟨by simpa using i1, rfl⟩⟩ (VLe.refl _)
end HY
end

section
set_option linter.all false
set_option linter.unusedSimpArgs false
set_option linter.unusedVariables false
set_option linter.unusedSectionVars false
open Go Go.Proofs AF HY
namespace HY
set_option maxRecDepth 100000
def bools (l : List Bool) : AV := .sl l.length fun i => [.bool (l.getD i false)]
theorem sl1_of {cs : List AV} {n m k : Nat} {f : Nat → List AV} {fz : Nat → Bool} {h : List AObj} (e : cs.length = m) (ek : k = m) (hf : ∀ i c, cs[i]? = some c → f i = [c]) (hr : ∀ c ∈ cs, rei fz h (n + 1) c = c) : VLe (.sl m fun i => ((List.drop i cs).take 1).map (rei fz h (n + 1))) (.sl k f) := by
  subst e ek
  refine VLe_sl rfl (fun i hi => ?_)
  rw [List.drop_eq_getElem_cons hi, hf i cs[i] (List.getElem?_eq_getElem hi)]
  show [rei fz h (n + 1) cs[i]] = _
  rw [hr cs[i] (List.getElem_mem hi)]
def strC (l : List (List UInt8)) : List AV := l.map .str
theorem strC_len (l : List (List UInt8)) : (strC l).length = l.length := by simp [strC]
theorem strC_snoc (l : List (List UInt8)) (x : List UInt8) : strC (l ++ [x]) = strC l ++ [.str x] := by simp [strC]
theorem strs_of {l : List (List UInt8)} {n m : Nat} {fz : Nat → Bool} {h : List AObj} (e : l.length = m) : VLe (.sl m fun i => ((List.drop i (strC l)).take 1).map (rei fz h (n + 1))) (strs l) := by
  subst e
  refine sl1_of (strC_len l) rfl (fun i c hc => ?_) (fun c hc => ?_)
  · unfold strC at hc
    rw [List.getElem?_map, Option.map_eq_some_iff] at hc
    obtain ⟨x, hx, rfl⟩ := hc
    simp [List.getD_eq_getElem?_getD, hx]
  · unfold strC at hc
    rw [List.mem_map] at hc
    obtain ⟨x, _, rfl⟩ := hc
    rfl
def rightC (s : List UInt8) (i : Nat) : List AV := (List.range i).map fun j => AV.bool (rightAt s j)
theorem rightC_succ (s : List UInt8) (i : Nat) : rightC s (i + 1) = rightC s i ++ [.bool (rightAt s i)] := by simp [rightC, List.range_succ]
theorem rightC_len (s : List UInt8) (i : Nat) : (rightC s i).length = i := by simp [rightC]
theorem t95 (s : List UInt8) (h : List AObj) (hs : s.length ≤ 1000000000) : ACalls Tryd.prog 82 [.str s] h (bools (rightL s)) h := by
  refine acalls_of fn82d (by simp) ?_
  simp only [List.length_cons, List.length_nil, Nat.reduceAdd, Nat.reduceSub, List.replicate, List.cons_append, List.nil_append, List.append_nil]
  simp (disch := omega) only [c82d, madeA, go_sem, wrap64_id, Int.tdiv_eq_ediv_of_nonneg, Int.tmod_eq_emod_of_nonneg]
  repeat' first
    | ((first | refine fnQ_pure1 ?_ ?_ | refine fnQ_pure0 ?_ ?_); (next => repeat' first | exact rvs_n | refine rvs_t ?_ | (simp [go_sem]; done)); simp only [go_sem]; (first | exact VLe.refl _ | refine VLe_int ?_ | refine VLe_bool ?_ | refine VLe_str ?_ | skip))
    | (with_reducible refine And.intro ?_ ?_)
    | with_reducible intro _
  all_goals first
    | omega
    | (simp; done)
    | skip
  refine loop_of (T := fun i : Nat × Nat × AObj => spar 40 [(0, .str s), (3, .osl (h.length + 1) i.2.1 1 0 i.1), (4, .int .i64 i.1)]) (H := fun i => h ++ [.emp 1, .mem i.2.1 4 (rightC s i.1), i.2.2, .emp 0])
    (inv := fun i => i.1 ≤ s.length ∧ site [i.2.2] 0 = true) (m := fun i => s.length - i.1) (0, 1, .emp 0) ⟨by simp only; omega, rfl⟩ (Wk.temps ?_) ?_
  · (simp only [spar, List.foldl, List.replicate, go_sem, VLes_nil, VLes_cons, VLe_undef_iff, VLe_self]; try (repeat' first | (with_reducible refine And.intro ?_ ?_) | (refine VLe_int ?_; omega) | (refine VLe_bool ?_; rfl) | exact VLe.refl _))
  · rintro ⟨i, v, O⟩ ⟨i1, i2⟩ K hK
    simp only at i1 i2 hK
    have i2' : ∀ m, site (O :: m) 0 = true := fun _ => i2
    have eL := rightC_len s i
    have eT : List.take i (rightC s i) = rightC s i := List.take_of_length_le (by omega)
    by_cases hi : i < s.length
    · cases i with
      | zero =>
        have hz : (((0 : Nat) : Int) < (s.length : Int)) = True := eq_true (by omega)
        have hz0 : ((0 : Nat) : Int) = 0 := rfl
        have hlt : ((0 : Int) < 0) = False := eq_false (by omega)
        have hc0 : rightC s 0 = [] := rfl
        have hz1 : ((0 : Int) < (s.length : Int)) = True := eq_true (by omega)
        have hR : rightAt s 0 = false := rfl
        by_cases hk0 : kind (ch s 0) = 2
        all_goals
          simp (disch := omega) only [spar, List.foldl, List.replicate, ch_eq, i2', madeA, hz0, hlt, hc0, hz1, hk0, go_sem, wrap64_id, Int.tdiv_eq_ediv_of_nonneg, Int.tmod_eq_emod_of_nonneg]
          repeat' first
            | (refine callG_false ((.int .i64 0)) ?_; simp (disch := omega) only [ch_eq, i2', madeA, hz0, hlt, hc0, hk0, go_sem, wrap64_id, Int.tdiv_eq_ediv_of_nonneg, Int.tmod_eq_emod_of_nonneg])
            | ((first | refine callA_pure (t117b _ _) ?_ ?_); (next => repeat' first | exact flags_n | refine flags_c (by first | rfl | assumption) ?_); simp (disch := omega) only [ch_eq, i2', madeA, hz0, hlt, hc0, hk0, go_sem, wrap64_id, Int.tdiv_eq_ediv_of_nonneg, Int.tmod_eq_emod_of_nonneg])
            | ((first | refine callG_pure (fun e => ⟨?_, t117b _ _⟩) ?_); (next => repeat' first | exact flags_n | refine flags_c (by first | rfl | assumption) ?_); simp (disch := omega) only [ch_eq, i2', madeA, hz0, hlt, hc0, hk0, go_sem, wrap64_id, Int.tdiv_eq_ediv_of_nonneg, Int.tmod_eq_emod_of_nonneg])
            | ((first | refine fnQ_pure1 ?_ ?_ | refine fnQ_pure0 ?_ ?_); (next => repeat' first | exact rvs_n | refine rvs_t ?_ | (simp [go_sem]; done)); simp only [go_sem]; (first | exact VLe.refl _ | refine VLe_int ?_ | refine VLe_bool ?_ | refine VLe_str ?_ | skip))
            | (with_reducible refine And.intro ?_ ?_)
            | with_reducible intro _
          all_goals first
            | omega
            | (rename_i hx; revert hx; simp; done)
            | (simp; done)
            | skip
          refine hK _ _ (0 + 1, v + 1, .mem (verOf (some O) + 1) 4 [.bool (rightAt s 0)]) ⟨by simp only; omega, rfl⟩ (by simp only; omega) ?_
          rw [rightC_succ]
          simp only [hR, hc0, List.nil_append]
          refine Wk.temps ?_
          (simp only [spar, List.foldl, List.replicate, go_sem, VLes_nil, VLes_cons, VLe_undef_iff, VLe_self]; try (repeat' first | (with_reducible refine And.intro ?_ ?_) | (refine VLe_int ?_; omega) | (refine VLe_bool ?_; rfl) | exact VLe.refl _))
      | succ i =>
        have hx : (((i + 1 : Nat) : Int) - 1).toNat = i := by omega
        have hg : (rightC s (i + 1))[i]? = some (.bool (rightAt s i)) := by simp [rightC]
        have hp : (0 < ((i + 1 : Nat) : Int)) = True := eq_true (by omega)
        simp (disch := omega) only [spar, List.foldl, List.replicate, ch_eq, i2', eL, eT, madeA, hx, hg, hp, go_sem, wrap64_id, Int.tdiv_eq_ediv_of_nonneg, Int.tmod_eq_emod_of_nonneg]
        repeat' first
          | ((first | refine callA_pure (t117b _ _) ?_ ?_); (next => repeat' first | exact flags_n | refine flags_c (by first | rfl | assumption) ?_); simp (disch := omega) only [ch_eq, i2', eL, eT, madeA, hx, hg, hp, go_sem, wrap64_id, Int.tdiv_eq_ediv_of_nonneg, Int.tmod_eq_emod_of_nonneg])
          | ((first | refine callG_pure (fun e => ⟨?_, t117b _ _⟩) ?_); (next => repeat' first | exact flags_n | refine flags_c (by first | rfl | assumption) ?_); simp (disch := omega) only [ch_eq, i2', eL, eT, madeA, hx, hg, hp, go_sem, wrap64_id, Int.tdiv_eq_ediv_of_nonneg, Int.tmod_eq_emod_of_nonneg])
          | ((first | refine fnQ_pure1 ?_ ?_ | refine fnQ_pure0 ?_ ?_); (next => repeat' first | exact rvs_n | refine rvs_t ?_ | (simp [go_sem]; done)); simp only [go_sem]; (first | exact VLe.refl _ | refine VLe_int ?_ | refine VLe_bool ?_ | refine VLe_str ?_ | skip))
          | (with_reducible refine And.intro ?_ ?_)
          | with_reducible intro _
        all_goals first
          | omega
          | (simp; done)
          | skip
        refine hK _ _ (i + 1 + 1, v + 1, .mem (verOf (some O) + 1) 4 [.bool (rightAt s (i + 1))]) ⟨by simp only; omega, rfl⟩ (by simp only; omega) ?_
        rw [rightC_succ s (i + 1)]
        simp only [rightAt]
        refine Wk.temps ?_
        (simp only [spar, List.foldl, List.replicate, go_sem, VLes_nil, VLes_cons, VLe_undef_iff, VLe_self]; try (repeat' first | (with_reducible refine And.intro ?_ ?_) | (refine VLe_int ?_; omega) | (refine VLe_bool ?_; rfl) | exact VLe.refl _))
    · have e : i = s.length := by omega
      subst e
      simp (disch := omega) only [spar, List.foldl, List.replicate, eL, go_sem, wrap64_id, Int.tdiv_eq_ediv_of_nonneg, Int.tmod_eq_emod_of_nonneg]
      repeat' first
        | ((first | refine fnQ_pure1 ?_ ?_ | refine fnQ_pure0 ?_ ?_); (next => repeat' first | exact rvs_n | refine rvs_t ?_ | (simp [go_sem]; done)); simp only [go_sem]; (first | exact VLe.refl _ | refine VLe_int ?_ | refine VLe_bool ?_ | refine VLe_str ?_ | skip))
        | (with_reducible refine And.intro ?_ ?_)
        | with_reducible intro _
      all_goals first
        | omega
        | skip
      have hrl : (rightL s).length = s.length := by simp [rightL]
      unfold bools
      rw [if_pos (by omega)]
      refine sl1_of (rightC_len s _) hrl (fun i c hc => ?_) (fun c hc => ?_)
      · have hi := (List.getElem?_eq_some_iff.1 hc).1
        rw [rightC_len] at hi
        rw [rightL_get hi]
        simp [rightC, hi] at hc
        rw [hc]
      · simp [rightC] at hc
        obtain ⟨x, _, rfl⟩ := hc
        rfl
end HY
end

section
set_option linter.all false
set_option linter.unusedSimpArgs false
set_option linter.unusedVariables false
set_option linter.unusedSectionVars false
open Go Go.Proofs AF HY
namespace HY
set_option maxRecDepth 100000
theorem drop_take_succ (s : List UInt8) {f i : Nat} (h : f ≤ i) (hi : i < s.length) : (s.drop f).take (i + 1 - f) = (s.drop f).take (i - f) ++ [ch s i] := by
  rw [show i + 1 - f = (i - f) + 1 by omega, List.take_add_one, List.getElem?_drop, show f + (i - f) = i by omega]
  simp [ch, List.getD_eq_getElem?_getD, hi]
theorem one_at (s : List UInt8) {i : Nat} (hi : i < s.length) : (s.drop i).take (i + 1 - i) = [ch s i] := by
  rw [drop_take_succ s (Nat.le_refl _) hi, Nat.sub_self]; rfl
def done (s : List UInt8) (D : List (List UInt8)) (f i : Nat) : Prop := inClus s f i ∧ i ≤ s.length ∧ clus s = D ++ (clusO f ((s.drop f).take (i - f)) (s.drop i)).map (·.2)
theorem done_first {s : List UInt8} (h : 0 < s.length) : done s [] 0 1 := by
  refine ⟨inClus_first s, h, ?_⟩
  cases s with
  | nil => simp at h
  | cons c r => simp [clus, clusters]
theorem done_go {s : List UInt8} {D : List (List UInt8)} {f i : Nat} (h : done s D f i) (hi : i < s.length) (hr : rightAt s i = true) : done s D f (i + 1) := by
  obtain ⟨h1, h2, h3⟩ := h
  refine ⟨inClus_go h1 hr, hi, ?_⟩
  rw [h3, clus_step h1.1 hi, if_pos ?_]
  rw [inClus_right h1] at hr
  simpa using hr
theorem done_new {s : List UInt8} {D : List (List UInt8)} {f i : Nat} (h : done s D f i) (hi : i < s.length) (hr : rightAt s i = false) : done s (D ++ [(s.drop f).take (i - f)]) i (i + 1) := by
  obtain ⟨h1, h2, h3⟩ := h
  refine ⟨inClus_new h1 hr, hi, ?_⟩
  rw [h3, clus_step h1.1 hi, if_neg ?_]
  · simp
  · rw [inClus_right h1] at hr
    simpa using hr
theorem done_end {s : List UInt8} {D : List (List UInt8)} {f : Nat} (h : done s D f s.length) : clus s = D ++ [(s.drop f).take (s.length - f)] := by
  rw [h.2.2, List.drop_length]; rfl
set_option maxHeartbeats 4000000 in
theorem t71 (s : List UInt8) (h : List AObj) (hs : s.length ≤ 1000000000) : ACalls Tryd.prog 53 [.str s] h (strs (clus s)) h := by
  refine acalls_of fn53d (by simp) ?_
  simp only [List.length_cons, List.length_nil, Nat.reduceAdd, Nat.reduceSub, List.replicate, List.cons_append, List.nil_append, List.append_nil]
  simp (disch := omega) only [c53d, madeA, go_sem, wrap64_id, Int.tdiv_eq_ediv_of_nonneg, Int.tmod_eq_emod_of_nonneg]
  repeat' first
    | ((first | refine callA_pure (t95 s _ hs) ?_ ?_); (next => repeat' first | exact flags_n | refine flags_c (by first | rfl | assumption) ?_); simp (disch := omega) only [madeA, bools, go_sem, wrap64_id, Int.tdiv_eq_ediv_of_nonneg, Int.tmod_eq_emod_of_nonneg])
    | ((first | refine callG_pure (fun e => ⟨?_, t95 s _ hs⟩) ?_); (next => repeat' first | exact flags_n | refine flags_c (by first | rfl | assumption) ?_); simp (disch := omega) only [madeA, bools, go_sem, wrap64_id, Int.tdiv_eq_ediv_of_nonneg, Int.tmod_eq_emod_of_nonneg])
    | ((first | refine fnQ_pure1 ?_ ?_ | refine fnQ_pure0 ?_ ?_); (next => repeat' first | exact rvs_n | refine rvs_t ?_ | (simp [go_sem]; done)); simp only [go_sem]; (first | exact VLe.refl _ | refine VLe_int ?_ | refine VLe_bool ?_ | refine VLe_str ?_ | skip))
    | (with_reducible refine And.intro ?_ ?_)
    | with_reducible intro _
  all_goals first
    | omega
    | (rename_i hx; revert hx; simp; done)
    | (simp; done)
    | skip
  refine loop_of (T := fun i : Nat × List (List UInt8) × Nat × AObj × Nat => spar 45 [(0, .str s), (3, .osl (h.length + 1) i.2.2.2.2 1 0 i.2.1.length), (4, bools (rightL s)), (5, .int .i64 i.1)]) (H := fun i => h ++ [.emp 1, .mem i.2.2.2.2 9 (strC i.2.1), i.2.2.2.1, .emp 0])
    (inv := fun i => site [i.2.2.2.1] 0 = true ∧ ((i.1 = 0 ∧ i.2.1 = []) ∨ (∃ D, done s D i.2.2.1 i.1 ∧ i.2.1 = D ++ [(s.drop i.2.2.1).take (i.1 - i.2.2.1)] ∧ i.2.1.length ≤ i.1))) (m := fun i => s.length - i.1) (0, [], 0, .emp 0, 1) ⟨rfl, .inl ⟨rfl, rfl⟩⟩ (Wk.temps ?_) ?_
  · (simp only [bools, spar, List.foldl, List.replicate, go_sem, VLes_nil, VLes_cons, VLe_undef_iff, VLe_self]; try (repeat' first | (with_reducible refine And.intro ?_ ?_) | (refine VLe_int ?_; omega) | (refine VLe_bool ?_; rfl) | exact VLe.refl _))
  · rintro ⟨i, L, f, O, v⟩ ⟨i2, i3⟩ K hK
    simp only at i2 i3 hK
    have i2' : ∀ m, site (O :: m) 0 = true := fun _ => i2
    have eL := strC_len L
    have eT : List.take L.length (strC L) = strC L := List.take_of_length_le (by omega)
    have hrl : (rightL s).length = s.length := by simp [rightL]
    by_cases hi : i < s.length
    · have hg := rightL_get hi
      have hx : ((i : Int) + 1).toNat - i = 1 := by omega
      have h1c : List.take (i + 1 - i) (List.drop i s) = [ch s i] := one_at s hi
      have hii : i + 1 - i = 1 := by omega
      rw [hii] at h1c
      rcases i3 with ⟨rfl, rfl⟩ | ⟨D, hd, hL, hlen⟩
      · have hR : (rightL s).getD 0 false = false := hg
        have hz0 : ((0 : Nat) : Int) = 0 := rfl
        have hx0 : ((0 : Int) + 1).toNat - 0 = 1 := by omega
        have h0c : List.take 1 s = [ch s 0] := h1c
        simp (disch := omega) only [spar, List.foldl, List.replicate, bools, hrl, hR, i2', madeA, strC, List.map_nil, List.length_nil, hz0, hx0, h0c, go_sem, wrap64_id, Int.tdiv_eq_ediv_of_nonneg, Int.tmod_eq_emod_of_nonneg]
        repeat' first
          | ((first | refine fnQ_pure1 ?_ ?_ | refine fnQ_pure0 ?_ ?_); (next => repeat' first | exact rvs_n | refine rvs_t ?_ | (simp [go_sem]; done)); simp only [go_sem]; (first | exact VLe.refl _ | refine VLe_int ?_ | refine VLe_bool ?_ | refine VLe_str ?_ | skip))
          | (with_reducible refine And.intro ?_ ?_)
          | with_reducible intro _
        all_goals first
          | omega
          | (rename_i hx; revert hx; simp; done)
          | (simp; done)
          | skip
        refine hK _ _ (1, [[ch s 0]], 0, .mem (verOf (some O) + 1) 9 [.str [ch s 0]], v + 1) ⟨rfl, .inr ⟨[], done_first (by omega), by simpa using h0c.symm, by simp⟩⟩ (by simp only; omega) ?_
        simp only [strC, List.map_cons, List.map_nil]
        refine Wk.temps ?_
        (simp only [bools, hrl, List.length_singleton, spar, List.foldl, List.replicate, go_sem, VLes_nil, VLes_cons, VLe_undef_iff, VLe_self]; try (repeat' first | (with_reducible refine And.intro ?_ ?_) | (refine VLe_int ?_; omega) | (refine VLe_bool ?_; rfl) | exact VLe.refl _))
      · cases hR : rightAt s i with
        | true =>
          rw [hR] at hg
          have hLl : 0 < L.length := by rw [hL]; simp
          have hx1 : ((L.length : Int) - 1).toNat = L.length - 1 := by omega
          have hgl : (strC L)[L.length - 1]? = some (.str ((s.drop f).take (i - f))) := by rw [hL]; simp [strC]
          have hcl : ((s.drop f).take (i - f)).length ≤ 1000000000 := by rw [List.length_take, List.length_drop]; omega
          have hD : L.length - 1 = D.length := by rw [hL]; simp
          have e1 : List.take (L.length - 1) (strC L) ++ [.str ((s.drop f).take (i - f) ++ [ch s i])] ++ List.drop (L.length - 1 + 1) (strC L) = strC (D ++ [(s.drop f).take (i + 1 - f)]) := by
            rw [hD, drop_take_succ s (Nat.le_of_lt hd.1.1) hi, hL]
            simp [strC]
          simp (disch := omega) only [spar, List.foldl, List.replicate, bools, hrl, hg, i2', madeA, eL, hx1, hgl, hx, h1c, e1, List.length_singleton, go_sem, wrap64_id, Int.tdiv_eq_ediv_of_nonneg, Int.tmod_eq_emod_of_nonneg]
          repeat' first
            | ((first | refine fnQ_pure1 ?_ ?_ | refine fnQ_pure0 ?_ ?_); (next => repeat' first | exact rvs_n | refine rvs_t ?_ | (simp [go_sem]; done)); simp only [go_sem]; (first | exact VLe.refl _ | refine VLe_int ?_ | refine VLe_bool ?_ | refine VLe_str ?_ | skip))
            | (with_reducible refine And.intro ?_ ?_)
            | with_reducible intro _
          all_goals first
            | omega
            | (rename_i hx; revert hx; simp; done)
            | (simp; done)
            | skip
          refine hK _ _ (i + 1, D ++ [(s.drop f).take (i + 1 - f)], f, O, v) ⟨i2, .inr ⟨D, done_go hd hi hR, rfl, by rw [hL] at hlen; simp at hlen ⊢; omega⟩⟩ (by simp only; omega) ?_
          have e2 : (D ++ [(s.drop f).take (i + 1 - f)]).length = L.length := by rw [hL]; simp
          simp only [e2]
          refine Wk.temps ?_
          (simp only [bools, hrl, spar, List.foldl, List.replicate, go_sem, VLes_nil, VLes_cons, VLe_undef_iff, VLe_self]; try (repeat' first | (with_reducible refine And.intro ?_ ?_) | (refine VLe_int ?_; omega) | (refine VLe_bool ?_; rfl) | exact VLe.refl _))
        | false =>
          rw [hR] at hg
          simp (disch := omega) only [spar, List.foldl, List.replicate, bools, hrl, hg, i2', madeA, eL, eT, hx, h1c, go_sem, wrap64_id, Int.tdiv_eq_ediv_of_nonneg, Int.tmod_eq_emod_of_nonneg]
          repeat' first
            | ((first | refine fnQ_pure1 ?_ ?_ | refine fnQ_pure0 ?_ ?_); (next => repeat' first | exact rvs_n | refine rvs_t ?_ | (simp [go_sem]; done)); simp only [go_sem]; (first | exact VLe.refl _ | refine VLe_int ?_ | refine VLe_bool ?_ | refine VLe_str ?_ | skip))
            | (with_reducible refine And.intro ?_ ?_)
            | with_reducible intro _
          all_goals first
            | omega
            | (rename_i hx; revert hx; simp; done)
            | (simp; done)
            | skip
          refine hK _ _ (i + 1, L ++ [[ch s i]], i, .mem (verOf (some O) + 1) 9 [.str [ch s i]], v + 1) ⟨rfl, .inr ⟨D ++ [(s.drop f).take (i - f)], done_new hd hi hR, by simp only; rw [hL, one_at s hi], by simp; omega⟩⟩ (by simp only; omega) ?_
          simp only [strC_snoc, List.length_append, List.length_singleton]
          refine Wk.temps ?_
          (simp only [bools, hrl, spar, List.foldl, List.replicate, go_sem, VLes_nil, VLes_cons, VLe_undef_iff, VLe_self]; try (repeat' first | (with_reducible refine And.intro ?_ ?_) | (refine VLe_int ?_; omega) | (refine VLe_bool ?_; rfl) | exact VLe.refl _))
    · have hz : L = clus s := by
        rcases i3 with ⟨rfl, rfl⟩ | ⟨D, hd, hL, hlen⟩
        · have : s = [] := List.eq_nil_of_length_eq_zero (by omega)
          subst this; rfl
        · have e : i = s.length := by have := hd.2.1; omega
          subst e
          rw [hL, done_end hd]
      simp (disch := omega) only [spar, List.foldl, List.replicate, eL, go_sem, wrap64_id, Int.tdiv_eq_ediv_of_nonneg, Int.tmod_eq_emod_of_nonneg]
      repeat' first
        | ((first | refine fnQ_pure1 ?_ ?_ | refine fnQ_pure0 ?_ ?_); (next => repeat' first | exact rvs_n | refine rvs_t ?_ | (simp [go_sem]; done)); simp only [go_sem]; (first | exact VLe.refl _ | refine VLe_int ?_ | refine VLe_bool ?_ | refine VLe_str ?_ | skip))
        | (with_reducible refine And.intro ?_ ?_)
        | with_reducible intro _
      all_goals first
        | omega
        | (rename_i hx; revert hx; simp; done)
        | (simp; done)
        | skip
      rw [if_pos (by omega), ← hz]
      exact strs_of rfl
end HY
end

section
set_option linter.all false
set_option linter.unusedSimpArgs false
set_option linter.unusedVariables false
set_option linter.unusedSectionVars false
open Go Go.Proofs AF HY
namespace HY
set_option maxRecDepth 100000
theorem clusO_bad {s : List UInt8} : ∀ (k : Nat) {f i : Nat}, s.length - i = k → inClus s f i → i ≤ s.length → badHead ((s.drop f).take (i - f)) = badHead [ch s f] →
    ((clusO f ((s.drop f).take (i - f)) (s.drop i)).map (·.2)).any badHead = (badHead [ch s f] || (List.range' i (s.length - i)).any (badAt s)) := by
  intro k
  induction k with
  | zero =>
    intro f i hk hc hi hb
    have e : i = s.length := by omega
    subst e
    rw [List.drop_length, Nat.sub_self]
    simp [clusO, hb]
  | succ k ih =>
    intro f i hk hc hi hb
    have hi' : i < s.length := by omega
    rw [clus_step hc.1 hi']
    rw [show s.length - i = (s.length - (i + 1)) + 1 by omega, List.range'_succ, List.any_cons]
    have hr := inClus_right hc
    by_cases hg : kind (ch s i) = 2 ∧ kind (ch s f) = 1
    · rw [if_pos hg]
      have hrt : rightAt s i = true := by rw [hr]; simp [hg]
      have hb2 : badHead ((s.drop f).take (i + 1 - f)) = badHead [ch s f] := by
        rw [← hb]
        unfold badHead
        have e : ch ((s.drop f).take (i + 1 - f)) 0 = ch ((s.drop f).take (i - f)) 0 := by
          have := hc.1
          simp [ch, List.getD_eq_getElem?_getD, List.getElem?_take, show 0 < i - f by omega, show 0 < i + 1 - f by omega]
        rw [e]
      rw [ih (by omega) (inClus_go hc hrt) hi' hb2]
      have : badAt s i = false := by unfold badAt; rw [hrt, hg.1]; rfl
      rw [this, Bool.false_or]
    · rw [if_neg hg]
      have hrf : rightAt s i = false := by
        rw [hr]
        cases h2 : decide (kind (ch s i) = 2) <;> cases h3 : decide (kind (ch s f) = 1) <;> simp_all
      simp only [List.map_cons, List.any_cons, hb]
      have h1 : (s.drop i).take (i + 1 - i) = [ch s i] := one_at s hi'
      rw [ih (by omega) (inClus_new hc hrf) hi' (by rw [h1])]
      have : badAt s i = badHead [ch s i] := by unfold badAt badHead; rw [hrf]; simp [ch]
      rw [this]
theorem clus_bad (s : List UInt8) : (clus s).any badHead = (List.range s.length).any (badAt s) := by
  cases hs : s with
  | nil => rfl
  | cons c r =>
    rw [← hs]
    have h0 : 0 < s.length := by rw [hs]; simp
    have hd := done_first h0
    have h1 : (s.drop 0).take (1 - 0) = [ch s 0] := one_at s h0
    have := clusO_bad (s := s) _ rfl hd.1 h0 (by rw [h1])
    rw [← List.nil_append ((clusO 0 ((s.drop 0).take (1 - 0)) (s.drop 1)).map (·.2)), ← hd.2.2] at this
    rw [this, List.range_eq_range', show s.length = (s.length - 1) + 1 by omega, List.range'_succ, List.any_cons]
    have : badAt s 0 = badHead [ch s 0] := by unfold badAt badHead; simp [rightAt, ch]
    rw [this]; simp
theorem checkC_eq (s : List UInt8) : checkC s = if 65536 < s.length then 4 else if (List.range s.length).any (badAt s) = true then 11 else 0 := by unfold checkC; rw [clus_bad]
theorem any_range_true {p : Nat → Bool} {n i : Nat} (hi : i < n) (h : p i = true) : (List.range n).any p = true := List.any_eq_true.2 ⟨i, by simpa using hi, h⟩
theorem any_range_false {p : Nat → Bool} {n : Nat} (h : ∀ i, i < n → p i = false) : (List.range n).any p = false := by
  rw [List.any_eq_false]
  intro i hi
  simp at hi
  rw [h i hi]; simp
theorem t118 (s : List UInt8) (h : List AObj) (hs : s.length ≤ 1000000000) : ACalls Tryd.prog 91 [.str s] h (.int .i64 (checkC s)) h := by
  rw [checkC_eq]
  by_cases hl : 65536 < s.length
  · have hl' : (65536 < (s.length : Int)) = True := eq_true (by omega)
    rw [if_pos hl]
    refine acalls_of fn91d (by simp) ?_
    simp only [List.length_cons, List.length_nil, Nat.reduceAdd, Nat.reduceSub, List.replicate, List.cons_append, List.nil_append, List.append_nil]
    simp (disch := omega) only [c91d, hl', go_sem, wrap64_id, Int.tdiv_eq_ediv_of_nonneg, Int.tmod_eq_emod_of_nonneg]
    repeat' first
      | ((first | refine fnQ_pure1 ?_ ?_ | refine fnQ_pure0 ?_ ?_); (next => repeat' first | exact rvs_n | refine rvs_t ?_ | (simp [go_sem]; done)); simp only [go_sem]; (first | exact VLe.refl _ | refine VLe_int ?_ | refine VLe_bool ?_ | refine VLe_str ?_ | skip))
      | (with_reducible refine And.intro ?_ ?_)
      | with_reducible intro _
    all_goals first
      | omega
      | (rename_i hx; revert hx; simp; done)
      | (simp; done)
      | skip
  · have hl' : (65536 < (s.length : Int)) = False := eq_false (by omega)
    rw [if_neg hl]
    refine acalls_of fn91d (by simp) ?_
    simp only [List.length_cons, List.length_nil, Nat.reduceAdd, Nat.reduceSub, List.replicate, List.cons_append, List.nil_append, List.append_nil]
    simp (disch := omega) only [c91d, hl', go_sem, wrap64_id, Int.tdiv_eq_ediv_of_nonneg, Int.tmod_eq_emod_of_nonneg]
    repeat' first
      | ((first | refine callA_pure (t95 s _ hs) ?_ ?_); (next => repeat' first | exact flags_n | refine flags_c (by first | rfl | assumption) ?_); simp (disch := omega) only [hl', bools, go_sem, wrap64_id, Int.tdiv_eq_ediv_of_nonneg, Int.tmod_eq_emod_of_nonneg])
      | ((first | refine callG_pure (fun e => ⟨?_, t95 s _ hs⟩) ?_); (next => repeat' first | exact flags_n | refine flags_c (by first | rfl | assumption) ?_); simp (disch := omega) only [hl', bools, go_sem, wrap64_id, Int.tdiv_eq_ediv_of_nonneg, Int.tmod_eq_emod_of_nonneg])
      | ((first | refine fnQ_pure1 ?_ ?_ | refine fnQ_pure0 ?_ ?_); (next => repeat' first | exact rvs_n | refine rvs_t ?_ | (simp [go_sem]; done)); simp only [go_sem]; (first | exact VLe.refl _ | refine VLe_int ?_ | refine VLe_bool ?_ | refine VLe_str ?_ | skip))
      | (with_reducible refine And.intro ?_ ?_)
      | with_reducible intro _
    all_goals first
      | omega
      | (rename_i hx; revert hx; simp; done)
      | (simp; done)
      | skip
    refine loop_of (T := fun i : Nat => spar 34 [(0, .str s), (3, bools (rightL s)), (4, .int .i64 i)]) (H := fun _ => h) (inv := fun i => i ≤ s.length ∧ ∀ j, j < i → badAt s j = false) (m := fun i => s.length - i) 0 ⟨by omega, by omega⟩ (Wk.temps ?_) ?_
    · (simp only [bools, spar, List.foldl, List.replicate, go_sem, VLes_nil, VLes_cons, VLe_undef_iff, VLe_self]; try (repeat' first | (with_reducible refine And.intro ?_ ?_) | (refine VLe_int ?_; omega) | (refine VLe_bool ?_; rfl) | exact VLe.refl _))
    · rintro i ⟨i1, i2⟩ K hK
      have hrl : (rightL s).length = s.length := by simp [rightL]
      by_cases hi : i < s.length
      · have hg := rightL_get hi
        by_cases hb : badAt s i = true
        · rw [if_pos (any_range_true hi hb)]
          unfold badAt at hb
          simp (disch := omega) only [spar, List.foldl, List.replicate, bools, hrl, hg, ch_eq, go_sem, wrap64_id, Int.tdiv_eq_ediv_of_nonneg, Int.tmod_eq_emod_of_nonneg]
          repeat' first
            | ((first | refine callA_pure (t117b _ _) ?_ ?_); (next => repeat' first | exact flags_n | refine flags_c (by first | rfl | assumption) ?_); simp (disch := omega) only [bools, hrl, hg, ch_eq, go_sem, wrap64_id, Int.tdiv_eq_ediv_of_nonneg, Int.tmod_eq_emod_of_nonneg])
            | ((first | refine callG_pure (fun e => ⟨?_, t117b _ _⟩) ?_); (next => repeat' first | exact flags_n | refine flags_c (by first | rfl | assumption) ?_); simp (disch := omega) only [bools, hrl, hg, ch_eq, go_sem, wrap64_id, Int.tdiv_eq_ediv_of_nonneg, Int.tmod_eq_emod_of_nonneg])
            | ((first | refine fnQ_pure1 ?_ ?_ | refine fnQ_pure0 ?_ ?_); (next => repeat' first | exact rvs_n | refine rvs_t ?_ | (simp [go_sem]; done)); simp only [go_sem]; (first | exact VLe.refl _ | refine VLe_int ?_ | refine VLe_bool ?_ | refine VLe_str ?_ | skip))
            | (with_reducible refine And.intro ?_ ?_)
            | with_reducible intro _
          all_goals first
            | omega
            | (rename_i hx; revert hx; simp; done)
            | (simp; done)
            | skip
          all_goals
            refine hK _ _ (i + 1) ⟨by omega, ?_⟩ (by omega) (Wk.temps ?_)
            · exfalso; grind
            · (simp only [bools, hrl, spar, List.foldl, List.replicate, go_sem, VLes_nil, VLes_cons, VLe_undef_iff, VLe_self]; try (repeat' first | (with_reducible refine And.intro ?_ ?_) | (refine VLe_int ?_; omega) | (refine VLe_bool ?_; rfl) | exact VLe.refl _))
        · have hb' : badAt s i = false := by simpa using hb
          unfold badAt at hb
          simp (disch := omega) only [spar, List.foldl, List.replicate, bools, hrl, hg, ch_eq, go_sem, wrap64_id, Int.tdiv_eq_ediv_of_nonneg, Int.tmod_eq_emod_of_nonneg]
          repeat' first
            | ((first | refine callA_pure (t117b _ _) ?_ ?_); (next => repeat' first | exact flags_n | refine flags_c (by first | rfl | assumption) ?_); simp (disch := omega) only [bools, hrl, hg, ch_eq, go_sem, wrap64_id, Int.tdiv_eq_ediv_of_nonneg, Int.tmod_eq_emod_of_nonneg])
            | ((first | refine callG_pure (fun e => ⟨?_, t117b _ _⟩) ?_); (next => repeat' first | exact flags_n | refine flags_c (by first | rfl | assumption) ?_); simp (disch := omega) only [bools, hrl, hg, ch_eq, go_sem, wrap64_id, Int.tdiv_eq_ediv_of_nonneg, Int.tmod_eq_emod_of_nonneg])
            | ((first | refine fnQ_pure1 ?_ ?_ | refine fnQ_pure0 ?_ ?_); (next => repeat' first | exact rvs_n | refine rvs_t ?_ | (simp [go_sem]; done)); simp only [go_sem]; (first | exact VLe.refl _ | refine VLe_int ?_ | refine VLe_bool ?_ | refine VLe_str ?_ | skip))
            | (with_reducible refine And.intro ?_ ?_)
            | with_reducible intro _
          all_goals first
            | omega
            | (rename_i hx; revert hx; simp; done)
            | (simp; done)
            | skip
          all_goals first
            | (exfalso; grind)
            | skip
          all_goals
            refine hK _ _ (i + 1) ⟨by omega, fun j hj => ?_⟩ (by omega) (Wk.temps ?_)
            · by_cases e : j = i
              · subst e; exact hb'
              · exact i2 j (by omega)
            · (simp only [bools, hrl, spar, List.foldl, List.replicate, go_sem, VLes_nil, VLes_cons, VLe_undef_iff, VLe_self]; try (repeat' first | (with_reducible refine And.intro ?_ ?_) | (refine VLe_int ?_; omega) | (refine VLe_bool ?_; rfl) | exact VLe.refl _))
      · have e : i = s.length := by omega
        subst e
        rw [any_range_false i2]
        simp (disch := omega) only [spar, List.foldl, List.replicate, go_sem, wrap64_id, Int.tdiv_eq_ediv_of_nonneg, Int.tmod_eq_emod_of_nonneg]
        repeat' first
          | ((first | refine fnQ_pure1 ?_ ?_ | refine fnQ_pure0 ?_ ?_); (next => repeat' first | exact rvs_n | refine rvs_t ?_ | (simp [go_sem]; done)); simp only [go_sem]; (first | exact VLe.refl _ | refine VLe_int ?_ | refine VLe_bool ?_ | refine VLe_str ?_ | skip))
          | (with_reducible refine And.intro ?_ ?_)
          | with_reducible intro _
        all_goals first
          | omega
          | (rename_i hx; revert hx; simp; done)
          | (simp; done)
          | skip
end HY
end

section
set_option linter.all false
set_option linter.unusedSimpArgs false
set_option linter.unusedVariables false
set_option linter.unusedSectionVars false
open Go Go.Proofs AF HY
namespace HY
set_option maxRecDepth 100000
theorem kind_range (b : UInt8) : 0 ≤ kind b ∧ kind b ≤ 6 := by
  unfold kind kindI
  (repeat' split) <;> omega
theorem any_ch (s : List UInt8) (p : UInt8 → Bool) : (List.range s.length).any (fun i => p (ch s i)) = s.any p := by
  rw [Bool.eq_iff_iff, List.any_eq_true, List.any_eq_true]
  constructor
  · rintro ⟨i, hi, h⟩
    simp at hi
    refine ⟨s[i], List.getElem_mem hi, ?_⟩
    simpa [ch, hi] using h
  · rintro ⟨x, hx, h⟩
    obtain ⟨i, hi, rfl⟩ := List.mem_iff_getElem.1 hx
    exact ⟨i, by simpa using hi, by simpa [ch, hi] using h⟩
def spc (c : UInt8) : Bool := decide (kind c = 5) || decide (kind c = 6)
theorem isWord_eq (s : List UInt8) : isWord s = (decide (0 < s.length) && decide (s.length ≤ 64) && decide (checkC s = 0) && (decide (kind (ch s 0) = 1) || decide (kind (ch s 0) = 3)) && !((List.range s.length).any fun i => spc (ch s i))) := by
  rw [any_ch]; rfl
theorem t93 (s : List UInt8) (h : List AObj) (hs : s.length ≤ 1000000000) : ACalls Tryd.prog 92 [.str s] h (.bool (isWord s)) h := by
  obtain ⟨c, hc⟩ : ∃ c, c = checkC s := ⟨_, rfl⟩
  have h118 : ∀ h : List AObj, ACalls Tryd.prog 91 [.str s] h (.int .i64 c) h := fun h => by rw [hc]; exact t118 s h hs
  rw [isWord_eq, ← hc]
  by_cases g0 : 0 < s.length ∧ s.length ≤ 64 ∧ c = 0 ∧ (kind (ch s 0) = 1 ∨ kind (ch s 0) = 3)
  · obtain ⟨g1, g2, g3, g4⟩ := g0
    have e : (decide (0 < s.length) && decide (s.length ≤ 64) && decide (c = 0) && (decide (kind (ch s 0) = 1) || decide (kind (ch s 0) = 3))) = true := by simp [g1, g2, g3, g4]
    rw [e, Bool.true_and]
    have k1 : ((s.length : Int) < 1) = False := eq_false (by omega)
    have k2 : (64 < (s.length : Int)) = False := eq_false (by omega)
    refine acalls_of fn92d (by simp) ?_
    simp only [List.length_cons, List.length_nil, Nat.reduceAdd, Nat.reduceSub, List.replicate, List.cons_append, List.nil_append, List.append_nil]
    simp (disch := omega) only [c92d, k1, k2, go_sem, wrap64_id, Int.tdiv_eq_ediv_of_nonneg, Int.tmod_eq_emod_of_nonneg]
    repeat' first
      | ((first | refine callA_pure (h118 _) ?_ ?_ | refine callA_pure (t117b _ _) ?_ ?_); (next => repeat' first | exact flags_n | refine flags_c (by first | rfl | assumption) ?_); simp (disch := omega) only [k1, k2, g3, ch_eq, go_sem, wrap64_id, Int.tdiv_eq_ediv_of_nonneg, Int.tmod_eq_emod_of_nonneg])
      | ((first | refine callG_pure (fun e => ⟨?_, h118 _⟩) ?_ | refine callG_pure (fun e => ⟨?_, t117b _ _⟩) ?_); (next => repeat' first | exact flags_n | refine flags_c (by first | rfl | assumption) ?_); simp (disch := omega) only [k1, k2, g3, ch_eq, go_sem, wrap64_id, Int.tdiv_eq_ediv_of_nonneg, Int.tmod_eq_emod_of_nonneg])
      | ((first | refine fnQ_pure1 ?_ ?_ | refine fnQ_pure0 ?_ ?_); (next => repeat' first | exact rvs_n | refine rvs_t ?_ | (simp [go_sem]; done)); simp only [go_sem]; (first | exact VLe.refl _ | refine VLe_int ?_ | refine VLe_bool ?_ | refine VLe_str ?_ | skip))
      | (with_reducible refine And.intro ?_ ?_)
      | with_reducible intro _
    all_goals first
      | omega
      | (rename_i hx; revert hx; simp; done)
      | (simp; done)
      | skip
    refine loop_of (T := fun i : Nat => spar 38 [(0, .str s), (4, .int .i64 i)]) (H := fun _ => h) (inv := fun i => i ≤ s.length ∧ ∀ j, j < i → spc (ch s j) = false) (m := fun i => s.length - i) 0 ⟨by omega, by omega⟩ (Wk.temps ?_) ?_
    · (simp only [spar, List.foldl, List.replicate, go_sem, VLes_nil, VLes_cons, VLe_undef_iff, VLe_self]; try (repeat' first | (with_reducible refine And.intro ?_ ?_) | (refine VLe_int ?_; omega) | (refine VLe_bool ?_; rfl) | exact VLe.refl _))
    · rintro i ⟨i1, i2⟩ K hK
      by_cases hi : i < s.length
      · have hr := kind_range (ch s i)
        cases hb : spc (ch s i) with
        | true =>
          rw [any_range_true hi hb]
          unfold spc at hb
          have hk : (4 < kind (ch s i)) = True := eq_true (by grind)
          simp (disch := omega) only [spar, List.foldl, List.replicate, ch_eq, go_sem, wrap64_id, Int.tdiv_eq_ediv_of_nonneg, Int.tmod_eq_emod_of_nonneg]
          repeat' first
            | ((first | refine callA_pure (t117b _ _) ?_ ?_); (next => repeat' first | exact flags_n | refine flags_c (by first | rfl | assumption) ?_); simp (disch := omega) only [ch_eq, hk, go_sem, wrap64_id, Int.tdiv_eq_ediv_of_nonneg, Int.tmod_eq_emod_of_nonneg])
            | ((first | refine callG_pure (fun e => ⟨?_, t117b _ _⟩) ?_); (next => repeat' first | exact flags_n | refine flags_c (by first | rfl | assumption) ?_); simp (disch := omega) only [ch_eq, hk, go_sem, wrap64_id, Int.tdiv_eq_ediv_of_nonneg, Int.tmod_eq_emod_of_nonneg])
            | ((first | refine fnQ_pure1 ?_ ?_ | refine fnQ_pure0 ?_ ?_); (next => repeat' first | exact rvs_n | refine rvs_t ?_ | (simp [go_sem]; done)); simp only [go_sem]; (first | exact VLe.refl _ | refine VLe_int ?_ | refine VLe_bool ?_ | refine VLe_str ?_ | skip))
            | (with_reducible refine And.intro ?_ ?_)
            | with_reducible intro _
          all_goals first
            | omega
            | (rename_i hx; revert hx; simp; done)
            | (simp; done)
            | skip
        | false =>
          have hk : (4 < kind (ch s i)) = False := eq_false (by unfold spc at hb; grind)
          simp (disch := omega) only [spar, List.foldl, List.replicate, ch_eq, go_sem, wrap64_id, Int.tdiv_eq_ediv_of_nonneg, Int.tmod_eq_emod_of_nonneg]
          repeat' first
            | ((first | refine callA_pure (t117b _ _) ?_ ?_); (next => repeat' first | exact flags_n | refine flags_c (by first | rfl | assumption) ?_); simp (disch := omega) only [ch_eq, hk, go_sem, wrap64_id, Int.tdiv_eq_ediv_of_nonneg, Int.tmod_eq_emod_of_nonneg])
            | ((first | refine callG_pure (fun e => ⟨?_, t117b _ _⟩) ?_); (next => repeat' first | exact flags_n | refine flags_c (by first | rfl | assumption) ?_); simp (disch := omega) only [ch_eq, hk, go_sem, wrap64_id, Int.tdiv_eq_ediv_of_nonneg, Int.tmod_eq_emod_of_nonneg])
            | ((first | refine fnQ_pure1 ?_ ?_ | refine fnQ_pure0 ?_ ?_); (next => repeat' first | exact rvs_n | refine rvs_t ?_ | (simp [go_sem]; done)); simp only [go_sem]; (first | exact VLe.refl _ | refine VLe_int ?_ | refine VLe_bool ?_ | refine VLe_str ?_ | skip))
            | (with_reducible refine And.intro ?_ ?_)
            | with_reducible intro _
          all_goals first
            | omega
            | (rename_i hx; revert hx; simp; done)
            | (simp; done)
            | skip
          refine hK _ _ (i + 1) ⟨by omega, fun j hj => ?_⟩ (by omega) (Wk.temps ?_)
          · by_cases e : j = i
            · subst e; exact hb
            · exact i2 j (by omega)
          · (simp only [spar, List.foldl, List.replicate, go_sem, VLes_nil, VLes_cons, VLe_undef_iff, VLe_self]; try (repeat' first | (with_reducible refine And.intro ?_ ?_) | (refine VLe_int ?_; omega) | (refine VLe_bool ?_; rfl) | exact VLe.refl _))
      · have e : i = s.length := by omega
        subst e
        rw [any_range_false i2]
        simp (disch := omega) only [spar, List.foldl, List.replicate, go_sem, wrap64_id, Int.tdiv_eq_ediv_of_nonneg, Int.tmod_eq_emod_of_nonneg]
        repeat' first
          | ((first | refine fnQ_pure1 ?_ ?_ | refine fnQ_pure0 ?_ ?_); (next => repeat' first | exact rvs_n | refine rvs_t ?_ | (simp [go_sem]; done)); simp only [go_sem]; (first | exact VLe.refl _ | refine VLe_int ?_ | refine VLe_bool ?_ | refine VLe_str ?_ | skip))
          | (with_reducible refine And.intro ?_ ?_)
          | with_reducible intro _
        all_goals first
          | omega
          | (rename_i hx; revert hx; simp; done)
          | (simp; done)
          | skip
  · have e : (decide (0 < s.length) && decide (s.length ≤ 64) && decide (c = 0) && (decide (kind (ch s 0) = 1) || decide (kind (ch s 0) = 3))) = false := by
      rw [Bool.eq_false_iff]
      intro h
      simp only [Bool.and_eq_true, Bool.or_eq_true, decide_eq_true_eq] at h
      exact g0 ⟨h.1.1.1, h.1.1.2, h.1.2, h.2⟩
    rw [e, Bool.false_and]
    by_cases g1 : 0 < s.length
    · by_cases g2 : s.length ≤ 64
      · have k1 : ((s.length : Int) < 1) = False := eq_false (by omega)
        have k2 : (64 < (s.length : Int)) = False := eq_false (by omega)
        by_cases g3 : c = 0
        · have g4 : ¬ kind (ch s 0) = 1 ∧ ¬ kind (ch s 0) = 3 := by
            constructor
            · intro h; exact g0 ⟨g1, g2, g3, .inl h⟩
            · intro h; exact g0 ⟨g1, g2, g3, .inr h⟩
          have g5 := g4.1
          have g6 := g4.2
          refine acalls_of fn92d (by simp) ?_
          simp only [List.length_cons, List.length_nil, Nat.reduceAdd, Nat.reduceSub, List.replicate, List.cons_append, List.nil_append, List.append_nil]
          simp (disch := omega) only [c92d, k1, k2, go_sem, wrap64_id, Int.tdiv_eq_ediv_of_nonneg, Int.tmod_eq_emod_of_nonneg]
          repeat' first
            | ((first | refine callA_pure (h118 _) ?_ ?_ | refine callA_pure (t117b _ _) ?_ ?_); (next => repeat' first | exact flags_n | refine flags_c (by first | rfl | assumption) ?_); simp (disch := omega) only [k1, k2, g3, ch_eq, g5, g6, go_sem, wrap64_id, Int.tdiv_eq_ediv_of_nonneg, Int.tmod_eq_emod_of_nonneg])
            | ((first | refine callG_pure (fun e => ⟨?_, h118 _⟩) ?_ | refine callG_pure (fun e => ⟨?_, t117b _ _⟩) ?_); (next => repeat' first | exact flags_n | refine flags_c (by first | rfl | assumption) ?_); simp (disch := omega) only [k1, k2, g3, ch_eq, g5, g6, go_sem, wrap64_id, Int.tdiv_eq_ediv_of_nonneg, Int.tmod_eq_emod_of_nonneg])
            | ((first | refine fnQ_pure1 ?_ ?_ | refine fnQ_pure0 ?_ ?_); (next => repeat' first | exact rvs_n | refine rvs_t ?_ | (simp [go_sem]; done)); simp only [go_sem]; (first | exact VLe.refl _ | refine VLe_int ?_ | refine VLe_bool ?_ | refine VLe_str ?_ | skip))
            | (with_reducible refine And.intro ?_ ?_)
            | with_reducible intro _
          all_goals first
            | omega
            | (rename_i hx; revert hx; simp; done)
            | (simp; done)
            | skip
        · refine acalls_of fn92d (by simp) ?_
          simp only [List.length_cons, List.length_nil, Nat.reduceAdd, Nat.reduceSub, List.replicate, List.cons_append, List.nil_append, List.append_nil]
          simp (disch := omega) only [c92d, k1, k2, go_sem, wrap64_id, Int.tdiv_eq_ediv_of_nonneg, Int.tmod_eq_emod_of_nonneg]
          repeat' first
            | ((first | refine callA_pure (h118 _) ?_ ?_ | refine callA_pure (t117b _ _) ?_ ?_); (next => repeat' first | exact flags_n | refine flags_c (by first | rfl | assumption) ?_); simp (disch := omega) only [k1, k2, g3, ch_eq, go_sem, wrap64_id, Int.tdiv_eq_ediv_of_nonneg, Int.tmod_eq_emod_of_nonneg])
            | ((first | refine callG_pure (fun e => ⟨?_, h118 _⟩) ?_ | refine callG_pure (fun e => ⟨?_, t117b _ _⟩) ?_); (next => repeat' first | exact flags_n | refine flags_c (by first | rfl | assumption) ?_); simp (disch := omega) only [k1, k2, g3, ch_eq, go_sem, wrap64_id, Int.tdiv_eq_ediv_of_nonneg, Int.tmod_eq_emod_of_nonneg])
            | ((first | refine fnQ_pure1 ?_ ?_ | refine fnQ_pure0 ?_ ?_); (next => repeat' first | exact rvs_n | refine rvs_t ?_ | (simp [go_sem]; done)); simp only [go_sem]; (first | exact VLe.refl _ | refine VLe_int ?_ | refine VLe_bool ?_ | refine VLe_str ?_ | skip))
            | (with_reducible refine And.intro ?_ ?_)
            | with_reducible intro _
          all_goals first
            | omega
            | (rename_i hx; revert hx; simp; done)
            | (simp; done)
            | skip
      · have k1 : ((s.length : Int) < 1) = False := eq_false (by omega)
        have k2 : (64 < (s.length : Int)) = True := eq_true (by omega)
        refine acalls_of fn92d (by simp) ?_
        simp only [List.length_cons, List.length_nil, Nat.reduceAdd, Nat.reduceSub, List.replicate, List.cons_append, List.nil_append, List.append_nil]
        simp (disch := omega) only [c92d, k1, k2, go_sem, wrap64_id, Int.tdiv_eq_ediv_of_nonneg, Int.tmod_eq_emod_of_nonneg]
        repeat' first
          | (refine callG_false ((.int .i64 0)) ?_; simp (disch := omega) only [k1, k2, go_sem, wrap64_id, Int.tdiv_eq_ediv_of_nonneg, Int.tmod_eq_emod_of_nonneg])
          | ((first | refine fnQ_pure1 ?_ ?_ | refine fnQ_pure0 ?_ ?_); (next => repeat' first | exact rvs_n | refine rvs_t ?_ | (simp [go_sem]; done)); simp only [go_sem]; (first | exact VLe.refl _ | refine VLe_int ?_ | refine VLe_bool ?_ | refine VLe_str ?_ | skip))
          | (with_reducible refine And.intro ?_ ?_)
          | with_reducible intro _
        all_goals first
          | omega
          | (rename_i hx; revert hx; simp; done)
          | (simp; done)
          | skip
    · have k1 : ((s.length : Int) < 1) = True := eq_true (by omega)
      refine acalls_of fn92d (by simp) ?_
      simp only [List.length_cons, List.length_nil, Nat.reduceAdd, Nat.reduceSub, List.replicate, List.cons_append, List.nil_append, List.append_nil]
      simp (disch := omega) only [c92d, k1, go_sem, wrap64_id, Int.tdiv_eq_ediv_of_nonneg, Int.tmod_eq_emod_of_nonneg]
      repeat' first
        | (refine callG_false ((.int .i64 0)) ?_; simp (disch := omega) only [k1, go_sem, wrap64_id, Int.tdiv_eq_ediv_of_nonneg, Int.tmod_eq_emod_of_nonneg])
        | ((first | refine fnQ_pure1 ?_ ?_ | refine fnQ_pure0 ?_ ?_); (next => repeat' first | exact rvs_n | refine rvs_t ?_ | (simp [go_sem]; done)); simp only [go_sem]; (first | exact VLe.refl _ | refine VLe_int ?_ | refine VLe_bool ?_ | refine VLe_str ?_ | skip))
        | (with_reducible refine And.intro ?_ ?_)
        | with_reducible intro _
      all_goals first
        | omega
        | (rename_i hx; revert hx; simp; done)
        | (simp; done)
        | skip
end HY
end

section
set_option linter.all false
set_option linter.unusedSimpArgs false
set_option linter.unusedVariables false
set_option linter.unusedSectionVars false
open Go Go.Proofs AF HY
namespace HY
set_option maxRecDepth 100000
def clusF (s : List UInt8) : AV := .fn (.func 76) [] [.ip [.str s]]
def clusX (s : List UInt8) : List (List AV) := (clusters s).map fun x => [.int .i64 (x.1 : Int), .str x.2]
theorem clusX_len (s : List UInt8) : (clusX s).length = (clus s).length := by simp [clusX, clus]
theorem clusX_get (s : List UInt8) {i : Nat} (hi : i < (clusX s).length) : ∃ n : Nat, (clusX s)[i] = [.int .i64 (n : Int), .str ((clus s).getD i [])] := by
  have h1 : i < (clusters s).length := by simpa [clusX] using hi
  refine ⟨((clusters s)[i]).1, ?_⟩
  simp [clusX, clus, List.getD_eq_getElem?_getD, h1]
theorem t91 (s : List UInt8) (h : List AObj) : ACalls Tryd.prog 43 [.str s] h (clusF s) h := by
  refine acalls_of fn43d (by simp) ?_
  simp only [List.length_cons, List.length_nil, Nat.reduceAdd, Nat.reduceSub, List.replicate, List.cons_append, List.nil_append, List.append_nil]
  simp (disch := omega) only [c43d, go_sem, wrap64_id, Int.tdiv_eq_ediv_of_nonneg, Int.tmod_eq_emod_of_nonneg]
  repeat' first
    | ((first | refine fnQ_pure1 ?_ ?_ | refine fnQ_pure0 ?_ ?_); (next => repeat' first | exact rvs_n | refine rvs_t ?_ | (simp [go_sem]; done)); simp only [go_sem]; (first | exact VLe.refl _ | refine VLe_int ?_ | refine VLe_bool ?_ | refine VLe_str ?_ | skip))
    | (with_reducible refine And.intro ?_ ?_)
    | with_reducible intro _
  all_goals first
    | omega
    | (rename_i hx; revert hx; simp; done)
    | (simp; done)
    | skip
theorem flag_clusF (s : List UInt8) : (clusF s).flag = true := rfl
theorem strip_clusF (s : List UInt8) : (clusF s).strip = clusF s := rfl
attribute [go_sem] flag_clusF strip_clusF
theorem _root_.AF.LowI.app {h a b : List AObj} (e : b.length = a.length) (hb : ∀ o ∈ b, o ∈ a ∨ (lowO (h.length + a.length) o ∧ lowO (h.length + a.length + 1) o)) : LowI (h ++ a) (h ++ b) := by
  refine ⟨by simp [e], fun o ho => ?_⟩
  rw [List.length_append]
  rcases List.mem_append.1 ho with ho | ho
  · exact .inl (List.mem_append_left _ ho)
  · rcases hb o ho with h1 | h1
    · exact .inl (List.mem_append_right _ h1)
    · exact .inr h1
theorem low_strC {l : List (List UInt8)} {n : Nat} {c : AV} (h : c ∈ strC l) : lowV n c = true := by
  unfold strC at h
  rw [List.mem_map] at h
  obtain ⟨x, _, rfl⟩ := h
  rfl
theorem take_getD (l : List (List UInt8)) {i : Nat} (h : i < l.length) : l.take (i + 1) = l.take i ++ [l.getD i []] := by
  rw [List.take_add_one, List.getElem?_eq_getElem h]
  simp [List.getD_eq_getElem?_getD, h]
set_option maxHeartbeats 4000000 in
theorem t67 (s : List UInt8) (h : List AObj) (hs : s.length ≤ 1000000000) : ACalls Tryd.prog 16 [.str s] h (strs (clus s)) h := by
  have hcl := clus_len s
  have hit := it114 s hs
  refine acalls_of fn16d (by simp) ?_
  simp only [List.length_cons, List.length_nil, Nat.reduceAdd, Nat.reduceSub, List.replicate, List.cons_append, List.nil_append, List.append_nil]
  simp (disch := omega) only [c16d, madeA, go_sem, wrap64_id, Int.tdiv_eq_ediv_of_nonneg, Int.tmod_eq_emod_of_nonneg]
  repeat' first
    | ((first | refine callA_pure (t91 s _) ?_ ?_); (next => repeat' first | exact flags_n | refine flags_c (by first | rfl | assumption) ?_); simp (disch := omega) only [madeA, go_sem, wrap64_id, Int.tdiv_eq_ediv_of_nonneg, Int.tmod_eq_emod_of_nonneg])
    | ((first | refine callG_pure (fun e => ⟨?_, t91 s _⟩) ?_); (next => repeat' first | exact flags_n | refine flags_c (by first | rfl | assumption) ?_); simp (disch := omega) only [madeA, go_sem, wrap64_id, Int.tdiv_eq_ediv_of_nonneg, Int.tmod_eq_emod_of_nonneg])
    | ((first | refine fnQ_pure1 ?_ ?_ | refine fnQ_pure0 ?_ ?_); (next => repeat' first | exact rvs_n | refine rvs_t ?_ | (simp [go_sem]; done)); simp only [go_sem]; (first | exact VLe.refl _ | refine VLe_int ?_ | refine VLe_bool ?_ | refine VLe_str ?_ | skip))
    | (with_reducible refine And.intro ?_ ?_)
    | with_reducible intro _
  all_goals first
    | omega
    | (rename_i hx; revert hx; simp; done)
    | (simp; done)
    | skip
  refine range_iter (xs := clusX s) hit (by intro a ha; simp [clusX] at ha; obtain ⟨_, _, _, rfl⟩ := ha; rfl)
    (S := fun i hh => (i = 0 ∧ hh = h ++ [.emp 1, .mem 1 33 [.nl], .emp 0, .emp 0]) ∨ (0 < i ∧ ∃ (v w : Nat) (x : List UInt8), hh = h ++ [.emp 1, .mem 1 33 [.osl (h.length + 3) v 1 0 i], .mem w 9 [.str x], .mem v 9 (strC ((clus s).take i))]))
    (E := fun _ _ => False) ?_ (fun _ _ h => h.elim) ?_ ?_ ?_ ?_ (fun _ _ h => h.elim)
  · rintro i hh (⟨rfl, rfl⟩ | ⟨_, v, w, x, rfl⟩)
    · exact LowI.refl _
    · refine LowI.app rfl (fun o ho => ?_)
      simp only [List.mem_cons, List.not_mem_nil, or_false] at ho
      rcases ho with rfl | rfl | rfl | rfl
      · left; simp
      · right; constructor <;> (intro c hc; simp at hc; subst hc; simp [lowV] <;> omega)
      · right; constructor <;> (intro c hc; simp at hc; subst hc; rfl)
      · right; constructor <;> exact fun c hc => low_strC hc
  · exact .inl ⟨rfl, rfl⟩
  · simp [lowV, lowV.lowVs, clusF]
    try omega
  · rintro i hh tl L hi hS hlen
    obtain ⟨n, hx⟩ := clusX_get s hi
    rw [clusX_len] at hi
    rw [hx]
    have hts := take_getD (clus s) hi
    simp only [setsA]
    rcases hS with ⟨rfl, rfl⟩ | ⟨hpos, v, w, x, rfl⟩
    · simp (disch := omega) only [List.append_assoc, eq_self, madeA, go_sem, wrap64_id, Int.tdiv_eq_ediv_of_nonneg, Int.tmod_eq_emod_of_nonneg]
      repeat' first
        | ((first | refine fnQ_pure1 ?_ ?_ | refine fnQ_pure0 ?_ ?_); (next => repeat' first | exact rvs_n | refine rvs_t ?_ | (simp [go_sem]; done)); simp only [go_sem]; (first | exact VLe.refl _ | refine VLe_int ?_ | refine VLe_bool ?_ | refine VLe_str ?_ | skip))
        | (with_reducible refine And.intro ?_ ?_)
        | with_reducible intro _
      all_goals first
        | omega
        | (rename_i hx; revert hx; simp; done)
        | (simp; done)
        | skip
      refine ⟨h ++ [.emp 1, .mem 1 33 [.osl (h.length + 3) 1 1 0 1], .mem 1 9 [.str ((clus s).getD 0 [])], .mem 1 9 [.str ((clus s).getD 0 [])]], by simp, by simp, .inr ⟨by omega, 1, 1, (clus s).getD 0 [], ?_⟩⟩
      rw [hts]; rfl
    · have eL : (strC ((clus s).take i)).length = i := by rw [strC_len, List.length_take]; omega
      have eT : List.take i (strC ((clus s).take i)) = strC ((clus s).take i) := List.take_of_length_le (by omega)
      simp (disch := omega) only [List.append_assoc, eq_self, madeA, eL, eT, go_sem, wrap64_id, Int.tdiv_eq_ediv_of_nonneg, Int.tmod_eq_emod_of_nonneg]
      repeat' first
        | ((first | refine fnQ_pure1 ?_ ?_ | refine fnQ_pure0 ?_ ?_); (next => repeat' first | exact rvs_n | refine rvs_t ?_ | (simp [go_sem]; done)); simp only [go_sem]; (first | exact VLe.refl _ | refine VLe_int ?_ | refine VLe_bool ?_ | refine VLe_str ?_ | skip))
        | (with_reducible refine And.intro ?_ ?_)
        | with_reducible intro _
      all_goals first
        | omega
        | (rename_i hx; revert hx; simp; done)
        | (simp; done)
        | skip
      refine ⟨h ++ [.emp 1, .mem 1 33 [.osl (h.length + 3) (v + 1) 1 0 (i + 1)], .mem (w + 1) 9 [.str ((clus s).getD i [])], .mem (v + 1) 9 (strC ((clus s).take i) ++ [.str ((clus s).getD i [])])], by simp, by simp, ?_⟩
      have hfin : ∃ (v' w' : Nat) (x' : List UInt8), h ++ [AObj.emp 1, .mem 1 33 [.osl (h.length + 3) (v + 1) 1 0 (i + 1)], .mem (w + 1) 9 [.str ((clus s).getD i [])], .mem (v + 1) 9 (strC ((clus s).take i) ++ [.str ((clus s).getD i [])])] = h ++ [.emp 1, .mem 1 33 [.osl (h.length + 3) v' 1 0 (i + 1)], .mem w' 9 [.str x'], .mem v' 9 (strC ((clus s).take (i + 1)))] := ⟨v + 1, w + 1, (clus s).getD i [], by rw [hts, strC_snoc]⟩
      first
        | exact .inr ⟨by omega, hfin⟩
        | exact .inr hfin
        | exact hfin
  · rintro hh hS
    rw [clusX_len] at hS
    rcases hS with ⟨h0, rfl⟩ | ⟨hpos, v, w, x, rfl⟩
    · have e : clus s = [] := List.eq_nil_of_length_eq_zero h0
      rw [e]
      simp (disch := omega) only [go_sem, wrap64_id, Int.tdiv_eq_ediv_of_nonneg, Int.tmod_eq_emod_of_nonneg]
      repeat' first
        | ((first | refine fnQ_pure1 ?_ ?_ | refine fnQ_pure0 ?_ ?_); (next => repeat' first | exact rvs_n | refine rvs_t ?_ | (simp [go_sem]; done)); simp only [go_sem]; (first | exact VLe.refl _ | refine VLe_int ?_ | refine VLe_bool ?_ | refine VLe_str ?_ | skip))
        | (with_reducible refine And.intro ?_ ?_)
        | with_reducible intro _
      all_goals first
        | omega
        | (rename_i hx; revert hx; simp; done)
        | (simp; done)
        | skip
      exact VLe_nl
    · rw [List.take_length]
      have eL := strC_len (clus s)
      simp (disch := omega) only [eL, go_sem, wrap64_id, Int.tdiv_eq_ediv_of_nonneg, Int.tmod_eq_emod_of_nonneg]
      repeat' first
        | ((first | refine fnQ_pure1 ?_ ?_ | refine fnQ_pure0 ?_ ?_); (next => repeat' first | exact rvs_n | refine rvs_t ?_ | (simp [go_sem]; done)); simp only [go_sem]; (first | exact VLe.refl _ | refine VLe_int ?_ | refine VLe_bool ?_ | refine VLe_str ?_ | skip))
        | (with_reducible refine And.intro ?_ ?_)
        | with_reducible intro _
      all_goals first
        | omega
        | (rename_i hx; revert hx; simp; done)
        | (simp; done)
        | skip
      rw [if_pos (by omega)]
      exact strs_of rfl
end HY
end

section
set_option linter.all false
set_option linter.unusedSimpArgs false
set_option linter.unusedVariables false
set_option linter.unusedSectionVars false
open Go Go.Proofs AF HY
namespace HY
set_option maxRecDepth 100000
theorem any_take_succ {l : List (List UInt8)} {p : List UInt8 → Bool} {i : Nat} (h : i < l.length) : (l.take (i + 1)).any p = ((l.take i).any p || p (l.getD i [])) := by
  rw [take_getD l h, List.any_append]; simp
theorem any_at {l : List (List UInt8)} {p : List UInt8 → Bool} {i : Nat} (h : i < l.length) (hp : p (l.getD i []) = true) : l.any p = true := by
  rw [List.any_eq_true]
  refine ⟨l.getD i [], ?_, hp⟩
  rw [List.getD_eq_getElem?_getD, List.getElem?_eq_getElem h]
  exact List.getElem_mem h
theorem clus_at {s : List UInt8} {i : Nat} (h : i < (clus s).length) : 0 < ((clus s).getD i []).length := by
  apply List.length_pos_iff.2
  apply clus_ne (s := s)
  rw [List.getD_eq_getElem?_getD, List.getElem?_eq_getElem h]
  exact List.getElem_mem h
set_option maxHeartbeats 4000000 in
theorem t104 (s : List UInt8) (h : List AObj) (hs : s.length ≤ 1000000000) : ACalls Tryd.prog 70 [.str s] h (.int .i64 (checkC s)) h := by
  have hit := it114 s hs
  unfold checkC
  by_cases hl : 65536 < s.length
  · have hl' : (65536 < (s.length : Int)) = True := eq_true (by omega)
    rw [if_pos hl]
    refine acalls_of fn70d (by simp) ?_
    simp only [List.length_cons, List.length_nil, Nat.reduceAdd, Nat.reduceSub, List.replicate, List.cons_append, List.nil_append, List.append_nil]
    simp (disch := omega) only [c70d, hl', go_sem, wrap64_id, Int.tdiv_eq_ediv_of_nonneg, Int.tmod_eq_emod_of_nonneg]
    repeat' first
      | ((first | refine fnQ_pure1 ?_ ?_ | refine fnQ_pure0 ?_ ?_); (next => repeat' first | exact rvs_n | refine rvs_t ?_ | (simp [go_sem]; done)); simp only [go_sem]; (first | exact VLe.refl _ | refine VLe_int ?_ | refine VLe_bool ?_ | refine VLe_str ?_ | skip))
      | (with_reducible refine And.intro ?_ ?_)
      | with_reducible intro _
    all_goals first
      | omega
      | (rename_i hx; revert hx; simp; done)
      | (simp; done)
      | skip
    all_goals trace_state
  · have hl' : (65536 < (s.length : Int)) = False := eq_false (by omega)
    rw [if_neg hl]
    refine acalls_of fn70d (by simp) ?_
    simp only [List.length_cons, List.length_nil, Nat.reduceAdd, Nat.reduceSub, List.replicate, List.cons_append, List.nil_append, List.append_nil]
    simp (disch := omega) only [c70d, hl', go_sem, wrap64_id, Int.tdiv_eq_ediv_of_nonneg, Int.tmod_eq_emod_of_nonneg]
    repeat' first
      | ((first | refine callA_pure (t91 s _) ?_ ?_); (next => repeat' first | exact flags_n | refine flags_c (by first | rfl | assumption) ?_); simp (disch := omega) only [hl', go_sem, wrap64_id, Int.tdiv_eq_ediv_of_nonneg, Int.tmod_eq_emod_of_nonneg])
      | ((first | refine callG_pure (fun e => ⟨?_, t91 s _⟩) ?_); (next => repeat' first | exact flags_n | refine flags_c (by first | rfl | assumption) ?_); simp (disch := omega) only [hl', go_sem, wrap64_id, Int.tdiv_eq_ediv_of_nonneg, Int.tmod_eq_emod_of_nonneg])
      | ((first | refine fnQ_pure1 ?_ ?_ | refine fnQ_pure0 ?_ ?_); (next => repeat' first | exact rvs_n | refine rvs_t ?_ | (simp [go_sem]; done)); simp only [go_sem]; (first | exact VLe.refl _ | refine VLe_int ?_ | refine VLe_bool ?_ | refine VLe_str ?_ | skip))
      | (with_reducible refine And.intro ?_ ?_)
      | with_reducible intro _
    all_goals first
      | omega
      | (rename_i hx; revert hx; simp; done)
      | (simp; done)
      | skip
    refine range_iter (xs := clusX s) hit (by intro a ha; simp [clusX] at ha; obtain ⟨_, _, _, rfl⟩ := ha; rfl)
      (S := fun i hh => hh = h ++ [.mem 1 27 [.int .i64 0]] ∧ ((clus s).take i).any badHead = false)
      (E := fun e hh => e = .ret ∧ hh = h ++ [.mem 1 27 [.int .i64 11]] ∧ (clus s).any badHead = true) ?_ ?_ ?_ ?_ ?_ ?_ ?_
    · rintro i hh ⟨rfl, _⟩
      exact LowI.refl _
    · rintro e hh ⟨_, rfl, _⟩
      refine LowI.app rfl (fun o ho => ?_)
      simp only [List.mem_cons, List.not_mem_nil, or_false] at ho
      subst ho
      right; constructor <;> (intro c hc; simp at hc; subst hc; rfl)
    · exact ⟨rfl, by simp⟩
    · simp [lowV, lowV.lowVs, clusF]
      try omega
    · rintro i hh tl L hi ⟨rfl, hno⟩ hlen
      obtain ⟨n, hx⟩ := clusX_get s hi
      rw [clusX_len] at hi
      rw [hx]
      have hnx := any_take_succ (p := badHead) hi
      rw [hno, Bool.false_or] at hnx
      have hat := any_at (p := badHead) hi
      obtain ⟨c, hc⟩ : ∃ c, c = (clus s).getD i [] := ⟨_, rfl⟩
      have hcl := clus_at hi
      rw [← hc] at hcl hnx hat ⊢
      simp only [setsA]
      simp (disch := omega) only [List.append_assoc, eq_self, ch_eq, go_sem, wrap64_id, Int.tdiv_eq_ediv_of_nonneg, Int.tmod_eq_emod_of_nonneg]
      repeat' first
        | ((first | refine callA_pure (t103b _ _) ?_ ?_); (next => repeat' first | exact flags_n | refine flags_c (by first | rfl | assumption) ?_); simp (disch := omega) only [List.append_assoc, eq_self, ch_eq, go_sem, wrap64_id, Int.tdiv_eq_ediv_of_nonneg, Int.tmod_eq_emod_of_nonneg])
        | ((first | refine callG_pure (fun e => ⟨?_, t103b _ _⟩) ?_); (next => repeat' first | exact flags_n | refine flags_c (by first | rfl | assumption) ?_); simp (disch := omega) only [List.append_assoc, eq_self, ch_eq, go_sem, wrap64_id, Int.tdiv_eq_ediv_of_nonneg, Int.tmod_eq_emod_of_nonneg])
        | ((first | refine fnQ_pure1 ?_ ?_ | refine fnQ_pure0 ?_ ?_); (next => repeat' first | exact rvs_n | refine rvs_t ?_ | (simp [go_sem]; done)); simp only [go_sem]; (first | exact VLe.refl _ | refine VLe_int ?_ | refine VLe_bool ?_ | refine VLe_str ?_ | skip))
        | (with_reducible refine And.intro ?_ ?_)
        | with_reducible intro _
      all_goals first
        | omega
        | (rename_i hx; revert hx; simp; done)
        | (simp; done)
        | skip
      · rename_i hx
        exact ⟨h ++ [.mem 1 27 [.int .i64 11]], by simp, by simp, by simp, hat (by unfold badHead; simpa using hx)⟩
      · rename_i hx
        exact ⟨h ++ [.mem 1 27 [.int .i64 0]], by simp, by simp, by simp, by rw [hnx]; unfold badHead; simpa using hx⟩
    · rintro hh ⟨rfl, hno⟩
      rw [clusX_len, List.take_length] at hno
      rw [hno]
      simp (disch := omega) only [go_sem, wrap64_id, Int.tdiv_eq_ediv_of_nonneg, Int.tmod_eq_emod_of_nonneg]
      repeat' first
        | ((first | refine fnQ_pure1 ?_ ?_ | refine fnQ_pure0 ?_ ?_); (next => repeat' first | exact rvs_n | refine rvs_t ?_ | (simp [go_sem]; done)); simp only [go_sem]; (first | exact VLe.refl _ | refine VLe_int ?_ | refine VLe_bool ?_ | refine VLe_str ?_ | skip))
        | (with_reducible refine And.intro ?_ ?_)
        | with_reducible intro _
      all_goals first
        | omega
        | (rename_i hx; revert hx; simp; done)
        | (simp; done)
        | skip
      all_goals trace_state
    · rintro e hh ⟨rfl, rfl, hb⟩
      rw [hb]
      show Ex.inBlock 0 _ .ret _ _
      simp (disch := omega) only [go_sem, wrap64_id, Int.tdiv_eq_ediv_of_nonneg, Int.tmod_eq_emod_of_nonneg]
      repeat' first
        | ((first | refine fnQ_pure1 ?_ ?_ | refine fnQ_pure0 ?_ ?_); (next => repeat' first | exact rvs_n | refine rvs_t ?_ | (simp [go_sem]; done)); simp only [go_sem]; (first | exact VLe.refl _ | refine VLe_int ?_ | refine VLe_bool ?_ | refine VLe_str ?_ | skip))
        | (with_reducible refine And.intro ?_ ?_)
        | with_reducible intro _
      all_goals first
        | omega
        | (rename_i hx; revert hx; simp; done)
        | (simp; done)
        | skip
      all_goals trace_state
end HY
end

section
set_option linter.all false
set_option linter.unusedSimpArgs false
set_option linter.unusedVariables false
set_option linter.unusedSectionVars false
open Go Go.Proofs AF HY
namespace HY
set_option maxRecDepth 100000
theorem t111 (c : UInt8) (h : List AObj) : ACalls Tryd.prog 72 [.int .u8 (c.toNat : Int)] h (.bool (spc c)) h := by
  refine acalls_of fn72d (by simp) ?_
  simp only [List.length_cons, List.length_nil, Nat.reduceAdd, Nat.reduceSub, List.replicate, List.cons_append, List.nil_append, List.append_nil]
  simp (disch := omega) only [c72d, go_sem, wrap64_id, Int.tdiv_eq_ediv_of_nonneg, Int.tmod_eq_emod_of_nonneg]
  repeat' first
    | ((first | refine callA_pure (t103b c _) ?_ ?_); (next => repeat' first | exact flags_n | refine flags_c (by first | rfl | assumption) ?_); simp (disch := omega) only [go_sem, wrap64_id, Int.tdiv_eq_ediv_of_nonneg, Int.tmod_eq_emod_of_nonneg])
    | ((first | refine callG_pure (fun e => ⟨?_, t103b c _⟩) ?_); (next => repeat' first | exact flags_n | refine flags_c (by first | rfl | assumption) ?_); simp (disch := omega) only [go_sem, wrap64_id, Int.tdiv_eq_ediv_of_nonneg, Int.tmod_eq_emod_of_nonneg])
    | ((first | refine fnQ_pure1 ?_ ?_ | refine fnQ_pure0 ?_ ?_); (next => repeat' first | exact rvs_n | refine rvs_t ?_ | (simp [go_sem]; done)); simp only [go_sem]; (first | exact VLe.refl _ | refine VLe_int ?_ | refine VLe_bool ?_ | refine VLe_str ?_ | skip))
    | (with_reducible refine And.intro ?_ ?_)
    | with_reducible intro _
  all_goals first
    | omega
    | (rename_i hx; revert hx; simp; done)
    | (simp; done)
    | skip
def bytesV (s : List UInt8) : AV := .sl s.length fun i => [.int .u8 ((s.getD i 0).toNat : Int)]
def findI (p : UInt8 → Bool) : List UInt8 → Nat → Int
  | [], _ => -1
  | c :: r, i => if p c = true then i else findI p r (i + 1)
theorem findI_iff (p : UInt8 → Bool) : ∀ (s : List UInt8) (i : Nat), (0 ≤ findI p s i ↔ s.any p = true) ∧ -1 ≤ findI p s i := by
  intro s
  induction s with
  | nil => intro i; simp [findI]
  | cons c r ih =>
    intro i
    by_cases hc : p c = true
    · have e : findI p (c :: r) i = i := if_pos hc
      rw [e, List.any_cons, hc]
      simp
      try omega
    · have e : findI p (c :: r) i = findI p r (i + 1) := if_neg hc
      rw [e, List.any_cons]
      have hc' : p c = false := by simpa using hc
      rw [hc', Bool.false_or]
      exact ih (i + 1)
theorem findI_any (p : UInt8 → Bool) (s : List UInt8) (i : Nat) : decide (0 ≤ findI p s i) = s.any p := by
  rw [Bool.eq_iff_iff, decide_eq_true_eq]; exact (findI_iff p s i).1
theorem t130 (s : List UInt8) (p : UInt8 → Bool) (F : Nat) (h : List AObj) (hs : s.length ≤ 1000000000) (hp : ∀ (c : UInt8) (h : List AObj), ACalls Tryd.prog F [.int .u8 (c.toNat : Int)] h (.bool (p c)) h) : ACalls Tryd.prog 94 [bytesV s, .fn (.func F) [] []] h (.int .i64 (findI p s 0)) h := by
  refine acalls_of fn94d (by simp) ?_
  simp only [List.length_cons, List.length_nil, Nat.reduceAdd, Nat.reduceSub, List.replicate, List.cons_append, List.nil_append, List.append_nil]
  simp (disch := omega) only [c94d, bytesV, go_sem, wrap64_id, Int.tdiv_eq_ediv_of_nonneg, Int.tmod_eq_emod_of_nonneg]
  repeat' first
    | ((first | refine fnQ_pure1 ?_ ?_ | refine fnQ_pure0 ?_ ?_); (next => repeat' first | exact rvs_n | refine rvs_t ?_ | (simp [go_sem]; done)); simp only [go_sem]; (first | exact VLe.refl _ | refine VLe_int ?_ | refine VLe_bool ?_ | refine VLe_str ?_ | skip))
    | (with_reducible refine And.intro ?_ ?_)
    | with_reducible intro _
  all_goals first
    | omega
    | (rename_i hx; revert hx; simp; done)
    | (simp; done)
    | skip
  refine loop_of (T := fun i : Nat => spar 19 [(0, bytesV s), (1, .fn (.func F) [] []), (6, bytesV s), (7, .int .i64 s.length), (8, .int .i64 i)]) (H := fun _ => h) (inv := fun i => i ≤ s.length ∧ findI p s 0 = findI p (s.drop i) i) (m := fun i => s.length - i) 0 ⟨by omega, by simp⟩ (Wk.temps ?_) ?_
  · (simp only [bytesV, spar, List.foldl, List.replicate, go_sem, VLes_nil, VLes_cons, VLe_undef_iff, VLe_self]; try (repeat' first | (with_reducible refine And.intro ?_ ?_) | (refine VLe_int ?_; omega) | (refine VLe_bool ?_; rfl) | exact VLe.refl _))
  · rintro i ⟨i1, i2⟩ K hK
    rw [i2]
    by_cases hi : i < s.length
    · have e : s.drop i = s.getD i 0 :: s.drop (i + 1) := by rw [List.drop_eq_getElem_cons hi]; simp [List.getD_eq_getElem?_getD, hi]
      rw [e] at i2 ⊢
      simp only [findI] at i2 ⊢
      have hpc := fun h => hp (s.getD i 0) h
      cases hb : p (s.getD i 0) with
      | true =>
        rw [hb] at hpc
        simp (disch := omega) only [spar, List.foldl, List.replicate, bytesV, go_sem, wrap64_id, Int.tdiv_eq_ediv_of_nonneg, Int.tmod_eq_emod_of_nonneg]
        repeat' first
          | (refine callV_pure (hpc _) ?_; simp (disch := omega) only [bytesV, go_sem, wrap64_id, Int.tdiv_eq_ediv_of_nonneg, Int.tmod_eq_emod_of_nonneg])
          | ((first | refine fnQ_pure1 ?_ ?_ | refine fnQ_pure0 ?_ ?_); (next => repeat' first | exact rvs_n | refine rvs_t ?_ | (simp [go_sem]; done)); simp only [go_sem]; (first | exact VLe.refl _ | refine VLe_int ?_ | refine VLe_bool ?_ | refine VLe_str ?_ | skip))
          | (with_reducible refine And.intro ?_ ?_)
          | with_reducible intro _
        all_goals first
          | omega
          | (rename_i hx; revert hx; simp; done)
          | (simp; done)
          | skip
      | false =>
        rw [hb] at hpc i2
        simp (disch := omega) only [spar, List.foldl, List.replicate, bytesV, go_sem, wrap64_id, Int.tdiv_eq_ediv_of_nonneg, Int.tmod_eq_emod_of_nonneg]
        repeat' first
          | (refine callV_pure (hpc _) ?_; simp (disch := omega) only [bytesV, go_sem, wrap64_id, Int.tdiv_eq_ediv_of_nonneg, Int.tmod_eq_emod_of_nonneg])
          | ((first | refine fnQ_pure1 ?_ ?_ | refine fnQ_pure0 ?_ ?_); (next => repeat' first | exact rvs_n | refine rvs_t ?_ | (simp [go_sem]; done)); simp only [go_sem]; (first | exact VLe.refl _ | refine VLe_int ?_ | refine VLe_bool ?_ | refine VLe_str ?_ | skip))
          | (with_reducible refine And.intro ?_ ?_)
          | with_reducible intro _
        all_goals first
          | omega
          | (rename_i hx; revert hx; simp; done)
          | (simp; done)
          | skip
        refine hK _ _ (i + 1) ⟨by omega, by rw [i2]; simp⟩ (by omega) (Wk.temps ?_)
        (simp only [bytesV, spar, List.foldl, List.replicate, go_sem, VLes_nil, VLes_cons, VLe_undef_iff, VLe_self]; try (repeat' first | (with_reducible refine And.intro ?_ ?_) | (refine VLe_int ?_; omega) | (refine VLe_bool ?_; rfl) | exact VLe.refl _))
    · have e : i = s.length := by omega
      subst e
      rw [List.drop_length]
      simp (disch := omega) only [spar, List.foldl, List.replicate, bytesV, go_sem, wrap64_id, Int.tdiv_eq_ediv_of_nonneg, Int.tmod_eq_emod_of_nonneg]
      repeat' first
        | ((first | refine fnQ_pure1 ?_ ?_ | refine fnQ_pure0 ?_ ?_); (next => repeat' first | exact rvs_n | refine rvs_t ?_ | (simp [go_sem]; done)); simp only [go_sem]; (first | exact VLe.refl _ | refine VLe_int ?_ | refine VLe_bool ?_ | refine VLe_str ?_ | skip))
        | (with_reducible refine And.intro ?_ ?_)
        | with_reducible intro _
      all_goals first
        | omega
        | (rename_i hx; revert hx; simp; done)
        | (simp; done)
        | skip
theorem t110 (s : List UInt8) (p : UInt8 → Bool) (F : Nat) (h : List AObj) (hs : s.length ≤ 1000000000) (hp : ∀ (c : UInt8) (h : List AObj), ACalls Tryd.prog F [.int .u8 (c.toNat : Int)] h (.bool (p c)) h) : ACalls Tryd.prog 66 [bytesV s, .fn (.func F) [] []] h (.bool (s.any p)) h := by
  rw [← findI_any p s 0]
  refine acalls_of fn66d (by simp) ?_
  simp only [List.length_cons, List.length_nil, Nat.reduceAdd, Nat.reduceSub, List.replicate, List.cons_append, List.nil_append, List.append_nil]
  simp (disch := omega) only [c66d, bytesV, go_sem, wrap64_id, Int.tdiv_eq_ediv_of_nonneg, Int.tmod_eq_emod_of_nonneg]
  repeat' first
    | ((first | refine callA_pure (t130 s p F _ hs hp) ?_ ?_); (next => repeat' first | exact flags_n | refine flags_c (by first | rfl | assumption) ?_); simp (disch := omega) only [bytesV, go_sem, wrap64_id, Int.tdiv_eq_ediv_of_nonneg, Int.tmod_eq_emod_of_nonneg])
    | ((first | refine callG_pure (fun e => ⟨?_, t130 s p F _ hs hp⟩) ?_); (next => repeat' first | exact flags_n | refine flags_c (by first | rfl | assumption) ?_); simp (disch := omega) only [bytesV, go_sem, wrap64_id, Int.tdiv_eq_ediv_of_nonneg, Int.tmod_eq_emod_of_nonneg])
    | ((first | refine fnQ_pure1 ?_ ?_ | refine fnQ_pure0 ?_ ?_); (next => repeat' first | exact rvs_n | refine rvs_t ?_ | (simp [go_sem]; done)); simp only [go_sem]; (first | exact VLe.refl _ | refine VLe_int ?_ | refine VLe_bool ?_ | refine VLe_str ?_ | skip))
    | (with_reducible refine And.intro ?_ ?_)
    | with_reducible intro _
  all_goals first
    | omega
    | (rename_i hx; revert hx; simp; done)
    | (simp; done)
    | skip
theorem t88 (s : List UInt8) (h : List AObj) (hs : s.length ≤ 1000000000) : ACalls Tryd.prog 38 [.str s] h (.bool (isWord s)) h := by
  obtain ⟨c, hc⟩ : ∃ c, c = checkC s := ⟨_, rfl⟩
  have h104 : ∀ h : List AObj, ACalls Tryd.prog 70 [.str s] h (.int .i64 c) h := fun h => by rw [hc]; exact t104 s h hs
  have hw : isWord s = (decide (0 < s.length) && decide (s.length ≤ 64) && decide (c = 0) && (decide (kind (ch s 0) = 1) || decide (kind (ch s 0) = 3)) && !(s.any spc)) := by rw [hc]; rfl
  rw [hw]
  by_cases g1 : 0 < s.length
  · have k1 : (s = []) = False := eq_false (by intro e; rw [e] at g1; simp at g1)
    by_cases g2 : s.length ≤ 64
    · have k2 : (64 < (s.length : Int)) = False := eq_false (by omega)
      by_cases g3 : c = 0
      · refine acalls_of fn38d (by simp) ?_
        simp only [List.length_cons, List.length_nil, Nat.reduceAdd, Nat.reduceSub, List.replicate, List.cons_append, List.nil_append, List.append_nil]
        simp (disch := omega) only [c38d, k1, k2, g3, go_sem, wrap64_id, Int.tdiv_eq_ediv_of_nonneg, Int.tmod_eq_emod_of_nonneg]
        repeat' first
          | ((first | refine callA_pure (h104 _) ?_ ?_ | refine callA_pure (t103b _ _) ?_ ?_ | refine callA_pure (t110 s spc 72 _ hs t111) ?_ ?_); (next => repeat' first | exact flags_n | refine flags_c (by first | rfl | assumption) ?_); simp (disch := omega) only [k1, k2, g3, ch_eq, go_sem, wrap64_id, Int.tdiv_eq_ediv_of_nonneg, Int.tmod_eq_emod_of_nonneg])
          | ((first | refine callG_pure (fun e => ⟨?_, h104 _⟩) ?_ | refine callG_pure (fun e => ⟨?_, t103b _ _⟩) ?_ | refine callG_pure (fun e => ⟨?_, t110 s spc 72 _ hs t111⟩) ?_); (next => repeat' first | exact flags_n | refine flags_c (by first | rfl | assumption) ?_); simp (disch := omega) only [k1, k2, g3, ch_eq, go_sem, wrap64_id, Int.tdiv_eq_ediv_of_nonneg, Int.tmod_eq_emod_of_nonneg])
          | ((first | refine fnQ_pure1 ?_ ?_ | refine fnQ_pure0 ?_ ?_); (next => repeat' first | exact rvs_n | refine rvs_t ?_ | (simp [go_sem]; done)); simp only [go_sem]; (first | exact VLe.refl _ | refine VLe_int ?_ | refine VLe_bool ?_ | refine VLe_str ?_ | skip))
          | (with_reducible refine And.intro ?_ ?_)
          | with_reducible intro _
        all_goals first
          | omega
          | (rename_i hx; revert hx; simp; done)
          | (simp; done)
          | skip
        all_goals (generalize s.any spc = b; grind)
      · refine acalls_of fn38d (by simp) ?_
        simp only [List.length_cons, List.length_nil, Nat.reduceAdd, Nat.reduceSub, List.replicate, List.cons_append, List.nil_append, List.append_nil]
        simp (disch := omega) only [c38d, k1, k2, go_sem, wrap64_id, Int.tdiv_eq_ediv_of_nonneg, Int.tmod_eq_emod_of_nonneg]
        repeat' first
          | ((first | refine callA_pure (h104 _) ?_ ?_ | refine callA_pure (t103b _ _) ?_ ?_); (next => repeat' first | exact flags_n | refine flags_c (by first | rfl | assumption) ?_); simp (disch := omega) only [k1, k2, g3, ch_eq, go_sem, wrap64_id, Int.tdiv_eq_ediv_of_nonneg, Int.tmod_eq_emod_of_nonneg])
          | ((first | refine callG_pure (fun e => ⟨?_, h104 _⟩) ?_ | refine callG_pure (fun e => ⟨?_, t103b _ _⟩) ?_); (next => repeat' first | exact flags_n | refine flags_c (by first | rfl | assumption) ?_); simp (disch := omega) only [k1, k2, g3, ch_eq, go_sem, wrap64_id, Int.tdiv_eq_ediv_of_nonneg, Int.tmod_eq_emod_of_nonneg])
          | ((first | refine fnQ_pure1 ?_ ?_ | refine fnQ_pure0 ?_ ?_); (next => repeat' first | exact rvs_n | refine rvs_t ?_ | (simp [go_sem]; done)); simp only [go_sem]; (first | exact VLe.refl _ | refine VLe_int ?_ | refine VLe_bool ?_ | refine VLe_str ?_ | skip))
          | (with_reducible refine And.intro ?_ ?_)
          | with_reducible intro _
        all_goals first
          | omega
          | (rename_i hx; revert hx; simp; done)
          | (simp; done)
          | skip
        all_goals (generalize s.any spc = b; grind)
    · have k2 : (64 < (s.length : Int)) = True := eq_true (by omega)
      refine acalls_of fn38d (by simp) ?_
      simp only [List.length_cons, List.length_nil, Nat.reduceAdd, Nat.reduceSub, List.replicate, List.cons_append, List.nil_append, List.append_nil]
      simp (disch := omega) only [c38d, k1, k2, go_sem, wrap64_id, Int.tdiv_eq_ediv_of_nonneg, Int.tmod_eq_emod_of_nonneg]
      repeat' first
        | (refine callG_false ((.int .i64 0)) ?_; simp (disch := omega) only [k1, k2, go_sem, wrap64_id, Int.tdiv_eq_ediv_of_nonneg, Int.tmod_eq_emod_of_nonneg])
        | ((first | refine fnQ_pure1 ?_ ?_ | refine fnQ_pure0 ?_ ?_); (next => repeat' first | exact rvs_n | refine rvs_t ?_ | (simp [go_sem]; done)); simp only [go_sem]; (first | exact VLe.refl _ | refine VLe_int ?_ | refine VLe_bool ?_ | refine VLe_str ?_ | skip))
        | (with_reducible refine And.intro ?_ ?_)
        | with_reducible intro _
      all_goals first
        | omega
        | (rename_i hx; revert hx; simp; done)
        | (simp; done)
        | skip
      all_goals (generalize s.any spc = b; grind)
  · have e : s = [] := List.eq_nil_of_length_eq_zero (by omega)
    subst e
    refine acalls_of fn38d (by simp) ?_
    simp only [List.length_cons, List.length_nil, Nat.reduceAdd, Nat.reduceSub, List.replicate, List.cons_append, List.nil_append, List.append_nil]
    simp (disch := omega) only [c38d, go_sem, wrap64_id, Int.tdiv_eq_ediv_of_nonneg, Int.tmod_eq_emod_of_nonneg]
    repeat' first
      | (refine callG_false ((.int .i64 0)) ?_; simp (disch := omega) only [go_sem, wrap64_id, Int.tdiv_eq_ediv_of_nonneg, Int.tmod_eq_emod_of_nonneg])
      | ((first | refine fnQ_pure1 ?_ ?_ | refine fnQ_pure0 ?_ ?_); (next => repeat' first | exact rvs_n | refine rvs_t ?_ | (simp [go_sem]; done)); simp only [go_sem]; (first | exact VLe.refl _ | refine VLe_int ?_ | refine VLe_bool ?_ | refine VLe_str ?_ | skip))
      | (with_reducible refine And.intro ?_ ?_)
      | with_reducible intro _
    all_goals first
      | omega
      | (rename_i hx; revert hx; simp; done)
      | (simp; done)
      | skip
    all_goals (generalize List.any _ spc = b; grind)
end HY
end

section
set_option linter.all false
set_option linter.unusedSimpArgs false
set_option linter.unusedVariables false
set_option linter.unusedSectionVars false
open Go Go.Proofs AF HY
namespace HY
set_option maxRecDepth 100000
theorem wrap8_id {n : Int} (h0 : 0 ≤ n) (h1 : n ≤ 255) : IntKind.u8.wrap n = n := by
  have e1 : (2 : Int) ^ IntKind.bits IntKind.u8 = 256 := rfl
  have e3 : IntKind.signed IntKind.u8 = false := rfl
  unfold IntKind.wrap
  rw [e1, e3]
  simp only [Bool.false_and, Bool.false_eq_true, if_false]
  omega
theorem foldB_nat (c : UInt8) : ((foldB c).toNat : Int) = if 65 ≤ (c.toNat : Int) ∧ (c.toNat : Int) ≤ 90 then (c.toNat : Int) + 32 else (c.toNat : Int) := by
  have hc := c.toNat_lt
  unfold foldB
  have e1 : (65 ≤ c) = (65 ≤ c.toNat) := by rw [UInt8.le_iff_toNat_le]; rfl
  have e2 : (c ≤ 90) = (c.toNat ≤ 90) := by rw [UInt8.le_iff_toNat_le]; rfl
  simp only [e1, e2]
  by_cases h : 65 ≤ c.toNat ∧ c.toNat ≤ 90
  · rw [if_pos h, if_pos (by omega), UInt8.toNat_add]
    have : (32 : UInt8).toNat = 32 := rfl
    rw [this]; omega
  · rw [if_neg h, if_neg (by omega)]
def fcur (s : List UInt8) (i : Nat) : List UInt8 := (fold s).take i ++ s.drop i
theorem fcur_len (s : List UInt8) (i : Nat) (h : i ≤ s.length) : (fcur s i).length = s.length := by simp [fcur, fold]; omega
theorem fcur_get {s : List UInt8} {i : Nat} (h : i < s.length) : (bytesA (fcur s i))[i]? = some (.int .u8 ((ch s i).toNat : Int)) := by
  simp only [bytesA, fcur, List.getElem?_map]
  rw [List.getElem?_append_right (by simp [fold]; omega)]
  simp [fold, ch, List.getD_eq_getElem?_getD, Nat.min_eq_left (Nat.le_of_lt h), h]
theorem fcur_set {s : List UInt8} {i : Nat} (h : i < s.length) : List.take i (bytesA (fcur s i)) ++ [.int .u8 ((foldB (ch s i)).toNat : Int)] ++ List.drop (i + 1) (bytesA (fcur s i)) = bytesA (fcur s (i + 1)) := by
  simp only [bytesA, fcur, List.map_append, List.map_take, List.map_drop]
  have hl : (List.take i (List.map (fun b => AV.int .u8 ((b.toNat : Nat) : Int)) (fold s))).length = i := by simp [fold]; omega
  rw [List.take_append_of_le_length (by omega), List.take_of_length_le (by omega)]
  rw [show i + 1 = (List.take i (List.map (fun b => AV.int .u8 ((b.toNat : Nat) : Int)) (fold s))).length + 1 by omega]
  rw [List.drop_append, Nat.add_sub_cancel_left, List.drop_of_length_le (by omega), hl, List.nil_append, List.drop_drop]
  rw [List.take_add_one]
  congr 1
  congr 1
  simp [fold, ch, List.getD_eq_getElem?_getD, h]
theorem fcur_skip {s : List UInt8} {i : Nat} (h : i < s.length) (hb : foldB (ch s i) = ch s i) : fcur s (i + 1) = fcur s i := by
  unfold fcur
  rw [List.take_add_one, List.drop_eq_getElem_cons h]
  have : (fold s)[i]?.toList = [s[i]] := by
    have e : ch s i = s[i] := by simp [ch, h]
    rw [e] at hb
    simp [fold, h, hb]
  rw [this]; simp
theorem fcur_end (s : List UInt8) : fcur s s.length = fold s := by
  unfold fcur fold
  rw [List.drop_length, List.append_nil, List.take_of_length_le (by simp)]
theorem t141 (s : List UInt8) (h : List AObj) (hs : s.length ≤ 1000000000) : ACalls Tryd.prog 18 [.str s] h (.str (fold s)) h := by
  have h0 : bytesA s = bytesA (fcur s 0) := by simp [fcur]
  refine acalls_of fn18d (by simp) ?_
  simp only [List.length_cons, List.length_nil, Nat.reduceAdd, Nat.reduceSub, List.replicate, List.cons_append, List.nil_append, List.append_nil]
  simp (disch := omega) only [c18d, h0, go_sem, wrap64_id, Int.tdiv_eq_ediv_of_nonneg, Int.tmod_eq_emod_of_nonneg]
  repeat' first
    | ((first | refine fnQ_pure1 ?_ ?_ | refine fnQ_pure0 ?_ ?_); (next => repeat' first | exact rvs_n | refine rvs_t ?_ | (simp [go_sem]; done)); simp only [go_sem]; (first | exact VLe.refl _ | refine VLe_int ?_ | refine VLe_bool ?_ | refine VLe_str ?_ | skip))
    | (with_reducible refine And.intro ?_ ?_)
    | with_reducible intro _
  all_goals first
    | omega
    | (rename_i hx; revert hx; simp; done)
    | (simp; done)
    | skip
  refine loop_of (T := fun i : Nat => spar 30 [(3, .osl h.length 1 1 0 s.length), (8, .osl h.length 1 1 0 s.length), (9, .int .i64 s.length), (10, .int .i64 i)]) (H := fun i => h ++ [.mem 1 (5 + markTy) (bytesA (fcur s i))]) (inv := fun i => i ≤ s.length) (m := fun i => s.length - i) 0 (by omega) (Wk.temps ?_) ?_
  · (simp only [spar, List.foldl, List.replicate, go_sem, VLes_nil, VLes_cons, VLe_undef_iff, VLe_self]; try (repeat' first | (with_reducible refine And.intro ?_ ?_) | (refine VLe_int ?_; omega) | (refine VLe_bool ?_; rfl) | exact VLe.refl _))
  · intro i i1 K hK
    have hlen : (bytesA (fcur s i)).length = s.length := by rw [bytesA_len, fcur_len s i i1]
    by_cases hi : i < s.length
    · have hg := fcur_get hi
      have hst := fcur_set hi
      have hb := foldB_nat (ch s i)
      have hr := u8_range (ch s i)
      obtain ⟨c, hc⟩ : ∃ c : Int, c = ((ch s i).toNat : Int) := ⟨_, rfl⟩
      rw [← hc] at hg hb hr
      by_cases hu : 65 ≤ c ∧ c ≤ 90
      · rw [if_pos hu] at hb
        rw [hb] at hst
        have he : c - 65 + 97 = c + 32 := by omega
        simp (disch := omega) only [spar, List.foldl, List.replicate, hg, hlen, wrap8_id, he, go_sem, wrap64_id, Int.tdiv_eq_ediv_of_nonneg, Int.tmod_eq_emod_of_nonneg]
        repeat' first
          | ((first | refine fnQ_pure1 ?_ ?_ | refine fnQ_pure0 ?_ ?_); (next => repeat' first | exact rvs_n | refine rvs_t ?_ | (simp [go_sem]; done)); simp only [go_sem]; (first | exact VLe.refl _ | refine VLe_int ?_ | refine VLe_bool ?_ | refine VLe_str ?_ | skip))
          | (with_reducible refine And.intro ?_ ?_)
          | with_reducible intro _
        all_goals first
          | omega
          | (rename_i hx; revert hx; simp; done)
          | (simp; done)
          | skip
        rw [hst]
        refine hK _ _ (i + 1) (by omega) (by omega) (Wk.temps ?_)
        (simp only [spar, List.foldl, List.replicate, go_sem, VLes_nil, VLes_cons, VLe_undef_iff, VLe_self]; try (repeat' first | (with_reducible refine And.intro ?_ ?_) | (refine VLe_int ?_; omega) | (refine VLe_bool ?_; rfl) | exact VLe.refl _))
      · rw [if_neg hu] at hb
        have hsk := fcur_skip hi (by rw [← UInt8.toNat_inj]; omega)
        simp (disch := omega) only [spar, List.foldl, List.replicate, hg, hlen, go_sem, wrap64_id, Int.tdiv_eq_ediv_of_nonneg, Int.tmod_eq_emod_of_nonneg]
        repeat' first
          | ((first | refine fnQ_pure1 ?_ ?_ | refine fnQ_pure0 ?_ ?_); (next => repeat' first | exact rvs_n | refine rvs_t ?_ | (simp [go_sem]; done)); simp only [go_sem]; (first | exact VLe.refl _ | refine VLe_int ?_ | refine VLe_bool ?_ | refine VLe_str ?_ | skip))
          | (with_reducible refine And.intro ?_ ?_)
          | with_reducible intro _
        all_goals first
          | omega
          | (rename_i hx; revert hx; simp; done)
          | (simp; done)
          | skip
        refine hK _ _ (i + 1) (by omega) (by omega) ?_
        rw [hsk]
        refine Wk.temps ?_
        (simp only [spar, List.foldl, List.replicate, go_sem, VLes_nil, VLes_cons, VLe_undef_iff, VLe_self]; try (repeat' first | (with_reducible refine And.intro ?_ ?_) | (refine VLe_int ?_; omega) | (refine VLe_bool ?_; rfl) | exact VLe.refl _))
    · have e : i = s.length := by omega
      subst e
      rw [fcur_end] at hlen ⊢
      have hT : List.take s.length (bytesA (fold s)) = bytesA (fold s) := List.take_of_length_le (by omega)
      simp (disch := omega) only [spar, List.foldl, List.replicate, hlen, hT, byteOf_bytesA, go_sem, wrap64_id, Int.tdiv_eq_ediv_of_nonneg, Int.tmod_eq_emod_of_nonneg]
      repeat' first
        | ((first | refine fnQ_pure1 ?_ ?_ | refine fnQ_pure0 ?_ ?_); (next => repeat' first | exact rvs_n | refine rvs_t ?_ | (simp [go_sem]; done)); simp only [go_sem]; (first | exact VLe.refl _ | refine VLe_int ?_ | refine VLe_bool ?_ | refine VLe_str ?_ | skip))
        | (with_reducible refine And.intro ?_ ?_)
        | with_reducible intro _
      all_goals first
        | omega
        | (rename_i hx; revert hx; simp; done)
        | (simp; done)
        | skip
      all_goals
        rename_i c hc
        exact isByte_bytesA c hc

theorem bytesA_snoc (s : List UInt8) (c : UInt8) : bytesA (s ++ [c]) = bytesA s ++ [.int .u8 (c.toNat : Int)] := by simp [bytesA]
theorem t132 (s : List UInt8) (h : List AObj) (hs : s.length ≤ 1000000000) : ACalls Tryd.prog 65 [.str s] h (.str (fold s)) h := by
  refine acalls_of fn65d (by simp) ?_
  simp only [List.length_cons, List.length_nil, Nat.reduceAdd, Nat.reduceSub, List.replicate, List.cons_append, List.nil_append, List.append_nil]
  simp (disch := omega) only [c65d, madeA, go_sem, wrap64_id, Int.tdiv_eq_ediv_of_nonneg, Int.tmod_eq_emod_of_nonneg]
  repeat' first
    | ((first | refine fnQ_pure1 ?_ ?_ | refine fnQ_pure0 ?_ ?_); (next => repeat' first | exact rvs_n | refine rvs_t ?_ | (simp [go_sem]; done)); simp only [go_sem]; (first | exact VLe.refl _ | refine VLe_int ?_ | refine VLe_bool ?_ | refine VLe_str ?_ | skip))
    | (with_reducible refine And.intro ?_ ?_)
    | with_reducible intro _
  all_goals first
    | omega
    | (rename_i hx; revert hx; simp; done)
    | (simp; done)
    | skip
  refine loop_of (T := fun i : Nat × Nat × AObj => spar 31 [(0, .str s), (3, .osl h.length i.2.1 1 0 i.1), (4, .int .i64 i.1)]) (H := fun i => h ++ [.mem i.2.1 5 (bytesA ((fold s).take i.1)), i.2.2, .emp 0])
    (inv := fun i => i.1 ≤ s.length ∧ site [i.2.2] 0 = true) (m := fun i => s.length - i.1) (0, 1, .emp 0) ⟨by simp, rfl⟩ (Wk.temps ?_) ?_
  · (simp only [spar, List.foldl, List.replicate, go_sem, VLes_nil, VLes_cons, VLe_undef_iff, VLe_self]; try (repeat' first | (with_reducible refine And.intro ?_ ?_) | (refine VLe_int ?_; omega) | (refine VLe_bool ?_; rfl) | exact VLe.refl _))
  · rintro ⟨i, v, O⟩ ⟨i1, i2⟩ K hK
    simp only at i1 i2 hK
    have i2' : ∀ m, site (O :: m) 0 = true := fun _ => i2
    have hfl : (fold s).length = s.length := by simp [fold]
    have eL : (bytesA ((fold s).take i)).length = i := by rw [bytesA_len, List.length_take]; omega
    have eT : List.take i (bytesA ((fold s).take i)) = bytesA ((fold s).take i) := List.take_of_length_le (by omega)
    by_cases hi : i < s.length
    · have hb := foldB_nat (ch s i)
      have hr := u8_range (ch s i)
      have hnx : bytesA ((fold s).take (i + 1)) = bytesA ((fold s).take i) ++ [.int .u8 ((foldB (ch s i)).toNat : Int)] := by
        rw [List.take_add_one, ← bytesA_snoc]
        congr 2
        simp [fold, ch, List.getD_eq_getElem?_getD, hi]
      by_cases hu : 65 ≤ ((ch s i).toNat : Int) ∧ ((ch s i).toNat : Int) ≤ 90
      · rw [if_pos hu] at hb
        have he : ((ch s i).toNat : Int) + 97 - 65 = ((ch s i).toNat : Int) + 32 := by omega
        rw [hb] at hnx
        simp (disch := omega) only [spar, List.foldl, List.replicate, ch_eq, i2', eL, eT, madeA, wrap8_id, he, go_sem, wrap64_id, Int.tdiv_eq_ediv_of_nonneg, Int.tmod_eq_emod_of_nonneg]
        repeat' first
          | ((first | refine fnQ_pure1 ?_ ?_ | refine fnQ_pure0 ?_ ?_); (next => repeat' first | exact rvs_n | refine rvs_t ?_ | (simp [go_sem]; done)); simp only [go_sem]; (first | exact VLe.refl _ | refine VLe_int ?_ | refine VLe_bool ?_ | refine VLe_str ?_ | skip))
          | (with_reducible refine And.intro ?_ ?_)
          | with_reducible intro _
        all_goals first
          | omega
          | (rename_i hx; revert hx; simp; done)
          | (simp; done)
          | skip
        refine hK _ _ (i + 1, v + 1, .mem (verOf (some O) + 1) 5 [.int .u8 (((ch s i).toNat : Int) + 32)]) ⟨by simp only; omega, rfl⟩ (by simp only; omega) ?_
        simp only [hnx]
        refine Wk.temps ?_
        (simp only [spar, List.foldl, List.replicate, go_sem, VLes_nil, VLes_cons, VLe_undef_iff, VLe_self]; try (repeat' first | (with_reducible refine And.intro ?_ ?_) | (refine VLe_int ?_; omega) | (refine VLe_bool ?_; rfl) | exact VLe.refl _))
      · rw [if_neg hu] at hb
        rw [hb] at hnx
        simp (disch := omega) only [spar, List.foldl, List.replicate, ch_eq, i2', eL, eT, madeA, go_sem, wrap64_id, Int.tdiv_eq_ediv_of_nonneg, Int.tmod_eq_emod_of_nonneg]
        repeat' first
          | ((first | refine fnQ_pure1 ?_ ?_ | refine fnQ_pure0 ?_ ?_); (next => repeat' first | exact rvs_n | refine rvs_t ?_ | (simp [go_sem]; done)); simp only [go_sem]; (first | exact VLe.refl _ | refine VLe_int ?_ | refine VLe_bool ?_ | refine VLe_str ?_ | skip))
          | (with_reducible refine And.intro ?_ ?_)
          | with_reducible intro _
        all_goals first
          | omega
          | (rename_i hx; revert hx; simp; done)
          | (simp; done)
          | skip
        refine hK _ _ (i + 1, v + 1, .mem (verOf (some O) + 1) 5 [.int .u8 ((ch s i).toNat : Int)]) ⟨by simp only; omega, rfl⟩ (by simp only; omega) ?_
        simp only [hnx]
        refine Wk.temps ?_
        (simp only [spar, List.foldl, List.replicate, go_sem, VLes_nil, VLes_cons, VLe_undef_iff, VLe_self]; try (repeat' first | (with_reducible refine And.intro ?_ ?_) | (refine VLe_int ?_; omega) | (refine VLe_bool ?_; rfl) | exact VLe.refl _))
    · have e : i = s.length := by omega
      subst e
      rw [List.take_of_length_le (show (fold s).length ≤ s.length by omega)] at eL eT ⊢
      simp (disch := omega) only [spar, List.foldl, List.replicate, eL, eT, byteOf_bytesA, go_sem, wrap64_id, Int.tdiv_eq_ediv_of_nonneg, Int.tmod_eq_emod_of_nonneg]
      repeat' first
        | ((first | refine fnQ_pure1 ?_ ?_ | refine fnQ_pure0 ?_ ?_); (next => repeat' first | exact rvs_n | refine rvs_t ?_ | (simp [go_sem]; done)); simp only [go_sem]; (first | exact VLe.refl _ | refine VLe_int ?_ | refine VLe_bool ?_ | refine VLe_str ?_ | skip))
        | (with_reducible refine And.intro ?_ ?_)
        | with_reducible intro _
      all_goals first
        | omega
        | (rename_i hx; revert hx; simp; done)
        | (simp; done)
        | skip
      all_goals
        rename_i c hc
        exact isByte_bytesA c hc
end HY
end

section
set_option linter.all false
set_option linter.unusedSimpArgs false
set_option linter.unusedVariables false
set_option linter.unusedSectionVars false
open Go Go.Proofs AF HY
namespace HY
set_option maxRecDepth 100000
theorem t128 (s p : List UInt8) (h : List AObj) (hs : s.length ≤ 1000000000) (hp : p.length ≤ 1000000000) : ACalls Tryd.prog 106 [.str s, .str p] h (.bool (hasPre s p)) h := by
  unfold hasPre
  by_cases hl : p.length ≤ s.length
  · have k : ((p.length : Int) ≤ (s.length : Int)) = True := eq_true (by omega)
    refine acalls_of fn106d (by simp) ?_
    simp only [List.length_cons, List.length_nil, Nat.reduceAdd, Nat.reduceSub, List.replicate, List.cons_append, List.nil_append, List.append_nil]
    simp (disch := omega) only [c106d, k, go_sem, wrap64_id, Int.tdiv_eq_ediv_of_nonneg, Int.tmod_eq_emod_of_nonneg]
    repeat' first
      | ((first | refine fnQ_pure1 ?_ ?_ | refine fnQ_pure0 ?_ ?_); (next => repeat' first | exact rvs_n | refine rvs_t ?_ | (simp [go_sem]; done)); simp only [go_sem]; (first | exact VLe.refl _ | refine VLe_int ?_ | refine VLe_bool ?_ | refine VLe_str ?_ | skip))
      | (with_reducible refine And.intro ?_ ?_)
      | with_reducible intro _
    all_goals first
      | omega
      | (rename_i hx; revert hx; simp; done)
      | (simp; done)
      | skip
  · have k : ((p.length : Int) ≤ (s.length : Int)) = False := eq_false (by omega)
    have e : decide (s.take p.length = p) = false := by
      rw [decide_eq_false_iff_not]
      intro e
      have := congrArg List.length e
      rw [List.length_take] at this
      omega
    rw [e]
    refine acalls_of fn106d (by simp) ?_
    simp only [List.length_cons, List.length_nil, Nat.reduceAdd, Nat.reduceSub, List.replicate, List.cons_append, List.nil_append, List.append_nil]
    simp (disch := omega) only [c106d, k, go_sem, wrap64_id, Int.tdiv_eq_ediv_of_nonneg, Int.tmod_eq_emod_of_nonneg]
    repeat' first
      | ((first | refine fnQ_pure1 ?_ ?_ | refine fnQ_pure0 ?_ ?_); (next => repeat' first | exact rvs_n | refine rvs_t ?_ | (simp [go_sem]; done)); simp only [go_sem]; (first | exact VLe.refl _ | refine VLe_int ?_ | refine VLe_bool ?_ | refine VLe_str ?_ | skip))
      | (with_reducible refine And.intro ?_ ?_)
      | with_reducible intro _
    all_goals first
      | omega
      | (rename_i hx; revert hx; simp; done)
      | (simp; done)
      | skip
theorem t108 (s p : List UInt8) (h : List AObj) (hs : s.length ≤ 1000000000) (hp : p.length ≤ 1000000000) : ACalls Tryd.prog 88 [.str s, .str p] h (.bool (hasPre s p)) h := by
  refine acalls_of fn88d (by simp) ?_
  simp only [List.length_cons, List.length_nil, Nat.reduceAdd, Nat.reduceSub, List.replicate, List.cons_append, List.nil_append, List.append_nil]
  simp (disch := omega) only [c88d, go_sem, wrap64_id, Int.tdiv_eq_ediv_of_nonneg, Int.tmod_eq_emod_of_nonneg]
  repeat' first
    | ((first | refine callA_pure (t128 s p _ hs hp) ?_ ?_); (next => repeat' first | exact flags_n | refine flags_c (by first | rfl | assumption) ?_); simp (disch := omega) only [go_sem, wrap64_id, Int.tdiv_eq_ediv_of_nonneg, Int.tmod_eq_emod_of_nonneg])
    | ((first | refine callG_pure (fun e => ⟨?_, t128 s p _ hs hp⟩) ?_); (next => repeat' first | exact flags_n | refine flags_c (by first | rfl | assumption) ?_); simp (disch := omega) only [go_sem, wrap64_id, Int.tdiv_eq_ediv_of_nonneg, Int.tmod_eq_emod_of_nonneg])
    | ((first | refine fnQ_pure1 ?_ ?_ | refine fnQ_pure0 ?_ ?_); (next => repeat' first | exact rvs_n | refine rvs_t ?_ | (simp [go_sem]; done)); simp only [go_sem]; (first | exact VLe.refl _ | refine VLe_int ?_ | refine VLe_bool ?_ | refine VLe_str ?_ | skip))
    | (with_reducible refine And.intro ?_ ?_)
    | with_reducible intro _
  all_goals first
    | omega
    | (rename_i hx; revert hx; simp; done)
    | (simp; done)
    | skip
theorem t129 (s p : List UInt8) (h : List AObj) (hs : s.length ≤ 1000000000) (hp : p.length ≤ 1000000000) : ACalls Tryd.prog 107 [.str s, .str p] h (.bool (hasSuf s p)) h := by
  unfold hasSuf
  by_cases hl : p.length ≤ s.length
  · have k : ((p.length : Int) ≤ (s.length : Int)) = True := eq_true (by omega)
    have k2 : ((s.length : Int) - (p.length : Int)).toNat = s.length - p.length := by omega
    have k3 : List.take (s.length - (s.length - p.length)) (List.drop (s.length - p.length) s) = List.drop (s.length - p.length) s := List.take_of_length_le (by rw [List.length_drop]; omega)
    refine acalls_of fn107d (by simp) ?_
    simp only [List.length_cons, List.length_nil, Nat.reduceAdd, Nat.reduceSub, List.replicate, List.cons_append, List.nil_append, List.append_nil]
    simp (disch := omega) only [c107d, k, k2, k3, go_sem, wrap64_id, Int.tdiv_eq_ediv_of_nonneg, Int.tmod_eq_emod_of_nonneg]
    repeat' first
      | ((first | refine fnQ_pure1 ?_ ?_ | refine fnQ_pure0 ?_ ?_); (next => repeat' first | exact rvs_n | refine rvs_t ?_ | (simp [go_sem]; done)); simp only [go_sem]; (first | exact VLe.refl _ | refine VLe_int ?_ | refine VLe_bool ?_ | refine VLe_str ?_ | skip))
      | (with_reducible refine And.intro ?_ ?_)
      | with_reducible intro _
    all_goals first
      | omega
      | (rename_i hx; revert hx; simp; done)
      | (simp; done)
      | skip
  · have k : ((p.length : Int) ≤ (s.length : Int)) = False := eq_false (by omega)
    have e : decide (s.drop (s.length - p.length) = p) = false := by
      rw [decide_eq_false_iff_not]
      intro e
      have := congrArg List.length e
      rw [List.length_drop] at this
      omega
    rw [e]
    refine acalls_of fn107d (by simp) ?_
    simp only [List.length_cons, List.length_nil, Nat.reduceAdd, Nat.reduceSub, List.replicate, List.cons_append, List.nil_append, List.append_nil]
    simp (disch := omega) only [c107d, k, go_sem, wrap64_id, Int.tdiv_eq_ediv_of_nonneg, Int.tmod_eq_emod_of_nonneg]
    repeat' first
      | ((first | refine fnQ_pure1 ?_ ?_ | refine fnQ_pure0 ?_ ?_); (next => repeat' first | exact rvs_n | refine rvs_t ?_ | (simp [go_sem]; done)); simp only [go_sem]; (first | exact VLe.refl _ | refine VLe_int ?_ | refine VLe_bool ?_ | refine VLe_str ?_ | skip))
      | (with_reducible refine And.intro ?_ ?_)
      | with_reducible intro _
    all_goals first
      | omega
      | (rename_i hx; revert hx; simp; done)
      | (simp; done)
      | skip
theorem t109 (s p : List UInt8) (h : List AObj) (hs : s.length ≤ 1000000000) (hp : p.length ≤ 1000000000) : ACalls Tryd.prog 89 [.str s, .str p] h (.bool (hasSuf s p)) h := by
  refine acalls_of fn89d (by simp) ?_
  simp only [List.length_cons, List.length_nil, Nat.reduceAdd, Nat.reduceSub, List.replicate, List.cons_append, List.nil_append, List.append_nil]
  simp (disch := omega) only [c89d, go_sem, wrap64_id, Int.tdiv_eq_ediv_of_nonneg, Int.tmod_eq_emod_of_nonneg]
  repeat' first
    | ((first | refine callA_pure (t129 s p _ hs hp) ?_ ?_); (next => repeat' first | exact flags_n | refine flags_c (by first | rfl | assumption) ?_); simp (disch := omega) only [go_sem, wrap64_id, Int.tdiv_eq_ediv_of_nonneg, Int.tmod_eq_emod_of_nonneg])
    | ((first | refine callG_pure (fun e => ⟨?_, t129 s p _ hs hp⟩) ?_); (next => repeat' first | exact flags_n | refine flags_c (by first | rfl | assumption) ?_); simp (disch := omega) only [go_sem, wrap64_id, Int.tdiv_eq_ediv_of_nonneg, Int.tmod_eq_emod_of_nonneg])
    | ((first | refine fnQ_pure1 ?_ ?_ | refine fnQ_pure0 ?_ ?_); (next => repeat' first | exact rvs_n | refine rvs_t ?_ | (simp [go_sem]; done)); simp only [go_sem]; (first | exact VLe.refl _ | refine VLe_int ?_ | refine VLe_bool ?_ | refine VLe_str ?_ | skip))
    | (with_reducible refine And.intro ?_ ?_)
    | with_reducible intro _
  all_goals first
    | omega
    | (rename_i hx; revert hx; simp; done)
    | (simp; done)
    | skip
theorem hasPre_len {s p : List UInt8} (h : hasPre s p = true) : p.length ≤ s.length := by
  unfold hasPre at h
  have := congrArg List.length (of_decide_eq_true h)
  rw [List.length_take] at this
  omega
theorem hasSuf_len {s p : List UInt8} (h : hasSuf s p = true) : p.length ≤ s.length := by
  unfold hasSuf at h
  have := congrArg List.length (of_decide_eq_true h)
  rw [List.length_drop] at this
  omega
theorem t125 (s p : List UInt8) (h : List AObj) (hs : s.length ≤ 1000000000) (hp : p.length ≤ 1000000000) : ACalls Tryd.prog 104 [.str s, .str p] h (.str (trimPre s p)) h := by
  unfold trimPre
  cases hh : hasPre s p with
  | true =>
    have := hasPre_len hh
    have k3 : List.take (s.length - p.length) (List.drop p.length s) = List.drop p.length s := List.take_of_length_le (by rw [List.length_drop]; omega)
    refine acalls_of fn104d (by simp) ?_
    simp only [List.length_cons, List.length_nil, Nat.reduceAdd, Nat.reduceSub, List.replicate, List.cons_append, List.nil_append, List.append_nil]
    simp (disch := omega) only [c104d, k3, go_sem, wrap64_id, Int.tdiv_eq_ediv_of_nonneg, Int.tmod_eq_emod_of_nonneg]
    repeat' first
      | ((first | refine callA_pure (t128 s p _ hs hp) ?_ ?_); (next => repeat' first | exact flags_n | refine flags_c (by first | rfl | assumption) ?_); simp (disch := omega) only [hh, k3, go_sem, wrap64_id, Int.tdiv_eq_ediv_of_nonneg, Int.tmod_eq_emod_of_nonneg])
      | ((first | refine callG_pure (fun e => ⟨?_, t128 s p _ hs hp⟩) ?_); (next => repeat' first | exact flags_n | refine flags_c (by first | rfl | assumption) ?_); simp (disch := omega) only [hh, k3, go_sem, wrap64_id, Int.tdiv_eq_ediv_of_nonneg, Int.tmod_eq_emod_of_nonneg])
      | ((first | refine fnQ_pure1 ?_ ?_ | refine fnQ_pure0 ?_ ?_); (next => repeat' first | exact rvs_n | refine rvs_t ?_ | (simp [go_sem]; done)); simp only [go_sem]; (first | exact VLe.refl _ | refine VLe_int ?_ | refine VLe_bool ?_ | refine VLe_str ?_ | skip))
      | (with_reducible refine And.intro ?_ ?_)
      | with_reducible intro _
    all_goals first
      | omega
      | (rename_i hx; revert hx; simp; done)
      | (simp; done)
      | skip
  | false =>
    refine acalls_of fn104d (by simp) ?_
    simp only [List.length_cons, List.length_nil, Nat.reduceAdd, Nat.reduceSub, List.replicate, List.cons_append, List.nil_append, List.append_nil]
    simp (disch := omega) only [c104d, go_sem, wrap64_id, Int.tdiv_eq_ediv_of_nonneg, Int.tmod_eq_emod_of_nonneg]
    repeat' first
      | ((first | refine callA_pure (t128 s p _ hs hp) ?_ ?_); (next => repeat' first | exact flags_n | refine flags_c (by first | rfl | assumption) ?_); simp (disch := omega) only [hh, go_sem, wrap64_id, Int.tdiv_eq_ediv_of_nonneg, Int.tmod_eq_emod_of_nonneg])
      | ((first | refine callG_pure (fun e => ⟨?_, t128 s p _ hs hp⟩) ?_); (next => repeat' first | exact flags_n | refine flags_c (by first | rfl | assumption) ?_); simp (disch := omega) only [hh, go_sem, wrap64_id, Int.tdiv_eq_ediv_of_nonneg, Int.tmod_eq_emod_of_nonneg])
      | ((first | refine fnQ_pure1 ?_ ?_ | refine fnQ_pure0 ?_ ?_); (next => repeat' first | exact rvs_n | refine rvs_t ?_ | (simp [go_sem]; done)); simp only [go_sem]; (first | exact VLe.refl _ | refine VLe_int ?_ | refine VLe_bool ?_ | refine VLe_str ?_ | skip))
      | (with_reducible refine And.intro ?_ ?_)
      | with_reducible intro _
    all_goals first
      | omega
      | (rename_i hx; revert hx; simp; done)
      | (simp; done)
      | skip
theorem t101 (s p : List UInt8) (h : List AObj) (hs : s.length ≤ 1000000000) (hp : p.length ≤ 1000000000) : ACalls Tryd.prog 84 [.str s, .str p] h (.str (trimPre s p)) h := by
  refine acalls_of fn84d (by simp) ?_
  simp only [List.length_cons, List.length_nil, Nat.reduceAdd, Nat.reduceSub, List.replicate, List.cons_append, List.nil_append, List.append_nil]
  simp (disch := omega) only [c84d, go_sem, wrap64_id, Int.tdiv_eq_ediv_of_nonneg, Int.tmod_eq_emod_of_nonneg]
  repeat' first
    | ((first | refine callA_pure (t125 s p _ hs hp) ?_ ?_); (next => repeat' first | exact flags_n | refine flags_c (by first | rfl | assumption) ?_); simp (disch := omega) only [go_sem, wrap64_id, Int.tdiv_eq_ediv_of_nonneg, Int.tmod_eq_emod_of_nonneg])
    | ((first | refine callG_pure (fun e => ⟨?_, t125 s p _ hs hp⟩) ?_); (next => repeat' first | exact flags_n | refine flags_c (by first | rfl | assumption) ?_); simp (disch := omega) only [go_sem, wrap64_id, Int.tdiv_eq_ediv_of_nonneg, Int.tmod_eq_emod_of_nonneg])
    | ((first | refine fnQ_pure1 ?_ ?_ | refine fnQ_pure0 ?_ ?_); (next => repeat' first | exact rvs_n | refine rvs_t ?_ | (simp [go_sem]; done)); simp only [go_sem]; (first | exact VLe.refl _ | refine VLe_int ?_ | refine VLe_bool ?_ | refine VLe_str ?_ | skip))
    | (with_reducible refine And.intro ?_ ?_)
    | with_reducible intro _
  all_goals first
    | omega
    | (rename_i hx; revert hx; simp; done)
    | (simp; done)
    | skip
theorem t124 (s p : List UInt8) (h : List AObj) (hs : s.length ≤ 1000000000) (hp : p.length ≤ 1000000000) : ACalls Tryd.prog 103 [.str s, .str p] h (.str (trimSuf s p)) h := by
  unfold trimSuf
  cases hh : hasSuf s p with
  | true =>
    have := hasSuf_len hh
    have k2 : ((s.length : Int) - (p.length : Int)).toNat = s.length - p.length := by omega
    refine acalls_of fn103d (by simp) ?_
    simp only [List.length_cons, List.length_nil, Nat.reduceAdd, Nat.reduceSub, List.replicate, List.cons_append, List.nil_append, List.append_nil]
    simp (disch := omega) only [c103d, k2, go_sem, wrap64_id, Int.tdiv_eq_ediv_of_nonneg, Int.tmod_eq_emod_of_nonneg]
    repeat' first
      | ((first | refine callA_pure (t129 s p _ hs hp) ?_ ?_); (next => repeat' first | exact flags_n | refine flags_c (by first | rfl | assumption) ?_); simp (disch := omega) only [hh, k2, go_sem, wrap64_id, Int.tdiv_eq_ediv_of_nonneg, Int.tmod_eq_emod_of_nonneg])
      | ((first | refine callG_pure (fun e => ⟨?_, t129 s p _ hs hp⟩) ?_); (next => repeat' first | exact flags_n | refine flags_c (by first | rfl | assumption) ?_); simp (disch := omega) only [hh, k2, go_sem, wrap64_id, Int.tdiv_eq_ediv_of_nonneg, Int.tmod_eq_emod_of_nonneg])
      | ((first | refine fnQ_pure1 ?_ ?_ | refine fnQ_pure0 ?_ ?_); (next => repeat' first | exact rvs_n | refine rvs_t ?_ | (simp [go_sem]; done)); simp only [go_sem]; (first | exact VLe.refl _ | refine VLe_int ?_ | refine VLe_bool ?_ | refine VLe_str ?_ | skip))
      | (with_reducible refine And.intro ?_ ?_)
      | with_reducible intro _
    all_goals first
      | omega
      | (rename_i hx; revert hx; simp; done)
      | (simp; done)
      | skip
  | false =>
    refine acalls_of fn103d (by simp) ?_
    simp only [List.length_cons, List.length_nil, Nat.reduceAdd, Nat.reduceSub, List.replicate, List.cons_append, List.nil_append, List.append_nil]
    simp (disch := omega) only [c103d, go_sem, wrap64_id, Int.tdiv_eq_ediv_of_nonneg, Int.tmod_eq_emod_of_nonneg]
    repeat' first
      | ((first | refine callA_pure (t129 s p _ hs hp) ?_ ?_); (next => repeat' first | exact flags_n | refine flags_c (by first | rfl | assumption) ?_); simp (disch := omega) only [hh, go_sem, wrap64_id, Int.tdiv_eq_ediv_of_nonneg, Int.tmod_eq_emod_of_nonneg])
      | ((first | refine callG_pure (fun e => ⟨?_, t129 s p _ hs hp⟩) ?_); (next => repeat' first | exact flags_n | refine flags_c (by first | rfl | assumption) ?_); simp (disch := omega) only [hh, go_sem, wrap64_id, Int.tdiv_eq_ediv_of_nonneg, Int.tmod_eq_emod_of_nonneg])
      | ((first | refine fnQ_pure1 ?_ ?_ | refine fnQ_pure0 ?_ ?_); (next => repeat' first | exact rvs_n | refine rvs_t ?_ | (simp [go_sem]; done)); simp only [go_sem]; (first | exact VLe.refl _ | refine VLe_int ?_ | refine VLe_bool ?_ | refine VLe_str ?_ | skip))
      | (with_reducible refine And.intro ?_ ?_)
      | with_reducible intro _
    all_goals first
      | omega
      | (rename_i hx; revert hx; simp; done)
      | (simp; done)
      | skip
theorem t100 (s p : List UInt8) (h : List AObj) (hs : s.length ≤ 1000000000) (hp : p.length ≤ 1000000000) : ACalls Tryd.prog 83 [.str s, .str p] h (.str (trimSuf s p)) h := by
  refine acalls_of fn83d (by simp) ?_
  simp only [List.length_cons, List.length_nil, Nat.reduceAdd, Nat.reduceSub, List.replicate, List.cons_append, List.nil_append, List.append_nil]
  simp (disch := omega) only [c83d, go_sem, wrap64_id, Int.tdiv_eq_ediv_of_nonneg, Int.tmod_eq_emod_of_nonneg]
  repeat' first
    | ((first | refine callA_pure (t124 s p _ hs hp) ?_ ?_); (next => repeat' first | exact flags_n | refine flags_c (by first | rfl | assumption) ?_); simp (disch := omega) only [go_sem, wrap64_id, Int.tdiv_eq_ediv_of_nonneg, Int.tmod_eq_emod_of_nonneg])
    | ((first | refine callG_pure (fun e => ⟨?_, t124 s p _ hs hp⟩) ?_); (next => repeat' first | exact flags_n | refine flags_c (by first | rfl | assumption) ?_); simp (disch := omega) only [go_sem, wrap64_id, Int.tdiv_eq_ediv_of_nonneg, Int.tmod_eq_emod_of_nonneg])
    | ((first | refine fnQ_pure1 ?_ ?_ | refine fnQ_pure0 ?_ ?_); (next => repeat' first | exact rvs_n | refine rvs_t ?_ | (simp [go_sem]; done)); simp only [go_sem]; (first | exact VLe.refl _ | refine VLe_int ?_ | refine VLe_bool ?_ | refine VLe_str ?_ | skip))
    | (with_reducible refine And.intro ?_ ?_)
    | with_reducible intro _
  all_goals first
    | omega
    | (rename_i hx; revert hx; simp; done)
    | (simp; done)
    | skip
end HY
end

section
set_option linter.all false
set_option linter.unusedSimpArgs false
set_option linter.unusedVariables false
set_option linter.unusedSectionVars false
open Go Go.Proofs AF HY
namespace HY
set_option maxRecDepth 100000
def intsV (l : List Int) : AV := .sl l.length fun i => [.int .i64 (l.getD i 0)]
def intsC (p : List Int) : List AV := p.map (AV.int .i64)
theorem intsC_len (p : List Int) : (intsC p).length = p.length := by simp [intsC]
theorem intsC_snoc (L : List Int) (x : Int) : intsC (L ++ [x]) = intsC L ++ [.int .i64 x] := by simp [intsC]
theorem intsV_of {p : List Int} {n m : Nat} {fz : Nat → Bool} {h : List AObj} (e : p.length = m) : VLe (.sl m fun i => ((List.drop i (intsC p)).take 1).map (rei fz h (n + 1))) (intsV p) := by
  subst e
  refine sl1_of (intsC_len p) rfl (fun i c hc => ?_) (fun c hc => ?_)
  · unfold intsC at hc
    rw [List.getElem?_map, Option.map_eq_some_iff] at hc
    obtain ⟨x, hx, rfl⟩ := hc
    simp [List.getD_eq_getElem?_getD, hx]
  · unfold intsC at hc
    rw [List.mem_map] at hc
    obtain ⟨x, _, rfl⟩ := hc
    rfl
def patC (p : Pat) : List AV := [.str p.letters, intsV p.levels]
theorem t107 (n : Int) (h : List AObj) : ACalls Tryd.prog 87 [.int .i64 n] h (.bool (badLev n)) h := by
  refine acalls_of fn87d (by simp) ?_
  simp only [List.length_cons, List.length_nil, Nat.reduceAdd, Nat.reduceSub, List.replicate, List.cons_append, List.nil_append, List.append_nil]
  simp (disch := omega) only [c87d, go_sem, wrap64_id, Int.tdiv_eq_ediv_of_nonneg, Int.tmod_eq_emod_of_nonneg]
  repeat' first
    | ((first | refine fnQ_pure1 ?_ ?_ | refine fnQ_pure0 ?_ ?_); (next => repeat' first | exact rvs_n | refine rvs_t ?_ | (simp [go_sem]; done)); simp only [go_sem]; (first | exact VLe.refl _ | refine VLe_int ?_ | refine VLe_bool ?_ | refine VLe_str ?_ | skip))
    | (with_reducible refine And.intro ?_ ?_)
    | with_reducible intro _
  all_goals first
    | omega
    | (rename_i hx; revert hx; simp; done)
    | (simp; done)
    | skip
theorem t102 (c : UInt8) (h : List AObj) : ACalls Tryd.prog 85 [.int .u8 (c.toNat : Int)] h (.bool (onlyC c)) h := by
  refine acalls_of fn85d (by simp) ?_
  simp only [List.length_cons, List.length_nil, Nat.reduceAdd, Nat.reduceSub, List.replicate, List.cons_append, List.nil_append, List.append_nil]
  simp (disch := omega) only [c85d, go_sem, wrap64_id, Int.tdiv_eq_ediv_of_nonneg, Int.tmod_eq_emod_of_nonneg]
  repeat' first
    | ((first | refine callA_pure (t103b c _) ?_ ?_); (next => repeat' first | exact flags_n | refine flags_c (by first | rfl | assumption) ?_); simp (disch := omega) only [go_sem, wrap64_id, Int.tdiv_eq_ediv_of_nonneg, Int.tmod_eq_emod_of_nonneg])
    | ((first | refine callG_pure (fun e => ⟨?_, t103b c _⟩) ?_); (next => repeat' first | exact flags_n | refine flags_c (by first | rfl | assumption) ?_); simp (disch := omega) only [go_sem, wrap64_id, Int.tdiv_eq_ediv_of_nonneg, Int.tmod_eq_emod_of_nonneg])
    | ((first | refine fnQ_pure1 ?_ ?_ | refine fnQ_pure0 ?_ ?_); (next => repeat' first | exact rvs_n | refine rvs_t ?_ | (simp [go_sem]; done)); simp only [go_sem]; (first | exact VLe.refl _ | refine VLe_int ?_ | refine VLe_bool ?_ | refine VLe_str ?_ | skip))
    | (with_reducible refine And.intro ?_ ?_)
    | with_reducible intro _
  all_goals first
    | omega
    | (rename_i hx; revert hx; simp; done)
    | (simp; done)
    | skip
def findN (p : Int → Bool) : List Int → Nat → Int
  | [], _ => -1
  | c :: r, i => if p c = true then i else findN p r (i + 1)
theorem findN_iff (p : Int → Bool) : ∀ (s : List Int) (i : Nat), (0 ≤ findN p s i ↔ s.any p = true) ∧ -1 ≤ findN p s i := by
  intro s
  induction s with
  | nil => intro i; simp [findN]
  | cons c r ih =>
    intro i
    by_cases hc : p c = true
    · have e : findN p (c :: r) i = i := if_pos hc
      rw [e, List.any_cons, hc]
      simp
      try omega
    · have e : findN p (c :: r) i = findN p r (i + 1) := if_neg hc
      rw [e, List.any_cons]
      have hc' : p c = false := by simpa using hc
      rw [hc', Bool.false_or]
      exact ih (i + 1)
theorem findN_any (p : Int → Bool) (s : List Int) (i : Nat) : decide (0 ≤ findN p s i) = s.any p := by
  rw [Bool.eq_iff_iff, decide_eq_true_eq]; exact (findN_iff p s i).1
theorem t127 (s : List Int) (p : Int → Bool) (F : Nat) (h : List AObj) (hs : s.length ≤ 1000000000) (hp : ∀ (c : Int) (h : List AObj), ACalls Tryd.prog F [.int .i64 c] h (.bool (p c)) h) : ACalls Tryd.prog 105 [intsV s, .fn (.func F) [] []] h (.int .i64 (findN p s 0)) h := by
  refine acalls_of fn105d (by simp) ?_
  simp only [List.length_cons, List.length_nil, Nat.reduceAdd, Nat.reduceSub, List.replicate, List.cons_append, List.nil_append, List.append_nil]
  simp (disch := omega) only [c105d, intsV, go_sem, wrap64_id, Int.tdiv_eq_ediv_of_nonneg, Int.tmod_eq_emod_of_nonneg]
  repeat' first
    | ((first | refine fnQ_pure1 ?_ ?_ | refine fnQ_pure0 ?_ ?_); (next => repeat' first | exact rvs_n | refine rvs_t ?_ | (simp [go_sem]; done)); simp only [go_sem]; (first | exact VLe.refl _ | refine VLe_int ?_ | refine VLe_bool ?_ | refine VLe_str ?_ | skip))
    | (with_reducible refine And.intro ?_ ?_)
    | with_reducible intro _
  all_goals first
    | omega
    | (rename_i hx; revert hx; simp; done)
    | (simp; done)
    | skip
  refine loop_of (T := fun i : Nat => spar 19 [(0, intsV s), (1, .fn (.func F) [] []), (6, intsV s), (7, .int .i64 s.length), (8, .int .i64 i)]) (H := fun _ => h) (inv := fun i => i ≤ s.length ∧ findN p s 0 = findN p (s.drop i) i) (m := fun i => s.length - i) 0 ⟨by omega, by simp⟩ (Wk.temps ?_) ?_
  · (simp only [intsV, spar, List.foldl, List.replicate, go_sem, VLes_nil, VLes_cons, VLe_undef_iff, VLe_self]; try (repeat' first | (with_reducible refine And.intro ?_ ?_) | (refine VLe_int ?_; omega) | (refine VLe_bool ?_; rfl) | exact VLe.refl _))
  · rintro i ⟨i1, i2⟩ K hK
    rw [i2]
    by_cases hi : i < s.length
    · have e : s.drop i = s.getD i 0 :: s.drop (i + 1) := by rw [List.drop_eq_getElem_cons hi]; simp [List.getD_eq_getElem?_getD, hi]
      rw [e] at i2 ⊢
      simp only [findN] at i2 ⊢
      have hpc := fun h => hp (s.getD i 0) h
      cases hb : p (s.getD i 0) with
      | true =>
        rw [hb] at hpc
        simp (disch := omega) only [spar, List.foldl, List.replicate, intsV, go_sem, wrap64_id, Int.tdiv_eq_ediv_of_nonneg, Int.tmod_eq_emod_of_nonneg]
        repeat' first
          | (refine callV_pure (hpc _) ?_; simp (disch := omega) only [intsV, go_sem, wrap64_id, Int.tdiv_eq_ediv_of_nonneg, Int.tmod_eq_emod_of_nonneg])
          | ((first | refine fnQ_pure1 ?_ ?_ | refine fnQ_pure0 ?_ ?_); (next => repeat' first | exact rvs_n | refine rvs_t ?_ | (simp [go_sem]; done)); simp only [go_sem]; (first | exact VLe.refl _ | refine VLe_int ?_ | refine VLe_bool ?_ | refine VLe_str ?_ | skip))
          | (with_reducible refine And.intro ?_ ?_)
          | with_reducible intro _
        all_goals first
          | omega
          | (rename_i hx; revert hx; simp; done)
          | (simp; done)
          | skip
        all_goals simp
      | false =>
        rw [hb] at hpc i2
        simp (disch := omega) only [spar, List.foldl, List.replicate, intsV, go_sem, wrap64_id, Int.tdiv_eq_ediv_of_nonneg, Int.tmod_eq_emod_of_nonneg]
        repeat' first
          | (refine callV_pure (hpc _) ?_; simp (disch := omega) only [intsV, go_sem, wrap64_id, Int.tdiv_eq_ediv_of_nonneg, Int.tmod_eq_emod_of_nonneg])
          | ((first | refine fnQ_pure1 ?_ ?_ | refine fnQ_pure0 ?_ ?_); (next => repeat' first | exact rvs_n | refine rvs_t ?_ | (simp [go_sem]; done)); simp only [go_sem]; (first | exact VLe.refl _ | refine VLe_int ?_ | refine VLe_bool ?_ | refine VLe_str ?_ | skip))
          | (with_reducible refine And.intro ?_ ?_)
          | with_reducible intro _
        all_goals first
          | omega
          | (rename_i hx; revert hx; simp; done)
          | (simp; done)
          | skip
        refine hK _ _ (i + 1) ⟨by omega, by rw [i2]; simp⟩ (by omega) (Wk.temps ?_)
        (simp only [intsV, spar, List.foldl, List.replicate, go_sem, VLes_nil, VLes_cons, VLe_undef_iff, VLe_self]; try (repeat' first | (with_reducible refine And.intro ?_ ?_) | (refine VLe_int ?_; omega) | (refine VLe_bool ?_; rfl) | exact VLe.refl _))
    · have e : i = s.length := by omega
      subst e
      rw [List.drop_length]
      simp (disch := omega) only [spar, List.foldl, List.replicate, intsV, go_sem, wrap64_id, Int.tdiv_eq_ediv_of_nonneg, Int.tmod_eq_emod_of_nonneg]
      repeat' first
        | ((first | refine fnQ_pure1 ?_ ?_ | refine fnQ_pure0 ?_ ?_); (next => repeat' first | exact rvs_n | refine rvs_t ?_ | (simp [go_sem]; done)); simp only [go_sem]; (first | exact VLe.refl _ | refine VLe_int ?_ | refine VLe_bool ?_ | refine VLe_str ?_ | skip))
        | (with_reducible refine And.intro ?_ ?_)
        | with_reducible intro _
      all_goals first
        | omega
        | (rename_i hx; revert hx; simp; done)
        | (simp; done)
        | skip
theorem t106 (s : List Int) (p : Int → Bool) (F : Nat) (h : List AObj) (hs : s.length ≤ 1000000000) (hp : ∀ (c : Int) (h : List AObj), ACalls Tryd.prog F [.int .i64 c] h (.bool (p c)) h) : ACalls Tryd.prog 86 [intsV s, .fn (.func F) [] []] h (.bool (s.any p)) h := by
  rw [← findN_any p s 0]
  refine acalls_of fn86d (by simp) ?_
  simp only [List.length_cons, List.length_nil, Nat.reduceAdd, Nat.reduceSub, List.replicate, List.cons_append, List.nil_append, List.append_nil]
  simp (disch := omega) only [c86d, intsV, go_sem, wrap64_id, Int.tdiv_eq_ediv_of_nonneg, Int.tmod_eq_emod_of_nonneg]
  repeat' first
    | ((first | refine callA_pure (t127 s p F _ hs hp) ?_ ?_); (next => repeat' first | exact flags_n | refine flags_c (by first | rfl | assumption) ?_); simp (disch := omega) only [intsV, go_sem, wrap64_id, Int.tdiv_eq_ediv_of_nonneg, Int.tmod_eq_emod_of_nonneg])
    | ((first | refine callG_pure (fun e => ⟨?_, t127 s p F _ hs hp⟩) ?_); (next => repeat' first | exact flags_n | refine flags_c (by first | rfl | assumption) ?_); simp (disch := omega) only [intsV, go_sem, wrap64_id, Int.tdiv_eq_ediv_of_nonneg, Int.tmod_eq_emod_of_nonneg])
    | ((first | refine fnQ_pure1 ?_ ?_ | refine fnQ_pure0 ?_ ?_); (next => repeat' first | exact rvs_n | refine rvs_t ?_ | (simp [go_sem]; done)); simp only [go_sem]; (first | exact VLe.refl _ | refine VLe_int ?_ | refine VLe_bool ?_ | refine VLe_str ?_ | skip))
    | (with_reducible refine And.intro ?_ ?_)
    | with_reducible intro _
  all_goals first
    | omega
    | (rename_i hx; revert hx; simp; done)
    | (simp; done)
    | skip
theorem t105 (s : List UInt8) (h : List AObj) (hs : s.length ≤ 1000000000) : ACalls Tryd.prog 49 [.str s] h (strs (clus s)) h := by
  refine acalls_of fn49d (by simp) ?_
  simp only [List.length_cons, List.length_nil, Nat.reduceAdd, Nat.reduceSub, List.replicate, List.cons_append, List.nil_append, List.append_nil]
  simp (disch := omega) only [c49d, go_sem, wrap64_id, Int.tdiv_eq_ediv_of_nonneg, Int.tmod_eq_emod_of_nonneg]
  repeat' first
    | ((first | refine callA_pure (t67 s _ hs) ?_ ?_); (next => repeat' first | exact flags_n | refine flags_c (by first | rfl | assumption) ?_); simp (disch := omega) only [strs, go_sem, wrap64_id, Int.tdiv_eq_ediv_of_nonneg, Int.tmod_eq_emod_of_nonneg])
    | ((first | refine callG_pure (fun e => ⟨?_, t67 s _ hs⟩) ?_); (next => repeat' first | exact flags_n | refine flags_c (by first | rfl | assumption) ?_); simp (disch := omega) only [strs, go_sem, wrap64_id, Int.tdiv_eq_ediv_of_nonneg, Int.tmod_eq_emod_of_nonneg])
    | ((first | refine fnQ_pure1 ?_ ?_ | refine fnQ_pure0 ?_ ?_); (next => repeat' first | exact rvs_n | refine rvs_t ?_ | (simp [go_sem]; done)); simp only [go_sem]; (first | exact VLe.refl _ | refine VLe_int ?_ | refine VLe_bool ?_ | refine VLe_str ?_ | skip))
    | (with_reducible refine And.intro ?_ ?_)
    | with_reducible intro _
  all_goals first
    | omega
    | (rename_i hx; revert hx; simp; done)
    | (simp; done)
    | skip
end HY
end

import Derived.Test.YtjijgafefdolkaaDoorK5
import Derived.Test.YtjijgafefdolkaaDoorK6
import Derived.Test.YtjijgafefdolkaaDoorK4
import Derived.Lib.IndexMore
import Derived.Lib.CountLaws
import Derived.Laws.Strings3
import Derived.Shelf.Strings.BuilderX
import Derived.Shelf.RegionOpenPlain
import Derived.Lib.Strings
import Derived.Lib.Slices
import Derived.Lib.Walk
import Derived.Lib.Builder
import Derived.Lib.AppendStr
import Derived.Lib.UnsafeStr
import Derived.Lib.MakeNoZero
import Derived.WalkKit
import Derived.Laws.Externs
import Derived.Test.YtjijgafefdolkaaDoorProg
import Derived.RangeFuncBox
import Derived.Laws.Rows
import Derived.Test.YtjijgafefdolkaaDoorK2
set_option linter.all false
set_option linter.unusedSimpArgs false
set_option linter.unusedVariables false
set_option linter.unusedSectionVars false
section
set_option linter.all false
set_option linter.unusedSimpArgs false
set_option linter.unusedVariables false
set_option linter.unusedSectionVars false
open Go Go.Proofs AF HY
namespace HY
set_option maxRecDepth 100000
def eqI (n m : Nat) (f g : Nat → Int) : Bool := decide (n = m) && (List.range n).all fun i => decide (f i = g i)
theorem alli_take {f g : Nat → Int} {n : Nat} (h : ∀ j, j < n → f j = g j) : ((List.range n).all fun i => decide (f i = g i)) = true := by
  rw [List.all_eq_true]
  intro j hj
  simpa using h j (by simpa using hj)
theorem alli_false {f g : Nat → Int} {n i : Nat} (hi : i < n) (h : ¬ f i = g i) : ((List.range n).all fun i => decide (f i = g i)) = false := by
  rw [Bool.eq_false_iff]
  intro hc
  rw [List.all_eq_true] at hc
  have := hc i (by simpa using hi)
  simp at this
  exact h this
theorem eqI_lists (a b : List Int) : eqI a.length b.length (fun i => a.getD i 0) (fun i => b.getD i 0) = decide (a = b) := by
  unfold eqI
  by_cases hl : a.length = b.length
  · by_cases he : a = b
    · subst he; rw [alli_take (fun _ _ => rfl)]; simp
    · rw [decide_eq_false he]
      have : ∃ i, i < a.length ∧ ¬ a.getD i 0 = b.getD i 0 := by
        apply Classical.byContradiction
        intro hn
        apply he
        apply List.ext_getElem hl
        intro i h1 h2
        have := Classical.not_not.1 (fun hx => hn ⟨i, h1, hx⟩)
        simpa [List.getD_eq_getElem?_getD, h1, h2] using this
      obtain ⟨i, h1, h2⟩ := this
      rw [alli_false h1 h2, Bool.and_false]
  · have hne : ¬ a = b := fun e => hl (by rw [e])
    rw [decide_eq_false hl, decide_eq_false hne]; rfl
theorem u17 (n m : Nat) (f g : Nat → Int) (h : List AObj) (hn : n ≤ 1000000000) : ACalls Tryd.prog 18 [.sl n fun i => [.int .i64 (f i)], .sl m fun i => [.int .i64 (g i)]] h (.bool (eqI n m f g)) h := by
  unfold eqI
  by_cases g0 : n = m
  · subst g0
    refine acalls_of fn18l (by simp) ?_
    simp only [List.length_cons, List.length_nil, Nat.reduceAdd, Nat.reduceSub, List.replicate, List.cons_append, List.nil_append, List.append_nil]
    simp (disch := omega) only [c18l, go_sem, wrap64_id, Int.tdiv_eq_ediv_of_nonneg, Int.tmod_eq_emod_of_nonneg]
    repeat' first
      | ((first | refine fnQ_pure1 ?_ ?_ | refine fnQ_pure0 ?_ ?_); (next => repeat' first | exact rvs_n | refine rvs_t ?_ | (simp [go_sem]; done)); simp only [go_sem]; (first | exact VLe.refl _ | refine VLe_int ?_ | refine VLe_bool ?_ | refine VLe_str ?_ | skip))
      | (with_reducible refine And.intro ?_ ?_)
      | with_reducible intro _
    all_goals first
      | omega
      | (rename_i hx; revert hx; simp; done)
      | (simp; done)
      | skip
    refine loop_of (T := fun i : Nat => spar 26 [(0, .sl n fun i => [.int .i64 (f i)]), (1, .sl n fun i => [.int .i64 (g i)]), (12, .int .i64 n), (13, .int .i64 i)]) (H := fun _ => h) (inv := fun i => i ≤ n ∧ ∀ j, j < i → f j = g j) (m := fun i => n - i) 0 ⟨by omega, by omega⟩ (Wk.temps ?_) ?_
    · (simp only [spar, List.foldl, List.replicate, go_sem, VLes_nil, VLes_cons, VLe_undef_iff, VLe_self]; try (repeat' first | (with_reducible refine And.intro ?_ ?_) | (refine VLe_int ?_; omega) | (refine VLe_bool ?_; rfl) | exact VLe.refl _))
    rintro i ⟨i1, i2⟩ K hK
    by_cases hi : i < n
    · by_cases hb : f i = g i
      · have k1 : (f i = g i) = True := eq_true hb
        simp (disch := omega) only [spar, List.foldl, List.replicate, k1, go_sem, wrap64_id, Int.tdiv_eq_ediv_of_nonneg, Int.tmod_eq_emod_of_nonneg]
        repeat' first
          | ((first | refine fnQ_pure1 ?_ ?_ | refine fnQ_pure0 ?_ ?_); (next => repeat' first | exact rvs_n | refine rvs_t ?_ | (simp [go_sem]; done)); simp only [go_sem]; (first | exact VLe.refl _ | refine VLe_int ?_ | refine VLe_bool ?_ | refine VLe_str ?_ | skip))
          | (with_reducible refine And.intro ?_ ?_)
          | with_reducible intro _
        all_goals first
          | omega
          | (rename_i hx; revert hx; simp; done)
          | (simp; done)
          | skip
        refine hK _ _ (i + 1) ⟨by omega, fun j hj => ?_⟩ (by omega) (Wk.temps ?_)
        · by_cases e : j = i
          · subst e; exact hb
          · exact i2 j (by omega)
        · (simp only [spar, List.foldl, List.replicate, go_sem, VLes_nil, VLes_cons, VLe_undef_iff, VLe_self]; try (repeat' first | (with_reducible refine And.intro ?_ ?_) | (refine VLe_int ?_; omega) | (refine VLe_bool ?_; rfl) | exact VLe.refl _))
      · have k1 : (f i = g i) = False := eq_false hb
        rw [alli_false hi hb]
        simp (disch := omega) only [spar, List.foldl, List.replicate, k1, go_sem, wrap64_id, Int.tdiv_eq_ediv_of_nonneg, Int.tmod_eq_emod_of_nonneg]
        repeat' first
          | ((first | refine fnQ_pure1 ?_ ?_ | refine fnQ_pure0 ?_ ?_); (next => repeat' first | exact rvs_n | refine rvs_t ?_ | (simp [go_sem]; done)); simp only [go_sem]; (first | exact VLe.refl _ | refine VLe_int ?_ | refine VLe_bool ?_ | refine VLe_str ?_ | skip))
          | (with_reducible refine And.intro ?_ ?_)
          | with_reducible intro _
        all_goals first
          | omega
          | (rename_i hx; revert hx; simp; done)
          | (simp; done)
          | skip
    · have e : i = n := by omega
      subst e
      rw [alli_take i2]
      simp (disch := omega) only [spar, List.foldl, List.replicate, go_sem, wrap64_id, Int.tdiv_eq_ediv_of_nonneg, Int.tmod_eq_emod_of_nonneg]
      repeat' first
        | ((first | refine fnQ_pure1 ?_ ?_ | refine fnQ_pure0 ?_ ?_); (next => repeat' first | exact rvs_n | refine rvs_t ?_ | (simp [go_sem]; done)); simp only [go_sem]; (first | exact VLe.refl _ | refine VLe_int ?_ | refine VLe_bool ?_ | refine VLe_str ?_ | skip))
        | (with_reducible refine And.intro ?_ ?_)
        | with_reducible intro _
      all_goals first
        | omega
        | (rename_i hx; revert hx; simp; done)
        | (simp; done)
        | skip
  · have k0 : ((n : Int) = m) = False := eq_false (by omega)
    rw [decide_eq_false g0]
    refine acalls_of fn18l (by simp) ?_
    simp only [List.length_cons, List.length_nil, Nat.reduceAdd, Nat.reduceSub, List.replicate, List.cons_append, List.nil_append, List.append_nil]
    simp (disch := omega) only [c18l, k0, go_sem, wrap64_id, Int.tdiv_eq_ediv_of_nonneg, Int.tmod_eq_emod_of_nonneg]
    repeat' first
      | ((first | refine fnQ_pure1 ?_ ?_ | refine fnQ_pure0 ?_ ?_); (next => repeat' first | exact rvs_n | refine rvs_t ?_ | (simp [go_sem]; done)); simp only [go_sem]; (first | exact VLe.refl _ | refine VLe_int ?_ | refine VLe_bool ?_ | refine VLe_str ?_ | skip))
      | (with_reducible refine And.intro ?_ ?_)
      | with_reducible intro _
    all_goals first
      | omega
      | (rename_i hx; revert hx; simp; done)
      | (simp; done)
      | skip
theorem u17v (a b : List Int) (h : List AObj) (hn : a.length ≤ 1000000000) : ACalls Tryd.prog 18 [intsV a, intsV b] h (.bool (decide (a = b))) h := by
  rw [← eqI_lists]; exact u17 _ _ _ _ h hn
end HY
end

section
set_option linter.all false
set_option linter.unusedSimpArgs false
set_option linter.unusedVariables false
set_option linter.unusedSectionVars false
open Go Go.Proofs AF HY
namespace HY
set_option maxRecDepth 100000
end HY
end

section
set_option linter.all false
set_option linter.unusedSimpArgs false
set_option linter.unusedVariables false
set_option linter.unusedSectionVars false
open Go Go.Proofs AF HY
namespace HY
set_option maxRecDepth 100000
end HY
end

section
set_option linter.all false
set_option linter.unusedSimpArgs false
set_option linter.unusedVariables false
set_option linter.unusedSectionVars false
set_option linter.unusedVariables false
namespace Go.Proofs
open Go.Shelf Go.RowKit Go.Lib
set_option maxHeartbeats 2000000 in
set_option maxRecDepth 100000 in
theorem ix1_calls (s : ByteArray) (c : UInt8) (w : World) :
    Calls Tryd.prog 71 #[.string s, .string ⟨#[c]⟩] w fun e w' => e = .returned (.int .i64 (Lib.indexByte s.data.toList c)) ∧ w' = w := by
  have e94 : ∀ args w, (callFunc 94 args).run Tryd.prog w = .ok (.enter 94 args) w := enters_of Tryd.func94 (by kernel_rfl) rfl
  go_enter Tryd.func71, Tryd.ntmps71
  go_wp2_with (go_at_fn 94; refine (ib_calls _ _ _).mono ?_; rintro e w' ⟨rfl, rfl⟩)
  · have h : ([c] == s.toList) = true := by assumption
    go_ret
    refine ⟨?_, rfl⟩
    have e : s.data.toList = [c] := by rw [← Lib.toList_data]; exact (beq_iff_eq.1 h).symm
    rw [e]
    simp [Lib.indexByte]
  · go_ret
    exact ⟨rfl, rfl⟩
end Go.Proofs
end

section
set_option linter.all false
set_option linter.unusedSimpArgs false
set_option linter.unusedVariables false
set_option linter.unusedSectionVars false
open Go Go.Proofs AF HY
namespace HY
set_option maxRecDepth 100000
def cutAt (c : UInt8) (s : List UInt8) : Nat := (s.takeWhile (· != c)).length
theorem cutAt_cons (c b : UInt8) (s : List UInt8) : cutAt c (b :: s) = if b = c then 0 else cutAt c s + 1 := by
  unfold cutAt
  rw [List.takeWhile_cons]
  by_cases e : b = c
  · simp [e]
  · simp [e]
theorem index_cut (c : UInt8) : ∀ (s : List UInt8), 0 < s.count c → Go.Lib.indexByte s c = cutAt c s := by
  intro s
  induction s with
  | nil => intro h; simp at h
  | cons b s ih =>
    intro h
    unfold Go.Lib.indexByte
    rw [cutAt_cons]
    by_cases e : b = c
    · simp [e]
    · rw [List.count_cons, if_neg (by simpa using e)] at h
      have := ih (by omega)
      rw [if_neg (by simpa using e), if_neg e, this, if_neg (by simp <;> omega)]
      rfl
theorem cutAt_lt (c : UInt8) : ∀ (s : List UInt8), 0 < s.count c → cutAt c s < s.length := by
  intro s
  induction s with
  | nil => intro h; simp at h
  | cons b s ih =>
    intro h
    rw [cutAt_cons]
    by_cases e : b = c
    · simp [e]
    · rw [List.count_cons, if_neg (by simpa using e)] at h
      have := ih (by omega)
      rw [if_neg e, List.length_cons]
      omega
end HY
end

section
set_option linter.all false
set_option linter.unusedSimpArgs false
set_option linter.unusedVariables false
set_option linter.unusedSectionVars false
open Go Go.Proofs AF HY
namespace HY
set_option maxRecDepth 100000
end HY
end

section
set_option linter.all false
set_option linter.unusedSimpArgs false
set_option linter.unusedVariables false
set_option linter.unusedSectionVars false
open Go Go.Proofs AF HY
namespace HY
set_option maxRecDepth 100000
def dg (b : UInt8) : Bool := decide (kindI (b.toNat : Int) = 3)
def badD (s : List UInt8) (i : Nat) : Bool := dg (s.getD i 0) && (decide (s.getD i 0 = 48) || (decide (i + 1 < s.length) && (dg (s.getD (i + 1) 0) || decide (kindI ((s.getD (i + 1) 0).toNat : Int) = 2))))
def letB (s : List UInt8) : List UInt8 := s.filter fun b => !dg b
def lvStep (s : List UInt8) (st : Nat × List Int) (u : List UInt8) : Nat × List Int :=
  if dg (s.getD st.1 0) then (st.1 + 1 + u.length, st.2 ++ [((s.getD st.1 0).toNat : Int) - 48]) else (st.1 + u.length, st.2 ++ [0])
def lvAll (s : List UInt8) (us : List (List UInt8)) : Nat × List Int := us.foldl (lvStep s) (0, [])
def okPart (s : List UInt8) : Prop := s ≠ [] ∧ (∀ i, i < s.length → badD s i = false) ∧
  (∀ i, i < (clus (letB s)).length → (lvAll s ((clus (letB s)).take i)).1 < s.length) ∧ ((lvAll s (clus (letB s))).1 < s.length → dg (s.getD (lvAll s (clus (letB s))).1 0) = true)
end HY
end

section
set_option linter.all false
set_option linter.unusedSimpArgs false
set_option linter.unusedVariables false
set_option linter.unusedSectionVars false
open Go Go.Proofs AF HY
namespace HY
set_option maxRecDepth 100000
end HY
end

section
set_option linter.all false
set_option linter.unusedSimpArgs false
set_option linter.unusedVariables false
set_option linter.unusedSectionVars false
open Go Go.Proofs AF HY
namespace HY
set_option maxRecDepth 100000
end HY
end

section
set_option linter.all false
set_option linter.unusedSimpArgs false
set_option linter.unusedVariables false
set_option linter.unusedSectionVars false
open Go Go.Proofs AF HY
namespace HY
set_option maxRecDepth 100000
end HY
end

section
set_option linter.all false
set_option linter.unusedSimpArgs false
set_option linter.unusedVariables false
set_option linter.unusedSectionVars false
open Go Go.Proofs AF HY
namespace HY
set_option maxRecDepth 100000
theorem slOf_strs {v n : Nat} {L : List (List UInt8)} {fz : Nat → Bool} {h : List AObj} : VLe (slOf (some (ownO v 9 (strC L))) v 1 0 L.length (rei fz h (n + 1))) (strs L) := by
  unfold ownO
  split
  · rename_i e
    have : L = [] := by cases L with
      | nil => rfl
      | cons a l => simp [strC] at e
    subst this
    rw [slOf_emp, if_pos rfl]
    exact VLe_nl
  · rw [slOf_mem, if_pos ⟨rfl, by rw [strC_len]; omega⟩]
    simp only [Nat.zero_add, Nat.mul_one]
    exact strs_of rfl
end HY
end

section
set_option linter.all false
set_option linter.unusedSimpArgs false
set_option linter.unusedVariables false
set_option linter.unusedSectionVars false
open Go Go.Proofs AF HY
namespace HY
set_option maxRecDepth 100000
instance (s : List UInt8) : Decidable (okPart s) := by unfold okPart; infer_instance
end HY
end

section
set_option linter.all false
set_option linter.unusedSimpArgs false
set_option linter.unusedVariables false
set_option linter.unusedSectionVars false
open Go Go.Proofs AF HY
namespace HY
set_option maxRecDepth 100000
theorem give {P : Program} {f : FuncId} {args : List AV} {h h' : List AObj} {r : AV} (ks : List Nat) (hs : sitesOk ks h = true) (hc : ACalls P f (args.map (frz (fun k => ks.contains k) h 8)) (killO ks h) r h') : ACalls P f args h r h' := by
  refine ⟨hc.1, fun w σ xs H hv => ?_⟩
  obtain ⟨σ', g1, g2, g3, g4⟩ := kill_spec ks H hs
  refine (hc.2 w σ' xs g1 ⟨by rw [hv.1]; simp, fun i c x hcc hx => ?_⟩).mono ?_
  · rw [List.getElem?_map, Option.map_eq_some_iff] at hcc
    obtain ⟨c0, hcc, rfl⟩ := hcc
    exact frz_vr H (fun b hb => (g4 b hb).elim fun j ⟨o, h1, h2, h3⟩ => ⟨j, o, by simpa using h1, h2, h3⟩) (fun j o hj ho => g3 j o (by simpa using hj) ho) 8 (hv.2 i c0 x hcc hx)
  · rintro e w' ⟨v, σ2, rfl, k1, k2, k3⟩
    exact ⟨v, σ2, rfl, k1, k2, g2.trans k3⟩
theorem u17o (L M : List Int) (k v : Nat) (h : List AObj) (hk : getO k h = some (ownO v 3 (intsC M))) (hl : L.length ≤ 1000000) : ACalls Tryd.prog 18 [intsV L, .osl k v 1 0 M.length] h (.bool (decide (L = M))) h := by
  refine ACalls.borrow ?_ rfl
  refine ACalls.le (u17v L M [] (by omega)) ?_ (VLe.refl _)
  simp only [List.map_cons, List.map_nil, rei_osl, if_true, hk]
  exact VLes2 (VLe.refl _) (VLes2 slOf_ints VLes.nil)
theorem u34o (L M : List (List UInt8)) (k v : Nat) (h : List AObj) (hk : getO k h = some (ownO v 9 (strC M))) (hl : L.length ≤ 1000000) : ACalls Tryd.prog 31 [strs L, .osl k v 1 0 M.length] h (.bool (eqS L.length M.length (fun i => L.getD i []) (fun i => M.getD i []))) h := by
  refine ACalls.borrow ?_ rfl
  refine ACalls.le (t143 L.length M.length (fun i => L.getD i []) (fun i => M.getD i []) [] (by omega)) ?_ (VLe.refl _)
  simp only [List.map_cons, List.map_nil, rei_osl, if_true, hk]
  exact VLes2 (VLe.refl _) (VLes2 slOf_strs VLes.nil)
theorem e5 : decide ([0, 1, 0, 0, 3] = ([0, 1, 0, 0, 3] : List Int)) = true := by decide
theorem e2 : decide ([2, 3] = ([2, 3] : List Int)) = true := by decide
theorem eS : eqS ([[120, 97], [98, 99, 100, 101]] : List (List UInt8)).length ([[120, 97], [98, 99, 100, 101]] : List (List UInt8)).length (fun i => ([[120, 97], [98, 99, 100, 101]] : List (List UInt8)).getD i []) (fun i => ([[120, 97], [98, 99, 100, 101]] : List (List UInt8)).getD i []) = true := by decide
end HY
end

section
set_option linter.all false
set_option linter.unusedSimpArgs false
set_option linter.unusedVariables false
set_option linter.unusedSectionVars false
open Go Go.Proofs AF HY
namespace HY
set_option maxRecDepth 100000
def MaxLike (N : Nat) (T : List Int → List Int) (c : Nat → Int) : Prop := (∀ i, 0 ≤ c i ∧ c i ≤ 9) ∧ ∀ all, all.length = N → (∀ i, i < N → 0 ≤ all.getD i 0) → (T all).length = N ∧ ∀ i, i < N → (T all).getD i 0 = max (all.getD i 0) (c i)
theorem MaxLike.id (N : Nat) : MaxLike N (fun a => a) (fun _ => 0) := ⟨fun _ => by dsimp only; omega, fun all hl h0 => ⟨hl, fun i hi => by have := h0 i hi; dsimp only; omega⟩⟩
theorem MaxLike.comp {N : Nat} {T U : List Int → List Int} {c d : Nat → Int} (hT : MaxLike N T c) (hU : MaxLike N U d) : MaxLike N (fun a => U (T a)) (fun i => max (c i) (d i)) := by
  refine ⟨fun i => by have := hT.1 i; have := hU.1 i; dsimp only; omega, fun all hl h0 => ?_⟩
  obtain ⟨t1, t2⟩ := hT.2 all hl h0
  obtain ⟨u1, u2⟩ := hU.2 (T all) t1 (fun i hi => by rw [t2 i hi]; have := h0 i hi; omega)
  exact ⟨u1, fun i hi => by rw [u2 i hi, t2 i hi]; dsimp only; omega⟩
theorem getD_set (l : List Int) (a i : Nat) (x : Int) : (l.set a x).getD i 0 = if a = i ∧ i < l.length then x else l.getD i 0 := by
  rw [List.getD_eq_getElem?_getD, List.getD_eq_getElem?_getD, List.getElem?_set]
  by_cases e : a = i
  · subst e
    by_cases h : a < l.length
    · simp [h]
    · simp [h]
  · simp [e]
theorem MaxLike.set (N a : Nat) {x : Int} (h0 : 0 ≤ x) (h9 : x ≤ 9) : MaxLike N (fun all => all.set a (max (all.getD a 0) x)) (fun i => if a = i then x else 0) := by
  refine ⟨fun i => by dsimp only; split <;> omega, fun all hl hn => ⟨by simp [hl], fun i hi => ?_⟩⟩
  rw [getD_set]
  have := hn i hi
  by_cases e : a = i
  · subst e; rw [if_pos ⟨rfl, by omega⟩]; dsimp only; rw [if_pos rfl]
  · rw [if_neg (fun h => e h.1)]; dsimp only; rw [if_neg e]; omega
def okLev (r : List Int) : Prop := ∀ x ∈ r, 0 ≤ x ∧ x ≤ 9
theorem MaxLike.foldl {α : Type} {N : Nat} {f : List Int → α → List Int} : ∀ (l : List α), (∀ x ∈ l, ∃ c, MaxLike N (fun a => f a x) c) → ∃ c, MaxLike N (fun a => l.foldl f a) c := by
  intro l
  induction l with
  | nil => intro _; exact ⟨_, MaxLike.id N⟩
  | cons x l ih =>
    intro h
    obtain ⟨c, hc⟩ := h x List.mem_cons_self
    obtain ⟨d, hd⟩ := ih (fun y hy => h y (List.mem_cons_of_mem _ hy))
    exact ⟨_, hc.comp hd⟩
def okLevs (ps : List Pat) : Prop := ∀ p ∈ ps, okLev p.levels
theorem zeros_get (N i : Nat) : (List.replicate N (0 : Int)).getD i 0 = 0 := by
  rw [List.getD_eq_getElem?_getD, List.getElem?_replicate]
  split <;> rfl
structure Fine (ps : List Pat) : Prop where
  len : ps.length ≤ 8
  ok : okPats ps
  check : checkPats ps = 0
  all : ∀ p ∈ ps, checkPat p = 0
  lev : okLevs ps
end HY
end

section
set_option linter.all false
set_option linter.unusedSimpArgs false
set_option linter.unusedVariables false
set_option linter.unusedSectionVars false
open Go Go.Proofs AF HY
namespace HY
set_option maxRecDepth 100000
end HY
end

section
set_option linter.all false
set_option linter.unusedSimpArgs false
set_option linter.unusedVariables false
set_option linter.unusedSectionVars false
open Go Go.Proofs AF HY
namespace HY
set_option maxRecDepth 100000
end HY
end

section
set_option linter.all false
set_option linter.unusedSimpArgs false
set_option linter.unusedVariables false
set_option linter.unusedSectionVars false
open Go Go.Proofs AF HY
namespace HY
set_option maxRecDepth 100000
theorem cells_intsV (L : List Int) : (intsV L).cells = [intsV L] := rfl
theorem solid_intsV (L : List Int) : (intsV L).solid = true := rfl
end HY
end

section
open Go Go.Proofs AF HY
namespace HY
set_option maxRecDepth 100000
end HY
end

section
set_option linter.unusedVariables false
namespace Go.Proofs
open Go.Shelf Go.RowKit
set_option maxHeartbeats 1000000 in
set_option maxRecDepth 100000 in
theorem cc_used (b : Nat) (w : World) (h0 : w.cell? ⟨b, 0, none⟩ = some (.pointer (some ⟨b, 0, none⟩))) :
    Calls Tryd.prog 93 #[.pointer (some ⟨b, 0, none⟩)] w fun e w' => e = .returned (.tuple #[]) ∧ w' = w := by
  obtain ⟨j, hj, _⟩ := Option.map_eq_some_iff.1 (show (Tryd.prog.info? 100).map (·.size) = some 2 by kernel_rfl)
  go_enter Tryd.func93, Tryd.ntmps93
  go_wp2
  rw [Lib.run_neq_ptr_same w _ Tryd.underlying98 hj]
  go_wp2
  go_end0
  exact ⟨rfl, rfl⟩
theorem lies69 (n : Nat) (hn : 2 ≤ n) : liesAt Tryd.prog Tryd.prog.depth 100 (n / Tryd.prog.cellsOf 100) 0 100 1 = true := by
  have e : Tryd.prog.cellsOf 100 = 2 := by kernel_rfl
  have hf : sameLayout Tryd.prog Tryd.prog.depth 100 100 = true := by kernel_rfl
  have h1 : 1 ≤ n / 2 := by omega
  rw [e]
  obtain ⟨d, hd⟩ : ∃ d, Tryd.prog.depth = d + 1 := ⟨2 * (Tryd.prog.types.size + Made.depth) + 1, rfl⟩
  have hr : rowAt Tryd.prog (sameLayout Tryd.prog Tryd.prog.depth · 100) Tryd.prog.depth 100 (n / 2) 0 1 = true := by
    conv => lhs; arg 3; rw [hd]
    unfold rowAt
    simp only [e]
    rw [if_neg (by omega)]
    simp [hf, h1]
  conv => lhs; arg 2; rw [hd]
  unfold liesAt
  rw [hr]
  rfl
set_option maxHeartbeats 1000000 in
set_option maxRecDepth 100000 in
theorem cc_fresh (b : Nat) (w : World) (h0 : w.cell? ⟨b, 0, none⟩ = some (.pointer none)) (n : Nat) (hn : 2 ≤ n) (hsh : w.shape? b = some (100, n)) (hfz : w.frozen? ⟨b, 0, none⟩ = false) :
    Calls Tryd.prog 93 #[.pointer (some ⟨b, 0, none⟩)] w fun e w' => e = .returned (.tuple #[]) ∧ w' = w.setCell ⟨b, 0, none⟩ (.pointer (some ⟨b, 0, none⟩)) := by
  obtain ⟨j, hj, hjs⟩ := Option.map_eq_some_iff.1 (show (Tryd.prog.info? 100).map (·.size) = some 2 by kernel_rfl)
  go_enter Tryd.func93, Tryd.ntmps93
  go_wp2
  rw [Lib.run_to_unsafe w ⟨b, 0, none⟩ Tryd.underlying98 Tryd.underlying134 hj (by rw [hjs]; decide) hsh (Nat.lt_of_lt_of_le (Nat.zero_lt_succ 1) hn)]
  simp only [Result.andThen]
  rw [Oper.upon_value]
  go_wp2
  rw [run_callFunc_extern Tryd.func113 (by kernel_rfl) (by kernel_rfl) (by kernel_rfl) (e := Extern.AbiNoEscape.same) (by kernel_rfl)]
  rw [Lib.run_noEscape]
  simp only [Result.andThen]
  rw [Oper.upon_value]
  go_wp2
  rw [Lib.run_from_unsafe w ⟨b, 0, none⟩ Tryd.underlying134 Tryd.underlying98 hj hsh (lies69 n hn)]
  simp only [Result.andThen]
  rw [Oper.upon_value]
  go_wp2
  go_end0
  exact ⟨rfl, rfl⟩
set_option maxHeartbeats 1000000 in
set_option maxRecDepth 100000 in
theorem str_some (b g cap : Nat) (l : List UInt8) (cur : Array Value) (w : World) (h0 : l ≠ []) (c0 : w.cell? ⟨b, 1, none⟩ = some (.slice (some ⟨g, 0, none⟩) l.length cap)) (hg : w.heap[g]? = some (.cells cur 5 (0, 0)))
    (hnc : l.length ≤ cap) (hcm : cap ≤ maxLen) (hcs : cap ≤ cur.size) (hcell : ∀ (j : Nat) x, l[j]? = some x → w.cell? ⟨g, j, none⟩ = some (.int .u8 x.toNat)) :
    Calls Tryd.prog 70 #[.pointer (some ⟨b, 0, none⟩)] w fun e w' => e = .returned (.string ⟨l.toArray⟩) ∧ w' = w.drew.freeze ⟨g, 0, none⟩ l.length := by
  have hl0 : l.length ≠ 0 := by simpa using h0
  have c1 : w.drew.cell? ⟨b, 1, none⟩ = some (.slice (some ⟨g, 0, none⟩) l.length cap) := c0
  have hSD : (Builtin.unsafeSliceData_ #[82] 117 #[.slice (some ⟨g, 0, none⟩) l.length cap]).run Tryd.prog w.drew = .ok (.pointer (some ⟨g, 0, none⟩)) w.drew :=
    Lib.run_unsafeSliceData_row _ _ _ _ _ _ (by omega)
  have hUS : (Builtin.unsafeString_ #[117, 3] 9 #[.pointer (some ⟨g, 0, none⟩), .int .i64 l.length]).run Tryd.prog w.drew = .ok (.string ⟨l.toArray⟩) (w.drew.freeze ⟨g, 0, none⟩ l.length) := by
    refine Lib.run_unsafeString_row w.drew 117 3 9 5 Tryd.underlying117 (by kernel_rfl) g cur.size (by have hg' : w.drew.heap[g]? = some (.cells cur 5 (0, 0)) := hg; simp [World.shape?, hg']) l h0 (by omega) (by unfold maxLen at hcm; omega) ?_
    intro j x hx
    have := hcell j x hx
    cases j with
    | zero => exact this
    | succ j =>
      have e : (⟨g, 0, none⟩ : Addr).add (j + 1) = ⟨g, j + 1, none⟩ := by
        unfold Addr.add
        rw [if_neg (Nat.succ_ne_zero j)]
        simp only [Nat.zero_add]
      rw [e]
      exact this
  have mixed : Tryd.prog.follows .mixedOrders = true := by kernel_rfl
  go_enter Tryd.func70, Tryd.ntmps70
  go_wp2
  go_region_o
  all_goals (go_wp2; go_ret; exact ⟨rfl, rfl⟩)
set_option maxHeartbeats 2000000 in
set_option maxRecDepth 100000 in
theorem str_none (b : Nat) (w : World) (c0 : w.cell? ⟨b, 1, none⟩ = some (.slice none 0 0)) :
    Calls Tryd.prog 70 #[.pointer (some ⟨b, 0, none⟩)] w fun e w' => e = .returned (.string ⟨#[]⟩) ∧ w' = w.drew := by
  have hUS : ∀ (W : World) (q : Option Addr), (Builtin.unsafeString_ #[117, 3] 9 #[.pointer q, .int .i64 0]).run Tryd.prog W = .ok (.string .empty) W := fun W q => Lib.run_unsafeString_none W _ _ _ q
  have c1 : w.drew.cell? ⟨b, 1, none⟩ = some (.slice none 0 0) := c0
  have hSD : (Builtin.unsafeSliceData_ #[82] 117 #[.slice none 0 0]).run Tryd.prog w.drew = .ok (.pointer none) w.drew := rfl
  have mixed : Tryd.prog.follows .mixedOrders = true := by kernel_rfl
  go_enter Tryd.func70, Tryd.ntmps70
  go_wp2
  go_region_o
  all_goals (go_wp2; go_ret; exact ⟨rfl, rfl⟩)
end Go.Proofs
end

section
open Go Go.Proofs AF HY
namespace HY
set_option maxRecDepth 100000
theorem v81 (kb vb : Nat) (A B : AV) (h : List AObj) (hk : getO kb h = some (.mem vb 100 [A, B])) (hA : A = .nilp ∨ A = .op kb vb 0) : ACalls Tryd.prog 93 [.op kb vb 0] h (.tup []) (setO kb h (.mem vb 100 [.op kb vb 0, B])) := by
  refine ⟨okF1 Tryd.func93 (by kernel_rfl) (by kernel_rfl), fun w σ xs H hv => ?_⟩
  obtain ⟨x, rfl, hx⟩ := hv.one
  have hc := cellsOf_of hk
  obtain ⟨cs, o, b, arr, g1, rfl, g2, g3, g4, g5, g6, g7, g9, g8⟩ := op_live H hx (by rw [hc]; rfl)
  rw [hc] at g1
  cases g1
  have hobj := H.obj kb _ o hk g2
  obtain ⟨_, hty, _⟩ := hobj
  rw [hty] at g5
  have g5b := g5
  have g5 := g5.plain (by decide)
  have hsz : 2 ≤ arr.size := g7
  have hc0 : w.cell? ⟨b, 0, none⟩ = some arr[0] := by rw [cell_of g5b]; simp
  have hA0 := g8 0 A arr[0] rfl (by simp)
  have hsh : w.shape? b = some (100, arr.size) := by simp [World.shape?, g5]
  have hfz : w.frozen? ⟨b, 0, none⟩ = false := by simp [World.frozen?, g5]
  have hkl := getO_lt hk
  rcases hA with rfl | rfl
  · rw [vr_nilp hA0] at hc0
    refine (callsIn_wide.2 (cc_fresh b w hc0 arr.size hsz hsh hfz)).mono ?_
    rintro e w' ⟨rfl, rfl⟩
    have hg : w.grownBy (w.setCell ⟨b, 0, none⟩ (.pointer (some ⟨b, 0, none⟩))) o.blk := by rw [g4]; exact grownBy_setCell' w b _
    have hh := heap_setCell_same w b 0 arr 100 (.pointer (some ⟨b, 0, none⟩)) g5
    obtain ⟨u1, u2⟩ := H.update (o' := o) (a' := .mem vb 100 [.op kb vb 0, B]) g2 hg (Nat.le_refl _) (fun _ => rfl)
      (by intro b' e; rw [g4] at e; cases e; exact ⟨.inl g4, (Array.getElem?_eq_some_iff.1 hh).1⟩) (fun b' r e hr => by rw [g4] at e; cases e; rw [g5] at hr; cases hr)
      (fun e => ⟨g3, hty, b, _, g4, by rw [hty]; exact .mk hh, by simp [g6], by simp; exact hsz, fun i y hi hy => by
        simp only [Array.getElem?_setIfInBounds] at hy
        split at hy
        · split at hy
          · cases hy; rfl
          · cases hy
        · exact g9 i y (by simpa using hi) hy, fun i c y hc hy => by
        simp only [Array.getElem?_setIfInBounds] at hy
        split at hy
        · rename_i e0
          split at hy
          · cases hy
            subst e0
            simp at hc
            subst hc
            have hko : (σ.set kb o)[kb]? = some o := by rw [List.getElem?_set_self (by rw [H.len]; exact hkl)]
            exact .op o hko ⟨_, rfl⟩ (by omega) (fun _ => ⟨b, g4, rfl⟩)
          · cases hy
        · rename_i e0
          have : i = 1 ∨ 2 ≤ i := by omega
          rcases this with rfl | h2
          · exact (g8 1 c y hc hy).ext e
          · match i, h2, hc with
            | i + 2, _, hc => simp at hc⟩)
    exact ⟨_, _, rfl, u1, .imm (.tup rfl (fun i c x hc => by simp at hc)), u2⟩
  · obtain ⟨o', q1, q2, q3⟩ := vr_op hA0
    rw [g2] at q1
    cases q1
    obtain ⟨b', q4, q5⟩ := q3 g3
    rw [g4] at q4
    cases q4
    rw [q5] at hc0
    refine (callsIn_wide.2 (cc_used b w hc0)).mono ?_
    rintro e w' ⟨rfl, rfl⟩
    rw [setO_same hk]
    exact ⟨_, σ, rfl, H, .imm (.tup rfl (fun i c x hc => by simp at hc)), Ext.refl w' σ⟩
def bufO (v : Nat) (s : List UInt8) : AObj := if s = [] then .emp v else .mem v 5 (bytesA s)
theorem bufO_nil (v : Nat) : bufO v [] = .emp v := rfl
theorem bufO_ne {s : List UInt8} (h : s ≠ []) (v : Nat) : bufO v s = .mem v 5 (bytesA s) := if_neg h
theorem bytesA_app (s u : List UInt8) : bytesA (s ++ u) = bytesA s ++ bytesA u := by simp [bytesA]
theorem bytesA_low (s : List UInt8) (n : Nat) : ∀ c ∈ bytesA s, lowV n c = true := by
  intro c hc
  unfold bytesA at hc
  rw [List.mem_map] at hc
  obtain ⟨a, _, rfl⟩ := hc
  rfl
theorem bufO_low (v : Nat) (s : List UInt8) (n : Nat) : lowO n (bufO v s) := by
  unfold bufO
  split
  · trivial
  · exact bytesA_low s n

theorem bld_set {kb kj : Nat} {h : List AObj} {X Y Z : AObj} (hne : kb ≠ kj) : setO kb (setO kj (setO kb h X) Y) Z = setO kj (setO kb h Z) Y := by
  rw [setO_comm hne, setO_setO]
theorem bld_low {kb vb kj v m : Nat} {h : List AObj} {s : List UInt8} (hkl : kb < h.length) (hjl : kj < h.length) : ∀ o ∈ setO kj (setO kb h (.mem vb 100 [.op kb vb 0, .osl kj v 1 0 m])) (bufO v s), o ∈ h ∨ lowO h.length o := by
  intro o ho
  rcases mem_setO ho with h1 | rfl
  · rcases mem_setO h1 with h2 | rfl
    · exact .inl h2
    · right
      intro c hc
      simp only [List.mem_cons, List.not_mem_nil, or_false] at hc
      rcases hc with rfl | rfl
      · simpa [lowV] using hkl
      · simpa [lowV] using hjl
  · exact .inr (bufO_low v s _)
theorem bufO_if (v : Nat) (u : List UInt8) : (if u.length = 0 then AObj.emp v else AObj.mem v 5 (bytesA u)) = bufO v u := by
  unfold bufO
  by_cases h : u = []
  · simp [h]
  · rw [if_neg h, if_neg (by simpa using h)]
theorem v50 (kb vb kj v : Nat) (A : AV) (s u : List UInt8) (h : List AObj) (hne : kj ≠ kb) (hk : getO kb h = some (.mem vb 100 [A, .osl kj v 1 0 s.length])) (hA : A = .nilp ∨ A = .op kb vb 0) (hj : getO kj h = some (bufO v s)) (hl : s.length + u.length ≤ 140737488355328) :
    ACalls Tryd.prog 67 [.op kb vb 0, .str u] h (.tup [.int .i64 u.length, .nilif]) (setO kj (setO kb h (.mem vb 100 [.op kb vb 0, .osl kj (v + 1) 1 0 (s.length + u.length)])) (bufO (v + 1) (s ++ u))) := by
  have hkl := getO_lt hk
  have hjl := getO_lt hj
  have hne' : kb ≠ kj := fun e => hne e.symm
  have hk1 : ∀ l, getO kb (h ++ l) = some (.mem vb 100 [A, .osl kj v 1 0 s.length]) := fun l => by rw [getO_left hkl, hk]
  refine acalls_of fn67l (by simp) ?_
  simp only [List.length_cons, List.length_nil, Nat.reduceAdd, Nat.reduceSub, List.replicate, List.cons_append, List.nil_append, List.append_nil]
  simp (disch := omega) only [c67l, go_sem, wrap64_id, Int.tdiv_eq_ediv_of_nonneg, Int.tmod_eq_emod_of_nonneg]
  refine callA_eff (v81 kb vb A _ _ (hk1 _) hA) ⟨rfl, trivial⟩ ?_
  by_cases hs : s = []
  · subst hs
    rw [bufO_nil] at hj
    simp (disch := omega) only [setO_left, getO_setO, getO_setO_ne, getO_L1, getO_L2, setO_L1, setO_L2, cellsOf_def, liveS_def, cellsIn_mem, liveIn_mem, liveIn_emp, hj, go_sem]
    refine ⟨by omega, ⟨by simp, by simp at hl; omega⟩, ?_⟩
    rw [bld_set hne', bufO_if]
    refine fnQ_eff ⟨trivial, trivial, trivial⟩ (by simp only [len_setO]) (bld_low hkl hjl) ⟨rfl, ?_⟩ (VLe.refl _)
    simp
  · rw [bufO_ne hs] at hj
    simp (disch := omega) only [setO_left, getO_setO, getO_setO_ne, getO_L1, getO_L2, setO_L1, setO_L2, cellsOf_def, liveS_def, cellsIn_mem, liveIn_mem, liveIn_emp, hj, bytesA_len, go_sem]
    repeat' first
      | (with_reducible refine And.intro ?_ ?_)
    all_goals first
      | omega
      | (simp [bytesA_len]; done)
      | skip
    rw [bld_set hne', List.take_of_length_le (by simp [bytesA_len]), ← bytesA_app, ← bufO_ne (by simp [hs])]
    exact fnQ_eff ⟨trivial, trivial, trivial⟩ (by simp only [len_setO]) (bld_low hkl hjl) ⟨rfl, rfl⟩ (VLe.refl _)
theorem grown_freeze (w : World) (g n : Nat) : w.grownBy (w.drew.freeze ⟨g, 0, none⟩ n) (some g) := by
  unfold World.freeze
  split
  · exact ⟨rfl, rfl, rfl, Nat.le_refl _, fun _ _ _ => rfl⟩
  · refine ⟨rfl, rfl, rfl, ?_, fun k hk hne => ?_⟩
    · show w.heap.size ≤ (w.heap.modify g _).size
      rw [Array.size_modify]
      exact Nat.le_refl _
    · have : g ≠ k := fun e => hne (by rw [e])
      show (w.heap.modify g _)[k]? = w.heap[k]?
      rw [Array.getElem?_modify, if_neg this]
theorem v52 (kb vb kj v : Nat) (A : AV) (s : List UInt8) (h : List AObj) (hne : kj ≠ kb) (hk : getO kb h = some (.mem vb 100 [A, .osl kj v 1 0 s.length])) (hj : getO kj h = some (bufO v s)) :
    ACalls Tryd.prog 70 [.op kb vb 0] h (.str s) (setO kj h (.emp (v + 1))) := by
  refine ⟨okF1 Tryd.func70 (by kernel_rfl) (by kernel_rfl), fun w σ xs H hv => ?_⟩
  obtain ⟨x, rfl, hx⟩ := hv.one
  have hc := cellsOf_of hk
  obtain ⟨cs, o, b, arr, g1, rfl, g2, g3, g4, g5, g6, g7, g9, g8⟩ := op_live H hx (by rw [hc]; rfl)
  rw [hc] at g1
  cases g1
  have hty := (H.obj kb _ o hk g2).2.1
  rw [hty] at g5
  have g5b := g5
  have g5 := g5.plain (by decide)
  have hsz : 2 ≤ arr.size := g7
  have hc1 : w.cell? ⟨b, 1, none⟩ = some arr[1] := by rw [cell_of g5b]; simp
  have hB := g8 1 _ arr[1] rfl (by simp)
  obtain ⟨oj, j1, j2, j3⟩ := vr_osl hB
  have hobj := H.obj kj _ oj hj j1
  have hkj := getO_lt hj
  by_cases hs : s = []
  · subst hs
    rw [bufO_nil] at hj hobj
    obtain ⟨m1, m2⟩ := hobj
    rcases j3 m1 with ⟨_, _, _, e⟩ | ⟨b', cap, e, _⟩
    · rw [e] at hc1
      refine (callsIn_wide.2 (str_none b w hc1)).mono ?_
      rintro e w' ⟨rfl, rfl⟩
      obtain ⟨u1, u2⟩ := H.update (w' := w.drew) (o' := { oj with blk := none, ver := v + 1 }) (a' := .emp (v + 1)) j1 ⟨rfl, rfl, rfl, Nat.le_refl _, fun _ _ _ => rfl⟩ (by simp only; omega) (by simp only; omega) (by intro b' e; cases e) (fun b' r e hr => ⟨r, hr⟩) (fun _ => ⟨rfl, rfl⟩)
      exact ⟨_, _, rfl, u1, .imm .str, u2⟩
    · rw [m2] at e; cases e
  · rw [bufO_ne hs] at hj hobj
    obtain ⟨m1, m2, bj, arrj, m3, m4, m5, m6, m7, m8⟩ := hobj
    rcases j3 m1 with ⟨e, _⟩ | ⟨b', cap, e1, e2, e3, e4, e5⟩
    · rw [m3] at e; cases e
    · rw [m3] at e1
      cases e1
      rw [e2] at hc1
      rw [m2] at m4
      have m4b := m4
      have m4 := m4.plain (by decide)
      rw [bytesA_len] at m6
      refine (callsIn_wide.2 (str_some b bj cap s arrj w hs hc1 m4 e3 e4 (by omega) (fun j x hx => ?_))).mono ?_
      · have hjl : j < s.length := (List.getElem?_eq_some_iff.1 hx).1
        rw [cell_of m4b]
        have ea : arrj[j]? = some arrj[j] := by simp
        have := m8 j (.int .u8 x.toNat) arrj[j] (by simp [bytesA, hx]) ea
        rw [ea, vr_int this]
      · rintro e w' ⟨rfl, rfl⟩
        have hg : w.grownBy (w.drew.freeze ⟨bj, 0, none⟩ s.length) oj.blk := by
          rw [m3]
          exact grown_freeze w bj s.length
        obtain ⟨u1, u2⟩ := H.update (o' := { oj with blk := none, ver := v + 1 }) (a' := .emp (v + 1)) j1 hg (by simp only; omega) (by simp only; omega) (by intro b' e; cases e)
          (fun b' r e hr => by rw [m3] at e; cases e; rw [m4] at hr; cases hr) (fun _ => ⟨rfl, rfl⟩)
        exact ⟨_, _, rfl, u1, .imm .str, u2⟩
end HY
end

section
open Go Go.Proofs AF HY
namespace LN
set_option maxRecDepth 100000
def itoaS (n : Nat) : List UInt8 := if n < 10 then [UInt8.ofNat (48 + n)] else [UInt8.ofNat (48 + n / 10), UInt8.ofNat (48 + n % 10)]
theorem small_one : ∀ n : Fin 10, (([48, 49, 50, 51, 52, 53, 54, 55, 56, 57, 97, 98, 99, 100, 101, 102, 103, 104, 105, 106, 107, 108, 109, 110, 111, 112, 113, 114, 115, 116, 117, 118, 119, 120, 121, 122] : List UInt8).drop n.val).take (n.val + 1 - n.val) = itoaS n.val := by decide +kernel
def two99 : List UInt8 := (List.range 100).flatMap fun n => [UInt8.ofNat (48 + n / 10), UInt8.ofNat (48 + n % 10)]
theorem small_two : ∀ n : Fin 100, 10 ≤ n.val → ((two99.drop (n.val * 2)).take (n.val * 2 + 2 - n.val * 2)) = itoaS n.val := by decide +kernel
theorem t116s (n : Nat) (h : List AObj) (hn : n < 100) : ACalls Tryd.prog 116 [.int .i64 (n : Int)] h (.str (itoaS n)) h := by
  by_cases g : n < 10
  · have k1 : ((n : Int) < 10) = True := eq_true (by omega)
    have e := small_one ⟨n, g⟩
    simp only at e
    refine acalls_of fn116l (by simp) ?_
    simp only [List.length_cons, List.length_nil, Nat.reduceAdd, Nat.reduceSub, List.replicate, List.cons_append, List.nil_append, List.append_nil]
    simp (disch := omega) only [c116l, k1, go_sem, wrap64_id, Int.tdiv_eq_ediv_of_nonneg, Int.tmod_eq_emod_of_nonneg]
    repeat' first
      | ((first | refine fnQ_pure1 ?_ ?_ | refine fnQ_pure0 ?_ ?_); (next => repeat' first | exact rvs_n | refine rvs_t ?_ | (simp [go_sem]; done)); simp only [go_sem]; (first | exact VLe.refl _ | refine VLe_int ?_ | refine VLe_bool ?_ | refine VLe_str ?_ | skip))
      | (with_reducible refine And.intro ?_ ?_)
      | with_reducible intro _
    all_goals first
      | omega
      | (rename_i hx; revert hx; simp; done)
      | (simp; done)
      | skip
    rw [show ((n : Int) + 1).toNat = n + 1 by omega]
    exact e
  · have k1 : ((n : Int) < 10) = False := eq_false (by omega)
    refine acalls_of fn116l (by simp) ?_
    simp only [List.length_cons, List.length_nil, Nat.reduceAdd, Nat.reduceSub, List.replicate, List.cons_append, List.nil_append, List.append_nil]
    simp (disch := omega) only [c116l, k1, go_sem, wrap64_id, Int.tdiv_eq_ediv_of_nonneg, Int.tmod_eq_emod_of_nonneg]
    repeat' first
      | ((first | refine fnQ_pure1 ?_ ?_ | refine fnQ_pure0 ?_ ?_); (next => repeat' first | exact rvs_n | refine rvs_t ?_ | (simp [go_sem]; done)); simp only [go_sem]; (first | exact VLe.refl _ | refine VLe_int ?_ | refine VLe_bool ?_ | refine VLe_str ?_ | skip))
      | (with_reducible refine And.intro ?_ ?_)
      | with_reducible intro _
    all_goals first
      | omega
      | (rename_i hx; revert hx; simp; done)
      | (simp; done)
      | skip
    rw [show ((n : Int) * 2 + 2).toNat = n * 2 + 2 by omega, show ((n : Int) * 2).toNat = n * 2 by omega]
    have e := small_two ⟨n, hn⟩ (by show 10 ≤ n; omega)
    refine Eq.trans ?_ e
    simp only
    congr 2
theorem t98s (n : Nat) (h : List AObj) (hn : n < 100) : ACalls Tryd.prog 98 [.int .i64 (n : Int), .int .i64 10] h (.str (itoaS n)) h := by
  have c116 := fun h => t116s n h hn
  have k1 : (0 ≤ (n : Int)) = True := eq_true (by omega)
  have k2 : ((n : Int) < 100) = True := eq_true (by omega)
  refine acalls_of fn98l (by simp) ?_
  simp only [List.length_cons, List.length_nil, Nat.reduceAdd, Nat.reduceSub, List.replicate, List.cons_append, List.nil_append, List.append_nil]
  simp (disch := omega) only [c98l, k1, k2, go_sem, wrap64_id, Int.tdiv_eq_ediv_of_nonneg, Int.tmod_eq_emod_of_nonneg]
  repeat' first
    | ((first | refine callA_pure (c116 _) ?_ ?_); (next => repeat' first | exact flags_n | refine flags_c (by first | rfl | assumption) ?_); simp (disch := omega) only [k1, k2, go_sem, wrap64_id, Int.tdiv_eq_ediv_of_nonneg, Int.tmod_eq_emod_of_nonneg])
    | ((first | refine callU_of (fun _ => c116 _) ?_ ?_); (next => repeat' first | exact flags_n | refine flags_c (by first | rfl | assumption) ?_); simp (disch := omega) only [k1, k2, go_sem, wrap64_id, Int.tdiv_eq_ediv_of_nonneg, Int.tmod_eq_emod_of_nonneg])
    | ((first | refine callG_pure (fun e => ⟨?_, c116 _⟩) ?_); (next => repeat' first | exact flags_n | refine flags_c (by first | rfl | assumption) ?_); simp (disch := omega) only [k1, k2, go_sem, wrap64_id, Int.tdiv_eq_ediv_of_nonneg, Int.tmod_eq_emod_of_nonneg])
    | ((first | refine fnQ_pure1 ?_ ?_ | refine fnQ_pure0 ?_ ?_); (next => repeat' first | exact rvs_n | refine rvs_t ?_ | (simp [go_sem]; done)); simp only [go_sem]; (first | exact VLe.refl _ | refine VLe_int ?_ | refine VLe_bool ?_ | refine VLe_str ?_ | skip))
    | (with_reducible refine And.intro ?_ ?_)
    | with_reducible intro _
  all_goals first
    | omega
    | (rename_i hx; revert hx; simp; done)
    | (simp; done)
    | skip
theorem t48s (n : Nat) (h : List AObj) (hn : n < 100) : ACalls Tryd.prog 48 [.int .i64 (n : Int)] h (.str (itoaS n)) h := by
  have c98 := fun h => t98s n h hn
  have c72 : ∀ h, ACalls Tryd.prog 72 [.int .i64 (n : Int)] h (.str (itoaS n)) h := fun h => by
    refine acalls_of fn72l (by simp) ?_
    simp only [List.length_cons, List.length_nil, Nat.reduceAdd, Nat.reduceSub, List.replicate, List.cons_append, List.nil_append, List.append_nil]
    simp (disch := omega) only [c72l, go_sem, wrap64_id, Int.tdiv_eq_ediv_of_nonneg, Int.tmod_eq_emod_of_nonneg]
    repeat' first
      | ((first | refine callA_pure (c98 _) ?_ ?_); (next => repeat' first | exact flags_n | refine flags_c (by first | rfl | assumption) ?_); simp (disch := omega) only [go_sem, wrap64_id, Int.tdiv_eq_ediv_of_nonneg, Int.tmod_eq_emod_of_nonneg])
      | ((first | refine callU_of (fun _ => c98 _) ?_ ?_); (next => repeat' first | exact flags_n | refine flags_c (by first | rfl | assumption) ?_); simp (disch := omega) only [go_sem, wrap64_id, Int.tdiv_eq_ediv_of_nonneg, Int.tmod_eq_emod_of_nonneg])
      | ((first | refine callG_pure (fun e => ⟨?_, c98 _⟩) ?_); (next => repeat' first | exact flags_n | refine flags_c (by first | rfl | assumption) ?_); simp (disch := omega) only [go_sem, wrap64_id, Int.tdiv_eq_ediv_of_nonneg, Int.tmod_eq_emod_of_nonneg])
      | ((first | refine fnQ_pure1 ?_ ?_ | refine fnQ_pure0 ?_ ?_); (next => repeat' first | exact rvs_n | refine rvs_t ?_ | (simp [go_sem]; done)); simp only [go_sem]; (first | exact VLe.refl _ | refine VLe_int ?_ | refine VLe_bool ?_ | refine VLe_str ?_ | skip))
      | (with_reducible refine And.intro ?_ ?_)
      | with_reducible intro _
    all_goals first
      | omega
      | (rename_i hx; revert hx; simp; done)
      | (simp; done)
      | skip
  refine acalls_of fn48l (by simp) ?_
  simp only [List.length_cons, List.length_nil, Nat.reduceAdd, Nat.reduceSub, List.replicate, List.cons_append, List.nil_append, List.append_nil]
  simp (disch := omega) only [c48l, go_sem, wrap64_id, Int.tdiv_eq_ediv_of_nonneg, Int.tmod_eq_emod_of_nonneg]
  repeat' first
    | ((first | refine callA_pure (c72 _) ?_ ?_); (next => repeat' first | exact flags_n | refine flags_c (by first | rfl | assumption) ?_); simp (disch := omega) only [go_sem, wrap64_id, Int.tdiv_eq_ediv_of_nonneg, Int.tmod_eq_emod_of_nonneg])
    | ((first | refine callU_of (fun _ => c72 _) ?_ ?_); (next => repeat' first | exact flags_n | refine flags_c (by first | rfl | assumption) ?_); simp (disch := omega) only [go_sem, wrap64_id, Int.tdiv_eq_ediv_of_nonneg, Int.tmod_eq_emod_of_nonneg])
    | ((first | refine callG_pure (fun e => ⟨?_, c72 _⟩) ?_); (next => repeat' first | exact flags_n | refine flags_c (by first | rfl | assumption) ?_); simp (disch := omega) only [go_sem, wrap64_id, Int.tdiv_eq_ediv_of_nonneg, Int.tmod_eq_emod_of_nonneg])
    | ((first | refine fnQ_pure1 ?_ ?_ | refine fnQ_pure0 ?_ ?_); (next => repeat' first | exact rvs_n | refine rvs_t ?_ | (simp [go_sem]; done)); simp only [go_sem]; (first | exact VLe.refl _ | refine VLe_int ?_ | refine VLe_bool ?_ | refine VLe_str ?_ | skip))
    | (with_reducible refine And.intro ?_ ?_)
    | with_reducible intro _
  all_goals first
    | omega
    | (rename_i hx; revert hx; simp; done)
    | (simp; done)
    | skip
theorem t71c (s : List UInt8) (c : UInt8) (h : List AObj) : ACalls Tryd.prog 71 [.str s, .str [c]] h (.int .i64 (Go.Lib.indexByte s c)) h := by
  refine ⟨okF1 Tryd.func71 (by kernel_rfl) (by kernel_rfl), fun w σ xs H hv => ?_⟩
  obtain ⟨x, y, rfl, hx, hy⟩ := hv.two
  rw [vr_str hx, vr_str hy]
  refine (callsIn_wide.2 (ix1_calls ⟨s.toArray⟩ c w)).mono ?_
  rintro e w' ⟨rfl, rfl⟩
  exact ⟨_, σ, rfl, H, .imm .int, Ext.refl _ _⟩
end LN
end

section
open Go Go.Proofs AF HY
namespace LN
set_option maxRecDepth 100000
theorem index_none (c : UInt8) : ∀ (s : List UInt8), s.count c = 0 → Go.Lib.indexByte s c = -1 := by
  intro s
  induction s with
  | nil => intro _; rfl
  | cons b s ih =>
    intro h
    unfold Go.Lib.indexByte
    rw [List.count_cons] at h
    by_cases e : b = c
    · subst e
      simp at h
    · rw [if_neg (by simpa using e), ih (by omega)]
      rfl
theorem t73c (s : List UInt8) (c : UInt8) (h : List AObj) (hl : s.length ≤ 1000000000) : ACalls Tryd.prog 73 [.str s, .str [c]] h (.tup (if 0 < s.count c then [.str (s.take (cutAt c s)), .str (s.drop (cutAt c s + 1)), .bool true] else [.str s, .str [], .bool false])) h := by
  have c71 := fun h => t71c s c h
  by_cases g : 0 < s.count c
  · rw [if_pos g]
    have hlt := cutAt_lt c s g
    rw [index_cut c s g] at c71
    obtain ⟨k, hk⟩ : ∃ k, k = cutAt c s := ⟨_, rfl⟩
    rw [← hk] at c71 hlt ⊢
    have k1 : (0 ≤ (k : Int)) = True := eq_true (by omega)
    have k2 : ((k : Int) + 1 ≤ s.length) = True := eq_true (by omega)
    have k3 : ((k : Int) ≤ s.length) = True := eq_true (by omega)
    have k4 : (0 ≤ (k : Int) + 1) = True := eq_true (by omega)
    refine acalls_of fn73l (by simp) ?_
    simp only [List.length_cons, List.length_nil, Nat.reduceAdd, Nat.reduceSub, List.replicate, List.cons_append, List.nil_append, List.append_nil]
    simp (disch := omega) only [c73l, k1, k2, k3, k4, go_sem, wrap64_id, Int.tdiv_eq_ediv_of_nonneg, Int.tmod_eq_emod_of_nonneg]
    repeat' first
      | ((first | refine callA_pure (c71 _) ?_ ?_); (next => repeat' first | exact flags_n | refine flags_c (by first | rfl | assumption) ?_); simp (disch := omega) only [k1, k2, k3, k4, go_sem, wrap64_id, Int.tdiv_eq_ediv_of_nonneg, Int.tmod_eq_emod_of_nonneg])
      | ((first | refine callU_of (fun _ => c71 _) ?_ ?_); (next => repeat' first | exact flags_n | refine flags_c (by first | rfl | assumption) ?_); simp (disch := omega) only [k1, k2, k3, k4, go_sem, wrap64_id, Int.tdiv_eq_ediv_of_nonneg, Int.tmod_eq_emod_of_nonneg])
      | ((first | refine callG_pure (fun e => ⟨?_, c71 _⟩) ?_); (next => repeat' first | exact flags_n | refine flags_c (by first | rfl | assumption) ?_); simp (disch := omega) only [k1, k2, k3, k4, go_sem, wrap64_id, Int.tdiv_eq_ediv_of_nonneg, Int.tmod_eq_emod_of_nonneg])
      | ((first | refine fnQ_pure1 ?_ ?_ | refine fnQ_pure0 ?_ ?_); (next => repeat' first | exact rvs_n | refine rvs_t ?_ | (simp [go_sem]; done)); simp only [go_sem]; (first | exact VLe.refl _ | refine VLe_int ?_ | refine VLe_bool ?_ | refine VLe_str ?_ | skip))
      | (with_reducible refine And.intro ?_ ?_)
      | with_reducible intro _
    all_goals first
      | omega
      | (rename_i hx; revert hx; simp; done)
      | (simp; done)
      | skip
    rw [Nat.sub_zero, show ((k : Int) + ((1 : Nat) : Int)).toNat = k + 1 by omega, List.take_of_length_le (l := s.drop (k + 1)) (by simp)]
    exact VLe.refl _
  · rw [if_neg g]
    rw [index_none c s (by omega)] at c71
    refine acalls_of fn73l (by simp) ?_
    simp only [List.length_cons, List.length_nil, Nat.reduceAdd, Nat.reduceSub, List.replicate, List.cons_append, List.nil_append, List.append_nil]
    simp (disch := omega) only [c73l, go_sem, wrap64_id, Int.tdiv_eq_ediv_of_nonneg, Int.tmod_eq_emod_of_nonneg]
    repeat' first
      | ((first | refine callA_pure (c71 _) ?_ ?_); (next => repeat' first | exact flags_n | refine flags_c (by first | rfl | assumption) ?_); simp (disch := omega) only [go_sem, wrap64_id, Int.tdiv_eq_ediv_of_nonneg, Int.tmod_eq_emod_of_nonneg])
      | ((first | refine callU_of (fun _ => c71 _) ?_ ?_); (next => repeat' first | exact flags_n | refine flags_c (by first | rfl | assumption) ?_); simp (disch := omega) only [go_sem, wrap64_id, Int.tdiv_eq_ediv_of_nonneg, Int.tmod_eq_emod_of_nonneg])
      | ((first | refine callG_pure (fun e => ⟨?_, c71 _⟩) ?_); (next => repeat' first | exact flags_n | refine flags_c (by first | rfl | assumption) ?_); simp (disch := omega) only [go_sem, wrap64_id, Int.tdiv_eq_ediv_of_nonneg, Int.tmod_eq_emod_of_nonneg])
      | ((first | refine fnQ_pure1 ?_ ?_ | refine fnQ_pure0 ?_ ?_); (next => repeat' first | exact rvs_n | refine rvs_t ?_ | (simp [go_sem]; done)); simp only [go_sem]; (first | exact VLe.refl _ | refine VLe_int ?_ | refine VLe_bool ?_ | refine VLe_str ?_ | skip))
      | (with_reducible refine And.intro ?_ ?_)
      | with_reducible intro _
    all_goals first
      | omega
      | (rename_i hx; revert hx; simp; done)
      | (simp; done)
      | skip
theorem t49c (s : List UInt8) (c : UInt8) (h : List AObj) (hl : s.length ≤ 1000000000) : ACalls Tryd.prog 49 [.str s, .str [c]] h (.tup (if 0 < s.count c then [.str (s.take (cutAt c s)), .str (s.drop (cutAt c s + 1)), .bool true] else [.str s, .str [], .bool false])) h := by
  have c73 := fun h => t73c s c h hl
  by_cases g : 0 < s.count c
  · rw [if_pos g] at c73 ⊢
    refine acalls_of fn49l (by simp) ?_
    simp only [List.length_cons, List.length_nil, Nat.reduceAdd, Nat.reduceSub, List.replicate, List.cons_append, List.nil_append, List.append_nil]
    simp (disch := omega) only [c49l, go_sem, wrap64_id, Int.tdiv_eq_ediv_of_nonneg, Int.tmod_eq_emod_of_nonneg]
    repeat' first
      | ((first | refine callA_pure (c73 _) ?_ ?_); (next => repeat' first | exact flags_n | refine flags_c (by first | rfl | assumption) ?_); simp (disch := omega) only [go_sem, wrap64_id, Int.tdiv_eq_ediv_of_nonneg, Int.tmod_eq_emod_of_nonneg])
      | ((first | refine callU_of (fun _ => c73 _) ?_ ?_); (next => repeat' first | exact flags_n | refine flags_c (by first | rfl | assumption) ?_); simp (disch := omega) only [go_sem, wrap64_id, Int.tdiv_eq_ediv_of_nonneg, Int.tmod_eq_emod_of_nonneg])
      | ((first | refine callG_pure (fun e => ⟨?_, c73 _⟩) ?_); (next => repeat' first | exact flags_n | refine flags_c (by first | rfl | assumption) ?_); simp (disch := omega) only [go_sem, wrap64_id, Int.tdiv_eq_ediv_of_nonneg, Int.tmod_eq_emod_of_nonneg])
      | ((first | refine fnQ_pure1 ?_ ?_ | refine fnQ_pure0 ?_ ?_); (next => repeat' first | exact rvs_n | refine rvs_t ?_ | (simp [go_sem]; done)); simp only [go_sem]; (first | exact VLe.refl _ | refine VLe_int ?_ | refine VLe_bool ?_ | refine VLe_str ?_ | skip))
      | (with_reducible refine And.intro ?_ ?_)
      | with_reducible intro _
    all_goals first
      | omega
      | (rename_i hx; revert hx; simp; done)
      | (simp; done)
      | skip
  · rw [if_neg g] at c73 ⊢
    refine acalls_of fn49l (by simp) ?_
    simp only [List.length_cons, List.length_nil, Nat.reduceAdd, Nat.reduceSub, List.replicate, List.cons_append, List.nil_append, List.append_nil]
    simp (disch := omega) only [c49l, go_sem, wrap64_id, Int.tdiv_eq_ediv_of_nonneg, Int.tmod_eq_emod_of_nonneg]
    repeat' first
      | ((first | refine callA_pure (c73 _) ?_ ?_); (next => repeat' first | exact flags_n | refine flags_c (by first | rfl | assumption) ?_); simp (disch := omega) only [go_sem, wrap64_id, Int.tdiv_eq_ediv_of_nonneg, Int.tmod_eq_emod_of_nonneg])
      | ((first | refine callU_of (fun _ => c73 _) ?_ ?_); (next => repeat' first | exact flags_n | refine flags_c (by first | rfl | assumption) ?_); simp (disch := omega) only [go_sem, wrap64_id, Int.tdiv_eq_ediv_of_nonneg, Int.tmod_eq_emod_of_nonneg])
      | ((first | refine callG_pure (fun e => ⟨?_, c73 _⟩) ?_); (next => repeat' first | exact flags_n | refine flags_c (by first | rfl | assumption) ?_); simp (disch := omega) only [go_sem, wrap64_id, Int.tdiv_eq_ediv_of_nonneg, Int.tmod_eq_emod_of_nonneg])
      | ((first | refine fnQ_pure1 ?_ ?_ | refine fnQ_pure0 ?_ ?_); (next => repeat' first | exact rvs_n | refine rvs_t ?_ | (simp [go_sem]; done)); simp only [go_sem]; (first | exact VLe.refl _ | refine VLe_int ?_ | refine VLe_bool ?_ | refine VLe_str ?_ | skip))
      | (with_reducible refine And.intro ?_ ?_)
      | with_reducible intro _
    all_goals first
      | omega
      | (rename_i hx; revert hx; simp; done)
      | (simp; done)
      | skip
def ld (c : UInt8) : Bool := decide (kind c = 1) || decide (kind c = 3)
theorem t66 (s : List UInt8) (h : List AObj) (hs : s.length ≤ 1000000000) : ACalls Tryd.prog 66 [.str s] h (.int .i64 ((s.countP ld : Nat) : Int)) h := by
  refine acalls_of fn66l (by simp) ?_
  simp only [List.length_cons, List.length_nil, Nat.reduceAdd, Nat.reduceSub, List.replicate, List.cons_append, List.nil_append, List.append_nil]
  simp (disch := omega) only [c66l, go_sem, wrap64_id, Int.tdiv_eq_ediv_of_nonneg, Int.tmod_eq_emod_of_nonneg]
  repeat' first
    | ((first | refine fnQ_pure1 ?_ ?_ | refine fnQ_pure0 ?_ ?_); (next => repeat' first | exact rvs_n | refine rvs_t ?_ | (simp [go_sem]; done)); simp only [go_sem]; (first | exact VLe.refl _ | refine VLe_int ?_ | refine VLe_bool ?_ | refine VLe_str ?_ | skip))
    | (with_reducible refine And.intro ?_ ?_)
    | with_reducible intro _
  all_goals first
    | omega
    | (rename_i hx; revert hx; simp; done)
    | (simp; done)
    | skip
  refine loop_of (T := fun i : Nat => spar 25 [(0, .str s), (3, .int .i64 (((s.take i).countP ld : Nat) : Int)), (7, .int .i64 s.length), (8, .int .i64 i)]) (H := fun _ => h) (inv := fun i => i ≤ s.length) (m := fun i => s.length - i) 0 (by omega) (Wk.temps ?_) ?_
  · (simp only [spar, List.foldl, List.replicate, go_sem, VLes_nil, VLes_cons, VLe_undef_iff, VLe_self]; try (repeat' first | (with_reducible refine And.intro ?_ ?_) | (refine VLe_int ?_; omega) | (refine VLe_bool ?_; rfl) | exact VLe.refl _))
  · rintro i i1 K hK
    by_cases hi : i < s.length
    · obtain ⟨c, hc⟩ : ∃ c, c = s.getD i 0 := ⟨_, rfl⟩
      have e1 : (s[i]?).getD 0 = c := by rw [hc, List.getD_eq_getElem?_getD]
      have e2 : s.take (i + 1) = s.take i ++ [c] := by rw [List.take_add_one, hc, List.getD_eq_getElem?_getD, List.getElem?_eq_getElem hi]; rfl
      have hb := c.toNat_lt
      have c92 := fun h => t103 (c.toNat : Int) h (by omega) (by omega)
      have hn : (s.take i).countP ld ≤ s.length := Nat.le_trans List.countP_le_length (by simp; omega)
      obtain ⟨n, hN⟩ : ∃ n, n = (s.take i).countP ld := ⟨_, rfl⟩
      rw [← hN] at hn ⊢
      obtain ⟨k, hk⟩ : ∃ k, k = kindI (c.toNat : Int) := ⟨_, rfl⟩
      have hk' : k = kind c := hk
      rw [← hk] at c92
      have e3 : (s.take (i + 1)).countP ld = n + if ld c = true then 1 else 0 := by
        rw [e2, List.countP_append, ← hN]
        simp [List.countP_cons]
      by_cases g1 : k = 1
      · have k1 : (k = 1) = True := eq_true g1
        have g : ld c = true := by unfold ld; rw [← hk', g1]; rfl
        rw [if_pos g] at e3
        simp (disch := omega) only [spar, List.foldl, List.replicate, e1, k1, go_sem, wrap64_id, Int.tdiv_eq_ediv_of_nonneg, Int.tmod_eq_emod_of_nonneg]
        repeat' first
          | ((first | refine callA_pure (c92 _) ?_ ?_); (next => repeat' first | exact flags_n | refine flags_c (by first | rfl | assumption) ?_); simp (disch := omega) only [e1, k1, go_sem, wrap64_id, Int.tdiv_eq_ediv_of_nonneg, Int.tmod_eq_emod_of_nonneg])
          | ((first | refine callU_of (fun _ => c92 _) ?_ ?_); (next => repeat' first | exact flags_n | refine flags_c (by first | rfl | assumption) ?_); simp (disch := omega) only [e1, k1, go_sem, wrap64_id, Int.tdiv_eq_ediv_of_nonneg, Int.tmod_eq_emod_of_nonneg])
          | ((first | refine callG_pure (fun e => ⟨?_, c92 _⟩) ?_); (next => repeat' first | exact flags_n | refine flags_c (by first | rfl | assumption) ?_); simp (disch := omega) only [e1, k1, go_sem, wrap64_id, Int.tdiv_eq_ediv_of_nonneg, Int.tmod_eq_emod_of_nonneg])
          | ((first | refine fnQ_pure1 ?_ ?_ | refine fnQ_pure0 ?_ ?_); (next => repeat' first | exact rvs_n | refine rvs_t ?_ | (simp [go_sem]; done)); simp only [go_sem]; (first | exact VLe.refl _ | refine VLe_int ?_ | refine VLe_bool ?_ | refine VLe_str ?_ | skip))
          | (with_reducible refine And.intro ?_ ?_)
          | with_reducible intro _
        all_goals first
          | omega
          | (rename_i hx; revert hx; simp; done)
          | (simp; done)
          | skip
        refine hK _ _ (i + 1) (by omega) (by omega) (Wk.temps ?_)
        rw [e3]
        (simp only [spar, List.foldl, List.replicate, go_sem, VLes_nil, VLes_cons, VLe_undef_iff, VLe_self]; try (repeat' first | (with_reducible refine And.intro ?_ ?_) | (refine VLe_int ?_; omega) | (refine VLe_bool ?_; rfl) | exact VLe.refl _))
      · have k1 : (k = 1) = False := eq_false g1
        by_cases g2 : k = 3
        · have k2 : (k = 3) = True := eq_true g2
          have g : ld c = true := by unfold ld; rw [← hk', g2]; rfl
          rw [if_pos g] at e3
          simp (disch := omega) only [spar, List.foldl, List.replicate, e1, k1, k2, go_sem, wrap64_id, Int.tdiv_eq_ediv_of_nonneg, Int.tmod_eq_emod_of_nonneg]
          repeat' first
            | ((first | refine callA_pure (c92 _) ?_ ?_); (next => repeat' first | exact flags_n | refine flags_c (by first | rfl | assumption) ?_); simp (disch := omega) only [e1, k1, k2, go_sem, wrap64_id, Int.tdiv_eq_ediv_of_nonneg, Int.tmod_eq_emod_of_nonneg])
            | ((first | refine callU_of (fun _ => c92 _) ?_ ?_); (next => repeat' first | exact flags_n | refine flags_c (by first | rfl | assumption) ?_); simp (disch := omega) only [e1, k1, k2, go_sem, wrap64_id, Int.tdiv_eq_ediv_of_nonneg, Int.tmod_eq_emod_of_nonneg])
            | ((first | refine callG_pure (fun e => ⟨?_, c92 _⟩) ?_); (next => repeat' first | exact flags_n | refine flags_c (by first | rfl | assumption) ?_); simp (disch := omega) only [e1, k1, k2, go_sem, wrap64_id, Int.tdiv_eq_ediv_of_nonneg, Int.tmod_eq_emod_of_nonneg])
            | ((first | refine fnQ_pure1 ?_ ?_ | refine fnQ_pure0 ?_ ?_); (next => repeat' first | exact rvs_n | refine rvs_t ?_ | (simp [go_sem]; done)); simp only [go_sem]; (first | exact VLe.refl _ | refine VLe_int ?_ | refine VLe_bool ?_ | refine VLe_str ?_ | skip))
            | (with_reducible refine And.intro ?_ ?_)
            | with_reducible intro _
          all_goals first
            | omega
            | (rename_i hx; revert hx; simp; done)
            | (simp; done)
            | skip
          refine hK _ _ (i + 1) (by omega) (by omega) (Wk.temps ?_)
          rw [e3]
          (simp only [spar, List.foldl, List.replicate, go_sem, VLes_nil, VLes_cons, VLe_undef_iff, VLe_self]; try (repeat' first | (with_reducible refine And.intro ?_ ?_) | (refine VLe_int ?_; omega) | (refine VLe_bool ?_; rfl) | exact VLe.refl _))
        · have k2 : (k = 3) = False := eq_false g2
          have g : ¬ ld c = true := by unfold ld; rw [← hk', decide_eq_false g1, decide_eq_false g2]; simp
          rw [if_neg g] at e3
          simp (disch := omega) only [spar, List.foldl, List.replicate, e1, k1, k2, go_sem, wrap64_id, Int.tdiv_eq_ediv_of_nonneg, Int.tmod_eq_emod_of_nonneg]
          repeat' first
            | ((first | refine callA_pure (c92 _) ?_ ?_); (next => repeat' first | exact flags_n | refine flags_c (by first | rfl | assumption) ?_); simp (disch := omega) only [e1, k1, k2, go_sem, wrap64_id, Int.tdiv_eq_ediv_of_nonneg, Int.tmod_eq_emod_of_nonneg])
            | ((first | refine callU_of (fun _ => c92 _) ?_ ?_); (next => repeat' first | exact flags_n | refine flags_c (by first | rfl | assumption) ?_); simp (disch := omega) only [e1, k1, k2, go_sem, wrap64_id, Int.tdiv_eq_ediv_of_nonneg, Int.tmod_eq_emod_of_nonneg])
            | ((first | refine callG_pure (fun e => ⟨?_, c92 _⟩) ?_); (next => repeat' first | exact flags_n | refine flags_c (by first | rfl | assumption) ?_); simp (disch := omega) only [e1, k1, k2, go_sem, wrap64_id, Int.tdiv_eq_ediv_of_nonneg, Int.tmod_eq_emod_of_nonneg])
            | ((first | refine fnQ_pure1 ?_ ?_ | refine fnQ_pure0 ?_ ?_); (next => repeat' first | exact rvs_n | refine rvs_t ?_ | (simp [go_sem]; done)); simp only [go_sem]; (first | exact VLe.refl _ | refine VLe_int ?_ | refine VLe_bool ?_ | refine VLe_str ?_ | skip))
            | (with_reducible refine And.intro ?_ ?_)
            | with_reducible intro _
          all_goals first
            | omega
            | (rename_i hx; revert hx; simp; done)
            | (simp; done)
            | skip
          refine hK _ _ (i + 1) (by omega) (by omega) (Wk.temps ?_)
          rw [e3, Nat.add_zero]
          (simp only [spar, List.foldl, List.replicate, go_sem, VLes_nil, VLes_cons, VLe_undef_iff, VLe_self]; try (repeat' first | (with_reducible refine And.intro ?_ ?_) | (refine VLe_int ?_; omega) | (refine VLe_bool ?_; rfl) | exact VLe.refl _))
    · have e : i = s.length := by omega
      subst e
      rw [List.take_length]
      simp (disch := omega) only [spar, List.foldl, List.replicate, go_sem, wrap64_id, Int.tdiv_eq_ediv_of_nonneg, Int.tmod_eq_emod_of_nonneg]
      repeat' first
        | ((first | refine fnQ_pure1 ?_ ?_ | refine fnQ_pure0 ?_ ?_); (next => repeat' first | exact rvs_n | refine rvs_t ?_ | (simp [go_sem]; done)); simp only [go_sem]; (first | exact VLe.refl _ | refine VLe_int ?_ | refine VLe_bool ?_ | refine VLe_str ?_ | skip))
        | (with_reducible refine And.intro ?_ ?_)
        | with_reducible intro _
      all_goals first
        | omega
        | (rename_i hx; revert hx; simp; done)
        | (simp; done)
        | skip
end LN
end

section
open Go Go.Proofs AF HY
namespace LN
set_option maxRecDepth 100000
theorem one_unit {s : List UInt8} {i : Nat} (hi : i < s.length) : (s.drop i).take (i + 1 - i) = [s.getD i 0] := by
  rw [show i + 1 - i = 1 by omega, List.drop_eq_getElem_cons hi, List.getD_eq_getElem?_getD, List.getElem?_eq_getElem hi]
  rfl
theorem tw_step {s : List UInt8} {p : UInt8 → Bool} {i : Nat} (hi : i < s.length) (h1 : i ≤ (s.takeWhile p).length) : (p (s.getD i 0) = true ↔ i + 1 ≤ (s.takeWhile p).length) := by
  induction s generalizing i with
  | nil => simp at hi
  | cons c s ih =>
    rw [List.takeWhile_cons] at h1 ⊢
    cases i with
    | zero =>
      rw [List.getD_cons_zero]
      cases hp : p c <;> simp
    | succ i =>
      rw [List.getD_cons_succ]
      cases hp : p c with
      | false => rw [hp] at h1; simp at h1
      | true =>
        rw [hp] at h1
        simp at h1 hi ⊢
        exact ih hi h1
theorem tw_take {s : List UInt8} {p : UInt8 → Bool} : s.take (s.takeWhile p).length = s.takeWhile p := by
  induction s with
  | nil => rfl
  | cons c s ih =>
    rw [List.takeWhile_cons]
    cases hp : p c with
    | false => simp
    | true => simp [ih]
theorem tw_len {s : List UInt8} {p : UInt8 → Bool} : (s.takeWhile p).length ≤ s.length := (List.takeWhile_sublist p).length_le
set_option maxHeartbeats 1000000 in
theorem t68 (s : List UInt8) (h : List AObj) (hs : s.length ≤ 1000000000) : ACalls Tryd.prog 68 [.str s] h (.str (s.takeWhile ld)) h := by
  have hl := tw_len (s := s) (p := ld)
  refine acalls_of fn68l (by simp) ?_
  simp only [List.length_cons, List.length_nil, Nat.reduceAdd, Nat.reduceSub, List.replicate, List.cons_append, List.nil_append, List.append_nil]
  simp (disch := omega) only [c68l, go_sem, wrap64_id, Int.tdiv_eq_ediv_of_nonneg, Int.tmod_eq_emod_of_nonneg]
  repeat' first
    | ((first | refine fnQ_pure1 ?_ ?_ | refine fnQ_pure0 ?_ ?_); (next => repeat' first | exact rvs_n | refine rvs_t ?_ | (simp [go_sem]; done)); simp only [go_sem]; (first | exact VLe.refl _ | refine VLe_int ?_ | refine VLe_bool ?_ | refine VLe_str ?_ | skip))
    | (with_reducible refine And.intro ?_ ?_)
    | with_reducible intro _
  all_goals first
    | omega
    | (rename_i hx; revert hx; simp; done)
    | (simp; done)
    | skip
  refine loop_of (T := fun i : Nat => spar 22 [(0, .str s), (3, .int .i64 i)]) (H := fun _ => h) (inv := fun i => i ≤ (s.takeWhile ld).length) (m := fun i => s.length - i) 0 (by omega) (Wk.temps ?_) ?_
  · (simp only [spar, List.foldl, List.replicate, go_sem, VLes_nil, VLes_cons, VLe_undef_iff, VLe_self]; try (repeat' first | (with_reducible refine And.intro ?_ ?_) | (refine VLe_int ?_; omega) | (refine VLe_bool ?_; rfl) | exact VLe.refl _))
  · rintro i i1 K hK
    by_cases hi : i < s.length
    · have k0 : ((i : Int) < s.length) = True := eq_true (by omega)
      have k1 : (0 ≤ (i : Int)) = True := eq_true (by omega)
      have k2 : ((i : Int) ≤ (i : Int) + 1) = True := eq_true (by omega)
      have k3 : ((i : Int) + 1 ≤ s.length) = True := eq_true (by omega)
      have hst := tw_step (p := ld) hi i1
      have c66 := fun h => t66 [s.getD i 0] h (by simp)
      rw [← one_unit hi, show i + 1 - i = ((i : Int) + 1).toNat - i by omega] at c66
      have hco : (((s.drop i).take (((i : Int) + 1).toNat - i)).countP ld) = if ld (s.getD i 0) = true then 1 else 0 := by
        rw [show ((i : Int) + 1).toNat - i = i + 1 - i by omega, one_unit hi]
        simp [List.countP_cons]
      cases hp : ld (s.getD i 0) with
      | true =>
        rw [hco, hp, if_pos rfl] at c66
        rw [hp] at hst
        simp (disch := omega) only [spar, List.foldl, List.replicate, k0, k1, k2, k3, go_sem, wrap64_id, Int.tdiv_eq_ediv_of_nonneg, Int.tmod_eq_emod_of_nonneg]
        repeat' first
          | ((first | refine callA_pure (c66 _) ?_ ?_); (next => repeat' first | exact flags_n | refine flags_c (by first | rfl | assumption) ?_); simp (disch := omega) only [k0, k1, k2, k3, go_sem, wrap64_id, Int.tdiv_eq_ediv_of_nonneg, Int.tmod_eq_emod_of_nonneg])
          | ((first | refine callU_of (fun _ => c66 _) ?_ ?_); (next => repeat' first | exact flags_n | refine flags_c (by first | rfl | assumption) ?_); simp (disch := omega) only [k0, k1, k2, k3, go_sem, wrap64_id, Int.tdiv_eq_ediv_of_nonneg, Int.tmod_eq_emod_of_nonneg])
          | ((first | refine callG_pure (fun e => ⟨?_, c66 _⟩) ?_); (next => repeat' first | exact flags_n | refine flags_c (by first | rfl | assumption) ?_); simp (disch := omega) only [k0, k1, k2, k3, go_sem, wrap64_id, Int.tdiv_eq_ediv_of_nonneg, Int.tmod_eq_emod_of_nonneg])
          | ((first | refine fnQ_pure1 ?_ ?_ | refine fnQ_pure0 ?_ ?_); (next => repeat' first | exact rvs_n | refine rvs_t ?_ | (simp [go_sem]; done)); simp only [go_sem]; (first | exact VLe.refl _ | refine VLe_int ?_ | refine VLe_bool ?_ | refine VLe_str ?_ | skip))
          | (with_reducible refine And.intro ?_ ?_)
          | with_reducible intro _
        all_goals first
          | omega
          | (rename_i hx; revert hx; simp; done)
          | (simp; done)
          | skip
        refine hK _ _ (i + 1) (hst.1 rfl) (by omega) (Wk.temps ?_)
        (simp only [spar, List.foldl, List.replicate, go_sem, VLes_nil, VLes_cons, VLe_undef_iff, VLe_self]; try (repeat' first | (with_reducible refine And.intro ?_ ?_) | (refine VLe_int ?_; omega) | (refine VLe_bool ?_; rfl) | exact VLe.refl _))
      | false =>
        rw [hco, hp, if_neg (by simp)] at c66
        rw [hp] at hst
        have e : i = (s.takeWhile ld).length := by
          have : ¬ i + 1 ≤ (s.takeWhile ld).length := fun hc => by cases hst.2 hc
          omega
        have k4 : ((i : Int) ≤ s.length) = True := eq_true (by omega)
        simp (disch := omega) only [spar, List.foldl, List.replicate, k0, k1, k2, k3, k4, go_sem, wrap64_id, Int.tdiv_eq_ediv_of_nonneg, Int.tmod_eq_emod_of_nonneg]
        repeat' first
          | ((first | refine callA_pure (c66 _) ?_ ?_); (next => repeat' first | exact flags_n | refine flags_c (by first | rfl | assumption) ?_); simp (disch := omega) only [k0, k1, k2, k3, k4, go_sem, wrap64_id, Int.tdiv_eq_ediv_of_nonneg, Int.tmod_eq_emod_of_nonneg])
          | ((first | refine callU_of (fun _ => c66 _) ?_ ?_); (next => repeat' first | exact flags_n | refine flags_c (by first | rfl | assumption) ?_); simp (disch := omega) only [k0, k1, k2, k3, k4, go_sem, wrap64_id, Int.tdiv_eq_ediv_of_nonneg, Int.tmod_eq_emod_of_nonneg])
          | ((first | refine callG_pure (fun e => ⟨?_, c66 _⟩) ?_); (next => repeat' first | exact flags_n | refine flags_c (by first | rfl | assumption) ?_); simp (disch := omega) only [k0, k1, k2, k3, k4, go_sem, wrap64_id, Int.tdiv_eq_ediv_of_nonneg, Int.tmod_eq_emod_of_nonneg])
          | ((first | refine fnQ_pure1 ?_ ?_ | refine fnQ_pure0 ?_ ?_); (next => repeat' first | exact rvs_n | refine rvs_t ?_ | (simp [go_sem]; done)); simp only [go_sem]; (first | exact VLe.refl _ | refine VLe_int ?_ | refine VLe_bool ?_ | refine VLe_str ?_ | skip))
          | (with_reducible refine And.intro ?_ ?_)
          | with_reducible intro _
        all_goals first
          | omega
          | (rename_i hx; revert hx; simp; done)
          | (simp; done)
          | skip
        all_goals (rw [Nat.sub_zero, e, tw_take])
    · have e : i = s.length := by omega
      have e2 : (s.takeWhile ld).length = i := by omega
      have k0 : ((i : Int) < s.length) = False := eq_false (by omega)
      have k4 : ((i : Int) ≤ s.length) = True := eq_true (by omega)
      have k1 : (0 ≤ (i : Int)) = True := eq_true (by omega)
      simp (disch := omega) only [spar, List.foldl, List.replicate, k0, k1, k4, go_sem, wrap64_id, Int.tdiv_eq_ediv_of_nonneg, Int.tmod_eq_emod_of_nonneg]
      repeat' first
        | (refine callG_false ((.str [])) ?_; simp (disch := omega) only [k0, k1, k4, go_sem, wrap64_id, Int.tdiv_eq_ediv_of_nonneg, Int.tmod_eq_emod_of_nonneg])
        | (refine callG_false ((.int .i64 0)) ?_; simp (disch := omega) only [k0, k1, k4, go_sem, wrap64_id, Int.tdiv_eq_ediv_of_nonneg, Int.tmod_eq_emod_of_nonneg])
        | ((first | refine fnQ_pure1 ?_ ?_ | refine fnQ_pure0 ?_ ?_); (next => repeat' first | exact rvs_n | refine rvs_t ?_ | (simp [go_sem]; done)); simp only [go_sem]; (first | exact VLe.refl _ | refine VLe_int ?_ | refine VLe_bool ?_ | refine VLe_str ?_ | skip))
        | (with_reducible refine And.intro ?_ ?_)
        | with_reducible intro _
      all_goals first
        | omega
        | (rename_i hx; revert hx; simp; done)
        | (simp; done)
        | skip
      all_goals (rw [Nat.sub_zero, ← e2, tw_take])
def isName (s : List UInt8) : Bool := decide (s ≠ []) && (decide (s.length ≤ 16) && decide (s.countP ld = s.length))
theorem t44 (s : List UInt8) (h : List AObj) (hs : s.length ≤ 1000000000) : ACalls Tryd.prog 44 [.str s] h (.bool (isName s)) h := by
  have c66 := fun h => t66 s h hs
  unfold isName
  by_cases g1 : s = []
  · have k1 : (s = []) = True := eq_true g1
    rw [decide_eq_false (show ¬ s ≠ [] from fun hc => hc g1)]
    refine acalls_of fn44l (by simp) ?_
    simp only [List.length_cons, List.length_nil, Nat.reduceAdd, Nat.reduceSub, List.replicate, List.cons_append, List.nil_append, List.append_nil]
    simp (disch := omega) only [c44l, k1, go_sem, wrap64_id, Int.tdiv_eq_ediv_of_nonneg, Int.tmod_eq_emod_of_nonneg]
    repeat' first
      | (refine callG_false ((.int .i64 0)) ?_; simp (disch := omega) only [k1, go_sem, wrap64_id, Int.tdiv_eq_ediv_of_nonneg, Int.tmod_eq_emod_of_nonneg])
      | ((first | refine fnQ_pure1 ?_ ?_ | refine fnQ_pure0 ?_ ?_); (next => repeat' first | exact rvs_n | refine rvs_t ?_ | (simp [go_sem]; done)); simp only [go_sem]; (first | exact VLe.refl _ | refine VLe_int ?_ | refine VLe_bool ?_ | refine VLe_str ?_ | skip))
      | (with_reducible refine And.intro ?_ ?_)
      | with_reducible intro _
    all_goals first
      | omega
      | (rename_i hx; revert hx; simp; done)
      | (simp; done)
      | skip
  · have k1 : (s = []) = False := eq_false g1
    rw [decide_eq_true (show s ≠ [] from g1)]
    by_cases g2 : s.length ≤ 16
    · have k2 : ((s.length : Int) ≤ 16) = True := eq_true (by omega)
      rw [decide_eq_true g2]
      by_cases g3 : s.countP ld = s.length
      · have k3 : (((s.countP ld : Nat) : Int) = s.length) = True := eq_true (by omega)
        rw [decide_eq_true g3]
        refine acalls_of fn44l (by simp) ?_
        simp only [List.length_cons, List.length_nil, Nat.reduceAdd, Nat.reduceSub, List.replicate, List.cons_append, List.nil_append, List.append_nil]
        simp (disch := omega) only [c44l, k1, k2, k3, go_sem, wrap64_id, Int.tdiv_eq_ediv_of_nonneg, Int.tmod_eq_emod_of_nonneg]
        repeat' first
          | ((first | refine callA_pure (c66 _) ?_ ?_); (next => repeat' first | exact flags_n | refine flags_c (by first | rfl | assumption) ?_); simp (disch := omega) only [k1, k2, k3, go_sem, wrap64_id, Int.tdiv_eq_ediv_of_nonneg, Int.tmod_eq_emod_of_nonneg])
          | ((first | refine callU_of (fun _ => c66 _) ?_ ?_); (next => repeat' first | exact flags_n | refine flags_c (by first | rfl | assumption) ?_); simp (disch := omega) only [k1, k2, k3, go_sem, wrap64_id, Int.tdiv_eq_ediv_of_nonneg, Int.tmod_eq_emod_of_nonneg])
          | ((first | refine callG_pure (fun e => ⟨?_, c66 _⟩) ?_); (next => repeat' first | exact flags_n | refine flags_c (by first | rfl | assumption) ?_); simp (disch := omega) only [k1, k2, k3, go_sem, wrap64_id, Int.tdiv_eq_ediv_of_nonneg, Int.tmod_eq_emod_of_nonneg])
          | ((first | refine fnQ_pure1 ?_ ?_ | refine fnQ_pure0 ?_ ?_); (next => repeat' first | exact rvs_n | refine rvs_t ?_ | (simp [go_sem]; done)); simp only [go_sem]; (first | exact VLe.refl _ | refine VLe_int ?_ | refine VLe_bool ?_ | refine VLe_str ?_ | skip))
          | (with_reducible refine And.intro ?_ ?_)
          | with_reducible intro _
        all_goals first
          | omega
          | (rename_i hx; revert hx; simp; done)
          | (simp; done)
          | skip
      · have k3 : (((s.countP ld : Nat) : Int) = s.length) = False := eq_false (by omega)
        rw [decide_eq_false g3]
        refine acalls_of fn44l (by simp) ?_
        simp only [List.length_cons, List.length_nil, Nat.reduceAdd, Nat.reduceSub, List.replicate, List.cons_append, List.nil_append, List.append_nil]
        simp (disch := omega) only [c44l, k1, k2, k3, go_sem, wrap64_id, Int.tdiv_eq_ediv_of_nonneg, Int.tmod_eq_emod_of_nonneg]
        repeat' first
          | ((first | refine callA_pure (c66 _) ?_ ?_); (next => repeat' first | exact flags_n | refine flags_c (by first | rfl | assumption) ?_); simp (disch := omega) only [k1, k2, k3, go_sem, wrap64_id, Int.tdiv_eq_ediv_of_nonneg, Int.tmod_eq_emod_of_nonneg])
          | ((first | refine callU_of (fun _ => c66 _) ?_ ?_); (next => repeat' first | exact flags_n | refine flags_c (by first | rfl | assumption) ?_); simp (disch := omega) only [k1, k2, k3, go_sem, wrap64_id, Int.tdiv_eq_ediv_of_nonneg, Int.tmod_eq_emod_of_nonneg])
          | ((first | refine callG_pure (fun e => ⟨?_, c66 _⟩) ?_); (next => repeat' first | exact flags_n | refine flags_c (by first | rfl | assumption) ?_); simp (disch := omega) only [k1, k2, k3, go_sem, wrap64_id, Int.tdiv_eq_ediv_of_nonneg, Int.tmod_eq_emod_of_nonneg])
          | ((first | refine fnQ_pure1 ?_ ?_ | refine fnQ_pure0 ?_ ?_); (next => repeat' first | exact rvs_n | refine rvs_t ?_ | (simp [go_sem]; done)); simp only [go_sem]; (first | exact VLe.refl _ | refine VLe_int ?_ | refine VLe_bool ?_ | refine VLe_str ?_ | skip))
          | (with_reducible refine And.intro ?_ ?_)
          | with_reducible intro _
        all_goals first
          | omega
          | (rename_i hx; revert hx; simp; done)
          | (simp; done)
          | skip
    · have k2 : ((s.length : Int) ≤ 16) = False := eq_false (by omega)
      rw [decide_eq_false g2]
      refine acalls_of fn44l (by simp) ?_
      simp only [List.length_cons, List.length_nil, Nat.reduceAdd, Nat.reduceSub, List.replicate, List.cons_append, List.nil_append, List.append_nil]
      simp (disch := omega) only [c44l, k1, k2, go_sem, wrap64_id, Int.tdiv_eq_ediv_of_nonneg, Int.tmod_eq_emod_of_nonneg]
      repeat' first
        | (refine callG_false ((.int .i64 0)) ?_; simp (disch := omega) only [k1, k2, go_sem, wrap64_id, Int.tdiv_eq_ediv_of_nonneg, Int.tmod_eq_emod_of_nonneg])
        | ((first | refine fnQ_pure1 ?_ ?_ | refine fnQ_pure0 ?_ ?_); (next => repeat' first | exact rvs_n | refine rvs_t ?_ | (simp [go_sem]; done)); simp only [go_sem]; (first | exact VLe.refl _ | refine VLe_int ?_ | refine VLe_bool ?_ | refine VLe_str ?_ | skip))
        | (with_reducible refine And.intro ?_ ?_)
        | with_reducible intro _
      all_goals first
        | omega
        | (rename_i hx; revert hx; simp; done)
        | (simp; done)
        | skip
end LN
end

section
open Go Go.Proofs AF HY
namespace HY
set_option maxRecDepth 100000
theorem v51 (kb vb kj v : Nat) (A : AV) (s : List UInt8) (h : List AObj) (hk : getO kb h = some (.mem vb 100 [A, .osl kj v 1 0 s.length])) (hj : getO kj h = some (bufO v s)) :
    ACalls Tryd.prog 69 [.op kb vb 0] h (.int .i64 s.length) h := by
  have hc : cellsOf h kb vb = some [A, .osl kj v 1 0 s.length] := cellsOf_of hk
  have hl : liveS h kj v = true := by
    unfold liveS
    rw [hj]
    by_cases e : s = []
    · rw [e, bufO_nil]; simp
    · rw [bufO_ne e]; simp
  refine acalls_of fn69l (by simp) ?_
  simp only [List.length_cons, List.length_nil, Nat.reduceAdd, Nat.reduceSub, List.replicate, List.cons_append, List.nil_append, List.append_nil]
  simp (disch := omega) only [c69l, hc, hl, go_sem, wrap64_id, Int.tdiv_eq_ediv_of_nonneg, Int.tmod_eq_emod_of_nonneg]
  repeat' first
    | ((first | refine fnQ_pure1 ?_ ?_ | refine fnQ_pure0 ?_ ?_); (next => repeat' first | exact rvs_n | refine rvs_t ?_ | (simp [go_sem]; done)); simp only [go_sem]; (first | exact VLe.refl _ | refine VLe_int ?_ | refine VLe_bool ?_ | refine VLe_str ?_ | skip))
    | (with_reducible refine And.intro ?_ ?_)
    | with_reducible intro _
  all_goals first
    | omega
    | (rename_i hx; revert hx; simp; done)
    | (simp; done)
    | skip
theorem Wk.nilcell {t : List AV} {h : List AObj} {k j v ver : Nat} {ty : TypeId} {cs cs' : List AV} (hk : getO k h = some (.mem ver ty cs)) (hj : getO j h = some (.emp v)) (hl : cs'.length = cs.length)
    (hc : ∀ (i : Nat) c c', cs[i]? = some c → cs'[i]? = some c' → c' = c ∨ (c = .nl ∧ ∃ sz, c' = .osl j v sz 0 0)) : Wk t h t (setO k h (.mem ver ty cs')) := by
  intro N w σ a H
  refine ⟨σ, ⟨⟨by rw [H.hr.len, len_setO], H.hr.inj, H.hr.lt, fun i x o hx ho => ?_⟩, H.sz, H.tm, H.df⟩, Ext.refl w σ⟩
  have hkl := getO_lt hk
  by_cases e : i = k
  · subst e
    have := getO_setO (o := .mem ver ty cs') hkl
    unfold getO at this
    rw [this] at hx
    cases hx
    obtain ⟨m1, m2, b, arr, m3, m4, m5, m6, m7, m8⟩ := H.hr.obj i _ o hk ho
    refine ⟨m1, m2, b, arr, m3, m4, m5, by omega, fun n y hn hy => m7 n y (by omega) hy, fun n c' y hc' hy => ?_⟩
    have hn : n < cs.length := by have := (List.getElem?_eq_some_iff.1 hc').1; omega
    have e1 : cs[n]? = some cs[n] := List.getElem?_eq_getElem hn
    rcases hc n _ _ e1 hc' with rfl | ⟨e2, sz, rfl⟩
    · exact m8 n _ y e1 hy
    · have := m8 n _ y e1 hy
      rw [e2] at this
      have e3 := vr_nl this
      subst e3
      have hjl : j < σ.length := by rw [H.hr.len]; exact getO_lt hj
      have ej : σ[j]? = some σ[j] := List.getElem?_eq_getElem hjl
      obtain ⟨q1, q2⟩ := H.hr.obj j _ _ hj ej
      exact .osl _ ej ⟨_, _, _, rfl⟩ (by omega) (fun _ => .inl ⟨q2, rfl, rfl, rfl⟩)
  · unfold setO at hx
    rw [List.getElem?_set_ne (fun e' => e e'.symm)] at hx
    exact H.hr.obj i x o hx ho
end HY
end

section
open Go Go.Proofs AF
set_option maxRecDepth 100000
namespace HY
def c46m : C :=
  ((C.ops [⟨some 4, none, .mv, [.c (.str [])]⟩, ⟨some 5, none, .mv, [.c (.int .i64 0)]⟩]).seq (((C.ops [⟨some 13, none, .mv, [.t 0]⟩, ⟨some 14, none, .slen, [.t 13]⟩, ⟨some 15, none,
  .bin .gtr, [.t 14, .c (.int .i64 65536)]⟩]).seq (C.cond (.t 15) ((C.ops [⟨some 4, none, .mv, [.c (.str [])]⟩, ⟨some 5, none, .mv, [.c (.int .i64 4)]⟩]).seq C.ret) C.skip)).seq
  ((C.ops [⟨some 6, none, .alloc 0 100 [.nilp, .nl], []⟩]).seq ((C.block 0 (C.block 1 ((C.ops [⟨some 17, none, .mv, [.t 0]⟩, ⟨some 18, none, .call 49 true, [.t 17, .c (.str [64])]⟩,
  ⟨some 16, none, .mv, [.t 18]⟩, ⟨some 19, none, .ext 0, [.t 16]⟩, ⟨some 20, none, .ext 1, [.t 16]⟩, ⟨some 21, none, .ext 2, [.t 16]⟩, ⟨some 7, none, .mv, [.t 19]⟩, ⟨some 8, none,
  .mv, [.t 20]⟩, ⟨some 9, none, .mv, [.t 21]⟩]).seq ((C.ops [⟨some 22, none, .mv, [.t 7]⟩, ⟨some 23, none, .call 67 false, [.t 6, .t 22]⟩]).seq (((C.ops [⟨some 24, none, .mv, [.t
  9]⟩, ⟨some 25, none, .un UnOp.not, [.t 24]⟩]).seq (C.cond (.t 25) (C.exit 0) C.skip)).seq ((C.ops [⟨some 26, none, .mv, [.t 8]⟩, ⟨some 27, none, .call 68 true, [.t 26]⟩, ⟨some 10,
  none, .mv, [.t 27]⟩]).seq ((C.ops [⟨some 29, none, .mv, [.t 1]⟩, ⟨some 30, none, .mv, [.t 10]⟩, ⟨some 31, none, .mlk .str true (.int .i64 0), [.t 29, .t 30]⟩, ⟨some 28, none, .mv,
  [.t 31]⟩, ⟨some 32, none, .ext 0, [.t 28]⟩, ⟨some 33, none, .ext 1, [.t 28]⟩, ⟨some 11, none, .mv, [.t 32]⟩, ⟨some 12, none, .mv, [.t 33]⟩]).seq (((C.ops [⟨some 34, none, .mv, [.t
  12]⟩, ⟨some 35, none, .un UnOp.not, [.t 34]⟩]).seq (C.cond (.t 35) ((C.ops [⟨some 4, none, .mv, [.c (.str [])]⟩, ⟨some 5, none, .mv, [.c (.int .i64 26)]⟩]).seq C.ret) C.skip)).seq
  ((C.ops [⟨some 36, none, .mv, [.t 11]⟩, ⟨some 37, none, .call 48 true, [.t 36]⟩, ⟨some 38, none, .call 67 false, [.t 6, .t 37]⟩]).seq (C.ops [⟨some 39, none, .mv, [.t 8]⟩, ⟨some
  40, none, .mv, [.t 10]⟩, ⟨some 41, none, .slen, [.t 40]⟩, ⟨some 42, none, .sslc true false, [.t 39, .t 41]⟩, ⟨some 0, none, .mv, [.t 42]⟩]))))))))).loop).seq (((C.ops [⟨some 43,
  none, .call 69 true, [.t 6]⟩, ⟨some 44, none, .bin .gtr, [.t 43, .c (.int .i64 65536)]⟩]).seq (C.cond (.t 44) ((C.ops [⟨some 4, none, .mv, [.c (.str [])]⟩, ⟨some 5, none, .mv, [.c
  (.int .i64 4)]⟩]).seq C.ret) C.skip)).seq ((C.ops [⟨some 45, none, .call 70 false, [.t 6]⟩, ⟨some 4, none, .mv, [.t 45]⟩, ⟨some 5, none, .mv, [.c (.int .i64 0)]⟩]).seq
  C.ret))))))
theorem fn46m : FnIs Tryd.prog 46 46 2 [RV.tmp 4, RV.tmp 5] c46m := ⟨Tryd.f46, Tryd.f46.body.getD .skip, [6, 6], [93, 67, 70, 45, 59], [], by kernel_rfl, by kernel_rfl, by kernel_rfl, by kernel_rfl, by kernel_rfl, by kernel_rfl, by kernel_rfl⟩

end HY
end

section
open Go Go.Proofs AF HY
namespace LN
set_option maxRecDepth 100000
def resN (m : List (List UInt8 × Int)) (it : Int → List UInt8) : Nat → List UInt8 → Option (List UInt8)
  | 0, _ => none
  | n + 1, s => if 0 < s.count 64 then
      match m.lookup ((s.drop (cutAt 64 s + 1)).takeWhile ld) with
      | none => none
      | some k => (resN m it n ((s.drop (cutAt 64 s + 1)).drop ((s.drop (cutAt 64 s + 1)).takeWhile ld).length)).map fun t => s.take (cutAt 64 s) ++ (it k ++ t)
    else some s
def resV (m : List (List UInt8 × Int)) (it : Int → List UInt8) (s : List UInt8) : List UInt8 × Int :=
  if 65536 < s.length then ([], 4) else match resN m it (s.length + 1) s with
    | none => ([], 26)
    | some t => if 65536 < t.length then ([], 4) else (t, 0)
theorem wkB2 {t : List AV} {h : List AObj} : Wk t (h ++ [.mem 1 100 [.nilp, .nl], .emp 0]) t (h ++ [.mem 1 100 [.nilp, .osl (h.length + 1) 0 1 0 0], .emp 0]) := by
  have := Wk.nilcell (t := t) (h := h ++ [.mem 1 100 [.nilp, .nl], .emp 0]) (k := h.length) (j := h.length + 1) (v := 0) (ver := 1) (ty := 100) (cs := [.nilp, .nl]) (cs' := [.nilp, .osl (h.length + 1) 0 1 0 0]) (by simp only [go_sem]) (by simp only [go_sem]) rfl (fun i c c' hc hc' => by
    match i, hc, hc' with
    | 0, hc, hc' => left; simp at hc hc'; rw [← hc, ← hc']
    | 1, hc, hc' => right; simp at hc hc'; exact ⟨hc.symm, 1, hc'.symm⟩)
  simpa [setO] using this
set_option maxHeartbeats 4000000 in
theorem t46 (m : List (List UInt8 × Int)) (it : Int → List UInt8) (s : List UInt8) (kv vv : Nat) (h : List AObj) (hm : mapOf h kv vv = some (smap m))
    (hit : ∀ n, (∃ k, m.lookup k = some n) → (it n).length ≤ 20 ∧ ∀ l, ACalls Tryd.prog 48 [.int .i64 n] (h ++ l) (.str (it n)) (h ++ l)) (hs : s.length ≤ 1000000000) :
    ACalls Tryd.prog 46 [.str s, .mp kv vv] h (.tup [.str (resV m it s).1, .int .i64 (resV m it s).2]) h := by
  have hml : ∀ l, mapOf (h ++ l) kv vv = some (smap m) := fun l => by
    have hkv : kv < h.length := by
      unfold mapOf at hm
      split at hm
      · rename_i e; exact getO_lt e
      · cases hm
    unfold mapOf at hm ⊢
    rw [getO_left hkv]
    exact hm
  by_cases g0 : 65536 < s.length
  · have k0 : (65536 < (s.length : Int)) = True := eq_true (by omega)
    have hV : resV m it s = ([], 4) := by unfold resV; rw [if_pos g0]
    rw [hV]
    refine acalls_of fn46m (by simp) ?_
    simp only [List.length_cons, List.length_nil, Nat.reduceAdd, Nat.reduceSub, List.replicate, List.cons_append, List.nil_append, List.append_nil]
    simp (disch := omega) only [c46m, k0, go_sem, wrap64_id, Int.tdiv_eq_ediv_of_nonneg, Int.tmod_eq_emod_of_nonneg]
    repeat' first
      | ((first | refine fnQ_pure1 ?_ ?_ | refine fnQ_pure0 ?_ ?_); (next => repeat' first | exact rvs_n | refine rvs_t ?_ | (simp [go_sem]; done)); simp only [go_sem]; (first | exact VLe.refl _ | refine VLe_int ?_ | refine VLe_bool ?_ | refine VLe_str ?_ | skip))
      | (with_reducible refine And.intro ?_ ?_)
      | with_reducible intro _
    all_goals first
      | omega
      | (rename_i hx; revert hx; simp; done)
      | (simp; done)
      | skip
  have k0 : (65536 < (s.length : Int)) = False := eq_false (by omega)
  refine acalls_of fn46m (by simp) ?_
  simp only [List.length_cons, List.length_nil, Nat.reduceAdd, Nat.reduceSub, List.replicate, List.cons_append, List.nil_append, List.append_nil]
  simp (disch := omega) only [c46m, k0, go_sem, wrap64_id, Int.tdiv_eq_ediv_of_nonneg, Int.tmod_eq_emod_of_nonneg]
  repeat' first
    | ((first | refine fnQ_pure1 ?_ ?_ | refine fnQ_pure0 ?_ ?_); (next => repeat' first | exact rvs_n | refine rvs_t ?_ | (simp [go_sem]; done)); simp only [go_sem]; (first | exact VLe.refl _ | refine VLe_int ?_ | refine VLe_bool ?_ | refine VLe_str ?_ | skip))
    | (with_reducible refine And.intro ?_ ?_)
    | with_reducible intro _
  all_goals first
    | omega
    | (rename_i hx; revert hx; simp; done)
    | (simp; done)
    | skip
  refine loop_of (T := fun i : Nat × List UInt8 × List UInt8 × AV × Nat => spar 46 [(0, .str i.2.1), (1, .mp kv vv), (6, .op h.length 1 0)])
    (H := fun i => h ++ [.mem 1 100 [i.2.2.2.1, .osl (h.length + 1) i.2.2.2.2 1 0 i.2.2.1.length], bufO i.2.2.2.2 i.2.2.1])
    (inv := fun i => (i.2.2.2.1 = .nilp ∨ i.2.2.2.1 = .op h.length 1 0) ∧ i.2.1.length < i.1 ∧ i.2.2.1.length + 21 * i.2.1.length ≤ 21 * s.length ∧ resN m it (s.length + 1) s = (resN m it i.1 i.2.1).map (i.2.2.1 ++ ·)) (m := fun i => i.1) (s.length + 1, s, [], .nilp, 0)
    ⟨.inl rfl, by simp, by simp, by cases resN m it (s.length + 1) s <;> simp⟩ (Wk.trans wkB2 (Wk.temps ?_)) ?_
  · (simp only [spar, List.foldl, List.replicate, go_sem, VLes_nil, VLes_cons, VLe_undef_iff, VLe_self]; try (repeat' first | (with_reducible refine And.intro ?_ ?_) | (refine VLe_int ?_; omega) | (refine VLe_bool ?_; rfl) | exact VLe.refl _))
  rintro ⟨n, r, S, A, v⟩ ⟨i1, i2, i3, i5⟩ K hK
  simp only at i1 i2 i3 i5 hK
  obtain ⟨n', rfl⟩ : ∃ n', n = n' + 1 := ⟨n - 1, by omega⟩
  have c49 := fun h => t49c r 64 h (by omega)
  by_cases g : 0 < r.count 64
  · rw [if_pos g] at c49
    have hlt := cutAt_lt 64 r g
    have hstep : resN m it (n' + 1) r = match m.lookup ((r.drop (cutAt 64 r + 1)).takeWhile ld) with
      | none => none
      | some k => (resN m it n' ((r.drop (cutAt 64 r + 1)).drop ((r.drop (cutAt 64 r + 1)).takeWhile ld).length)).map fun t => r.take (cutAt 64 r) ++ (it k ++ t) := by
      conv => lhs; unfold resN
      rw [if_pos g]
    obtain ⟨B, hB⟩ : ∃ B, B = r.take (cutAt 64 r) := ⟨_, rfl⟩
    have hBl : B.length = cutAt 64 r := by rw [hB]; simp; omega
    obtain ⟨r1, hr1⟩ : ∃ r1, r1 = r.drop (cutAt 64 r + 1) := ⟨_, rfl⟩
    have hr1l : r1.length + B.length + 1 = r.length := by rw [hr1, hBl]; simp; omega
    rw [← hB, ← hr1] at c49 hstep
    obtain ⟨nm, hnm⟩ : ∃ nm, nm = r1.takeWhile ld := ⟨_, rfl⟩
    have hnl : nm.length ≤ r1.length := by rw [hnm]; exact tw_len
    have c68 := fun h => t68 r1 h (by omega)
    rw [← hnm] at c68 hstep
    cases hk : m.lookup nm with
    | none =>
      rw [hk] at hstep
      have hV : resV m it s = ([], 26) := by unfold resV; rw [if_neg g0, i5, hstep]; rfl
      rw [hV]
      have e1 := mget_smap_none (z := .int .i64 0) hk
      simp (disch := omega) only [spar, List.foldl, List.replicate, go_sem, wrap64_id, Int.tdiv_eq_ediv_of_nonneg, Int.tmod_eq_emod_of_nonneg]
      repeat' first
        | ((first | refine callA_pure (c49 _) ?_ ?_); (next => repeat' first | exact flags_n | refine flags_c (by first | rfl | assumption) ?_); simp (disch := omega) only [go_sem, wrap64_id, Int.tdiv_eq_ediv_of_nonneg, Int.tmod_eq_emod_of_nonneg])
        | ((first | refine callU_of (fun _ => c49 _) ?_ ?_); (next => repeat' first | exact flags_n | refine flags_c (by first | rfl | assumption) ?_); simp (disch := omega) only [go_sem, wrap64_id, Int.tdiv_eq_ediv_of_nonneg, Int.tmod_eq_emod_of_nonneg])
        | ((first | refine callG_pure (fun e => ⟨?_, c49 _⟩) ?_); (next => repeat' first | exact flags_n | refine flags_c (by first | rfl | assumption) ?_); simp (disch := omega) only [go_sem, wrap64_id, Int.tdiv_eq_ediv_of_nonneg, Int.tmod_eq_emod_of_nonneg])
        | ((first | refine fnQ_pure1 ?_ ?_ | refine fnQ_pure0 ?_ ?_); (next => repeat' first | exact rvs_n | refine rvs_t ?_ | (simp [go_sem]; done)); simp only [go_sem]; (first | exact VLe.refl _ | refine VLe_int ?_ | refine VLe_bool ?_ | refine VLe_str ?_ | skip))
        | (with_reducible refine And.intro ?_ ?_)
        | with_reducible intro _
      all_goals first
        | omega
        | (rename_i hx; revert hx; simp; done)
        | (simp; done)
        | skip
      refine callA_eff (v50 h.length 1 (h.length + 1) v A S B _ (by omega) (by simp only [go_sem]) i1 (by simp only [go_sem]) (by omega)) ⟨rfl, rfl, trivial⟩ ?_
      simp (disch := omega) only [hml, e1, mfind_smap_ok, Option.getD_some, Option.isSome_some, go_sem, wrap64_id, Int.tdiv_eq_ediv_of_nonneg, Int.tmod_eq_emod_of_nonneg]
      repeat' first
        | ((first | refine callA_pure (c68 _) ?_ ?_); (next => repeat' first | exact flags_n | refine flags_c (by first | rfl | assumption) ?_); simp (disch := omega) only [hml, e1, mfind_smap_ok, Option.getD_some, Option.isSome_some, go_sem, wrap64_id, Int.tdiv_eq_ediv_of_nonneg, Int.tmod_eq_emod_of_nonneg])
        | ((first | refine callU_of (fun _ => c68 _) ?_ ?_); (next => repeat' first | exact flags_n | refine flags_c (by first | rfl | assumption) ?_); simp (disch := omega) only [hml, e1, mfind_smap_ok, Option.getD_some, Option.isSome_some, go_sem, wrap64_id, Int.tdiv_eq_ediv_of_nonneg, Int.tmod_eq_emod_of_nonneg])
        | ((first | refine callG_pure (fun e => ⟨?_, c68 _⟩) ?_); (next => repeat' first | exact flags_n | refine flags_c (by first | rfl | assumption) ?_); simp (disch := omega) only [hml, e1, mfind_smap_ok, Option.getD_some, Option.isSome_some, go_sem, wrap64_id, Int.tdiv_eq_ediv_of_nonneg, Int.tmod_eq_emod_of_nonneg])
        | ((first | refine fnQ_pure1 ?_ ?_ | refine fnQ_pure0 ?_ ?_); (next => repeat' first | exact rvs_n | refine rvs_t ?_ | (simp [go_sem]; done)); simp only [go_sem]; (first | exact VLe.refl _ | refine VLe_int ?_ | refine VLe_bool ?_ | refine VLe_str ?_ | skip))
        | (with_reducible refine And.intro ?_ ?_)
        | with_reducible intro _
      all_goals first
        | omega
        | (rename_i hx; revert hx; simp; done)
        | (simp; done)
        | skip
    | some k =>
      rw [hk] at hstep
      simp only at hstep
      obtain ⟨q1, q2⟩ := hit k ⟨_, hk⟩
      have e1 := mget_smap_some (z := .int .i64 0) hk
      have k4 : (0 ≤ (nm.length : Int)) = True := eq_true (by omega)
      have k5 : ((nm.length : Int) ≤ r1.length) = True := eq_true (by omega)
      have eD : List.take (r1.length - nm.length) (List.drop nm.length r1) = r1.drop nm.length := List.take_of_length_le (by simp)
      simp (disch := omega) only [spar, List.foldl, List.replicate, go_sem, wrap64_id, Int.tdiv_eq_ediv_of_nonneg, Int.tmod_eq_emod_of_nonneg]
      repeat' first
        | ((first | refine callA_pure (c49 _) ?_ ?_); (next => repeat' first | exact flags_n | refine flags_c (by first | rfl | assumption) ?_); simp (disch := omega) only [go_sem, wrap64_id, Int.tdiv_eq_ediv_of_nonneg, Int.tmod_eq_emod_of_nonneg])
        | ((first | refine callU_of (fun _ => c49 _) ?_ ?_); (next => repeat' first | exact flags_n | refine flags_c (by first | rfl | assumption) ?_); simp (disch := omega) only [go_sem, wrap64_id, Int.tdiv_eq_ediv_of_nonneg, Int.tmod_eq_emod_of_nonneg])
        | ((first | refine callG_pure (fun e => ⟨?_, c49 _⟩) ?_); (next => repeat' first | exact flags_n | refine flags_c (by first | rfl | assumption) ?_); simp (disch := omega) only [go_sem, wrap64_id, Int.tdiv_eq_ediv_of_nonneg, Int.tmod_eq_emod_of_nonneg])
        | ((first | refine fnQ_pure1 ?_ ?_ | refine fnQ_pure0 ?_ ?_); (next => repeat' first | exact rvs_n | refine rvs_t ?_ | (simp [go_sem]; done)); simp only [go_sem]; (first | exact VLe.refl _ | refine VLe_int ?_ | refine VLe_bool ?_ | refine VLe_str ?_ | skip))
        | (with_reducible refine And.intro ?_ ?_)
        | with_reducible intro _
      all_goals first
        | omega
        | (rename_i hx; revert hx; simp; done)
        | (simp; done)
        | skip
      refine callA_eff (v50 h.length 1 (h.length + 1) v A S B _ (by omega) (by simp only [go_sem]) i1 (by simp only [go_sem]) (by omega)) ⟨rfl, rfl, trivial⟩ ?_
      simp (disch := omega) only [hml, e1, mfind_smap_ok, Option.getD_some, Option.isSome_some, go_sem, wrap64_id, Int.tdiv_eq_ediv_of_nonneg, Int.tmod_eq_emod_of_nonneg]
      repeat' first
        | ((first | refine callA_pure (c68 _) ?_ ?_ | refine callA_pure (q2 _) ?_ ?_); (next => repeat' first | exact flags_n | refine flags_c (by first | rfl | assumption) ?_); simp (disch := omega) only [hml, e1, mfind_smap_ok, Option.getD_some, Option.isSome_some, go_sem, wrap64_id, Int.tdiv_eq_ediv_of_nonneg, Int.tmod_eq_emod_of_nonneg])
        | ((first | refine callU_of (fun _ => c68 _) ?_ ?_ | refine callU_of (fun _ => q2 _) ?_ ?_); (next => repeat' first | exact flags_n | refine flags_c (by first | rfl | assumption) ?_); simp (disch := omega) only [hml, e1, mfind_smap_ok, Option.getD_some, Option.isSome_some, go_sem, wrap64_id, Int.tdiv_eq_ediv_of_nonneg, Int.tmod_eq_emod_of_nonneg])
        | ((first | refine callG_pure (fun e => ⟨?_, c68 _⟩) ?_ | refine callG_pure (fun e => ⟨?_, q2 _⟩) ?_); (next => repeat' first | exact flags_n | refine flags_c (by first | rfl | assumption) ?_); simp (disch := omega) only [hml, e1, mfind_smap_ok, Option.getD_some, Option.isSome_some, go_sem, wrap64_id, Int.tdiv_eq_ediv_of_nonneg, Int.tmod_eq_emod_of_nonneg])
        | ((first | refine fnQ_pure1 ?_ ?_ | refine fnQ_pure0 ?_ ?_); (next => repeat' first | exact rvs_n | refine rvs_t ?_ | (simp [go_sem]; done)); simp only [go_sem]; (first | exact VLe.refl _ | refine VLe_int ?_ | refine VLe_bool ?_ | refine VLe_str ?_ | skip))
        | (with_reducible refine And.intro ?_ ?_)
        | with_reducible intro _
      all_goals first
        | omega
        | (rename_i hx; revert hx; simp; done)
        | (simp; done)
        | skip
      refine callA_eff (v50 h.length 1 (h.length + 1) (v + 1) (.op h.length 1 0) (S ++ B) (it k) _ (by omega) (by simp only [go_sem, List.length_append]) (.inr rfl) (by simp only [go_sem]) (by simp only [List.length_append]; omega)) ⟨rfl, rfl, trivial⟩ ?_
      simp (disch := omega) only [k4, k5, eD, go_sem, wrap64_id, Int.tdiv_eq_ediv_of_nonneg, Int.tmod_eq_emod_of_nonneg]
      repeat' first
        | ((first | refine fnQ_pure1 ?_ ?_ | refine fnQ_pure0 ?_ ?_); (next => repeat' first | exact rvs_n | refine rvs_t ?_ | (simp [go_sem]; done)); simp only [go_sem]; (first | exact VLe.refl _ | refine VLe_int ?_ | refine VLe_bool ?_ | refine VLe_str ?_ | skip))
        | (with_reducible refine And.intro ?_ ?_)
        | with_reducible intro _
      all_goals first
        | omega
        | (rename_i hx; revert hx; simp; done)
        | (simp; done)
        | skip
      refine hK _ _ (n', r1.drop nm.length, S ++ B ++ it k, .op h.length 1 0, v + 1 + 1) ⟨.inr rfl, by simp only [List.length_drop]; omega, by simp only [List.length_drop, List.length_append]; omega, ?_⟩ (by simp only; omega) ?_
      · rw [i5, hstep]
        cases resN m it n' (r1.drop nm.length) <;> simp
      · simp only [List.length_append]
        refine Wk.temps ?_
        (simp only [eD, spar, List.foldl, List.replicate, go_sem, VLes_nil, VLes_cons, VLe_undef_iff, VLe_self]; try (repeat' first | (with_reducible refine And.intro ?_ ?_) | (refine VLe_int ?_; omega) | (refine VLe_bool ?_; rfl) | exact VLe.refl _))
  · rw [if_neg g] at c49
    have hstep : resN m it (n' + 1) r = some r := by
      unfold resN
      rw [if_neg g]
    rw [hstep] at i5
    obtain ⟨T, hT⟩ : ∃ T, T = S ++ r := ⟨_, rfl⟩
    have hTl : T.length = S.length + r.length := by rw [hT]; simp
    have i5 : resN m it (s.length + 1) s = some T := by rw [i5, hT]; rfl
    have c51 := v51 h.length 1 (h.length + 1) (v + 1) (.op h.length 1 0) T (h ++ [.mem 1 100 [.op h.length 1 0, .osl (h.length + 1) (v + 1) 1 0 T.length], bufO (v + 1) T]) (by simp only [go_sem]) (by simp only [go_sem])
    have c67 := v50 h.length 1 (h.length + 1) v A S r (h ++ [.mem 1 100 [A, .osl (h.length + 1) v 1 0 S.length], bufO v S]) (by omega) (by simp only [go_sem]) i1 (by simp only [go_sem]) (by omega)
    rw [← hT, ← hTl] at c67
    by_cases hbig : 65536 < T.length
    · have k1 : (65536 < (T.length : Int)) = True := eq_true (by omega)
      have hV : resV m it s = ([], 4) := by unfold resV; rw [if_neg g0, i5]; simp only; rw [if_pos hbig]
      rw [hV]
      simp (disch := omega) only [spar, List.foldl, List.replicate, go_sem, wrap64_id, Int.tdiv_eq_ediv_of_nonneg, Int.tmod_eq_emod_of_nonneg]
      repeat' first
        | ((first | refine callA_pure (c49 _) ?_ ?_); (next => repeat' first | exact flags_n | refine flags_c (by first | rfl | assumption) ?_); simp (disch := omega) only [go_sem, wrap64_id, Int.tdiv_eq_ediv_of_nonneg, Int.tmod_eq_emod_of_nonneg])
        | ((first | refine callU_of (fun _ => c49 _) ?_ ?_); (next => repeat' first | exact flags_n | refine flags_c (by first | rfl | assumption) ?_); simp (disch := omega) only [go_sem, wrap64_id, Int.tdiv_eq_ediv_of_nonneg, Int.tmod_eq_emod_of_nonneg])
        | ((first | refine callG_pure (fun e => ⟨?_, c49 _⟩) ?_); (next => repeat' first | exact flags_n | refine flags_c (by first | rfl | assumption) ?_); simp (disch := omega) only [go_sem, wrap64_id, Int.tdiv_eq_ediv_of_nonneg, Int.tmod_eq_emod_of_nonneg])
        | ((first | refine fnQ_pure1 ?_ ?_ | refine fnQ_pure0 ?_ ?_); (next => repeat' first | exact rvs_n | refine rvs_t ?_ | (simp [go_sem]; done)); simp only [go_sem]; (first | exact VLe.refl _ | refine VLe_int ?_ | refine VLe_bool ?_ | refine VLe_str ?_ | skip))
        | (with_reducible refine And.intro ?_ ?_)
        | with_reducible intro _
      all_goals first
        | omega
        | (rename_i hx; revert hx; simp; done)
        | (simp; done)
        | skip
      refine callA_eff c67 ⟨rfl, rfl, trivial⟩ ?_
      simp (disch := omega) only [k1, go_sem, wrap64_id, Int.tdiv_eq_ediv_of_nonneg, Int.tmod_eq_emod_of_nonneg]
      repeat' first
        | ((first | refine callA_pure (c51) ?_ ?_); (next => repeat' first | exact flags_n | refine flags_c (by first | rfl | assumption) ?_); simp (disch := omega) only [k1, go_sem, wrap64_id, Int.tdiv_eq_ediv_of_nonneg, Int.tmod_eq_emod_of_nonneg])
        | ((first | refine callG_pure (fun e => ⟨?_, c51⟩) ?_); (next => repeat' first | exact flags_n | refine flags_c (by first | rfl | assumption) ?_); simp (disch := omega) only [k1, go_sem, wrap64_id, Int.tdiv_eq_ediv_of_nonneg, Int.tmod_eq_emod_of_nonneg])
        | ((first | refine fnQ_pure1 ?_ ?_ | refine fnQ_pure0 ?_ ?_); (next => repeat' first | exact rvs_n | refine rvs_t ?_ | (simp [go_sem]; done)); simp only [go_sem]; (first | exact VLe.refl _ | refine VLe_int ?_ | refine VLe_bool ?_ | refine VLe_str ?_ | skip))
        | (with_reducible refine And.intro ?_ ?_)
        | with_reducible intro _
      all_goals first
        | omega
        | (rename_i hx; revert hx; simp; done)
        | (simp; done)
        | skip
    · have k1 : (65536 < (T.length : Int)) = False := eq_false (by omega)
      have hV : resV m it s = (T, 0) := by unfold resV; rw [if_neg g0, i5]; simp only; rw [if_neg hbig]
      rw [hV]
      simp (disch := omega) only [spar, List.foldl, List.replicate, go_sem, wrap64_id, Int.tdiv_eq_ediv_of_nonneg, Int.tmod_eq_emod_of_nonneg]
      repeat' first
        | ((first | refine callA_pure (c49 _) ?_ ?_); (next => repeat' first | exact flags_n | refine flags_c (by first | rfl | assumption) ?_); simp (disch := omega) only [go_sem, wrap64_id, Int.tdiv_eq_ediv_of_nonneg, Int.tmod_eq_emod_of_nonneg])
        | ((first | refine callU_of (fun _ => c49 _) ?_ ?_); (next => repeat' first | exact flags_n | refine flags_c (by first | rfl | assumption) ?_); simp (disch := omega) only [go_sem, wrap64_id, Int.tdiv_eq_ediv_of_nonneg, Int.tmod_eq_emod_of_nonneg])
        | ((first | refine callG_pure (fun e => ⟨?_, c49 _⟩) ?_); (next => repeat' first | exact flags_n | refine flags_c (by first | rfl | assumption) ?_); simp (disch := omega) only [go_sem, wrap64_id, Int.tdiv_eq_ediv_of_nonneg, Int.tmod_eq_emod_of_nonneg])
        | ((first | refine fnQ_pure1 ?_ ?_ | refine fnQ_pure0 ?_ ?_); (next => repeat' first | exact rvs_n | refine rvs_t ?_ | (simp [go_sem]; done)); simp only [go_sem]; (first | exact VLe.refl _ | refine VLe_int ?_ | refine VLe_bool ?_ | refine VLe_str ?_ | skip))
        | (with_reducible refine And.intro ?_ ?_)
        | with_reducible intro _
      all_goals first
        | omega
        | (rename_i hx; revert hx; simp; done)
        | (simp; done)
        | skip
      refine callA_eff c67 ⟨rfl, rfl, trivial⟩ ?_
      simp (disch := omega) only [k1, go_sem, wrap64_id, Int.tdiv_eq_ediv_of_nonneg, Int.tmod_eq_emod_of_nonneg]
      repeat' first
        | ((first | refine callA_pure (c51) ?_ ?_); (next => repeat' first | exact flags_n | refine flags_c (by first | rfl | assumption) ?_); simp (disch := omega) only [k1, go_sem, wrap64_id, Int.tdiv_eq_ediv_of_nonneg, Int.tmod_eq_emod_of_nonneg])
        | ((first | refine callG_pure (fun e => ⟨?_, c51⟩) ?_); (next => repeat' first | exact flags_n | refine flags_c (by first | rfl | assumption) ?_); simp (disch := omega) only [k1, go_sem, wrap64_id, Int.tdiv_eq_ediv_of_nonneg, Int.tmod_eq_emod_of_nonneg])
        | ((first | refine fnQ_pure1 ?_ ?_ | refine fnQ_pure0 ?_ ?_); (next => repeat' first | exact rvs_n | refine rvs_t ?_ | (simp [go_sem]; done)); simp only [go_sem]; (first | exact VLe.refl _ | refine VLe_int ?_ | refine VLe_bool ?_ | refine VLe_str ?_ | skip))
        | (with_reducible refine And.intro ?_ ?_)
        | with_reducible intro _
      all_goals first
        | omega
        | (rename_i hx; revert hx; simp; done)
        | (simp; done)
        | skip
      refine callA_eff (v52 h.length 1 (h.length + 1) (v + 1) (.op h.length 1 0) T _ (by omega) (by simp only [go_sem]) (by simp only [go_sem])) ⟨rfl, trivial⟩ ?_
      simp (disch := omega) only [go_sem, wrap64_id, Int.tdiv_eq_ediv_of_nonneg, Int.tmod_eq_emod_of_nonneg]
      repeat' first
        | ((first | refine fnQ_pure1 ?_ ?_ | refine fnQ_pure0 ?_ ?_); (next => repeat' first | exact rvs_n | refine rvs_t ?_ | (simp [go_sem]; done)); simp only [go_sem]; (first | exact VLe.refl _ | refine VLe_int ?_ | refine VLe_bool ?_ | refine VLe_str ?_ | skip))
        | (with_reducible refine And.intro ?_ ?_)
        | with_reducible intro _
      all_goals first
        | omega
        | (rename_i hx; revert hx; simp; done)
        | (simp; done)
        | skip
end LN
end

section
open Go Go.Proofs AF HY
namespace LN
set_option maxRecDepth 100000
def strC (L : List (List UInt8)) : List AV := L.map fun s => .str s
theorem strC_len (L : List (List UInt8)) : (strC L).length = L.length := by simp [strC]
theorem flat_strs (L : List (List UInt8)) : ((List.range L.length).flatMap fun i => [AV.str (L.getD i [])]) = strC L := by
  unfold strC
  apply List.ext_getElem?
  intro i
  have e : ((List.range L.length).flatMap fun i => [AV.str (L.getD i [])]) = (List.range L.length).map fun i => AV.str (L.getD i []) := by
    induction List.range L.length with
    | nil => rfl
    | cons a r ih => rw [List.flatMap_cons, List.map_cons, ih]; rfl
  rw [e, List.getElem?_map, List.getElem?_map]
  by_cases hi : i < L.length
  · rw [List.getElem?_range hi, List.getElem?_eq_getElem hi]
    simp [List.getD_eq_getElem?_getD, hi]
  · rw [List.getElem?_eq_none (by simpa using hi), List.getElem?_eq_none (by omega)]
    rfl
theorem src_strs (h : List AObj) (L : List (List UInt8)) : sliceCells h (strs L) = some (L.length, strC L) := by
  show some (L.length, _) = _
  rw [flat_strs]
theorem isnil_strs {L : List (List UInt8)} (h : L ≠ []) : valP (.isnil .slice false) [strs L] = .bool false := by
  unfold strs
  rw [valP_isnil_sl, if_neg (by simpa using h)]
  rfl
theorem okisnil_strs {L : List (List UInt8)} : okP (.isnil .slice false) [strs L] = True := eq_true trivial
theorem strC_low (L : List (List UInt8)) (n : Nat) : ∀ c ∈ strC L, lowV n c = true := by
  intro c hc
  unfold strC at hc
  obtain ⟨x, _, rfl⟩ := List.mem_map.1 hc
  rfl
theorem t45z (h : List AObj) : ACalls Tryd.prog 45 [strs []] h (strs []) h := by
  have s1 := fun h => src_strs h []
  have z0 : valP (.isnil .slice false) [strs []] = .anyb := rfl
  have z1 : okP (.isnil .slice false) [strs []] = True := eq_true trivial
  have e0 : strC [] = [] := rfl
  refine acalls_of fn45l (by simp) ?_
  simp only [List.length_cons, List.length_nil, Nat.reduceAdd, Nat.reduceSub, List.replicate, List.cons_append, List.nil_append, List.append_nil]
  simp (disch := omega) only [c45l, s1, z0, z1, e0, go_sem, wrap64_id, Int.tdiv_eq_ediv_of_nonneg, Int.tmod_eq_emod_of_nonneg]
  repeat' first
    | ((first | refine fnQ_pure1 ?_ ?_ | refine fnQ_pure0 ?_ ?_); (next => repeat' first | exact rvs_n | refine rvs_t ?_ | (simp [go_sem]; done)); simp only [go_sem]; (first | exact VLe.refl _ | refine VLe_int ?_ | refine VLe_bool ?_ | refine VLe_str ?_ | skip))
    | (with_reducible refine And.intro ?_ ?_)
    | with_reducible intro _
  all_goals first
    | omega
    | (rename_i hx; revert hx; simp; done)
    | (simp; done)
    | skip
  · exact VLe_nl
  · rfl
  · exact VLe.sl_eq rfl (fun i hi => absurd hi (by simp))
theorem t45m (L : List (List UInt8)) (h : List AObj) (k : Nat) (hk : site h k = true) (h0 : L ≠ []) (hl : L.length ≤ 1000000000) :
    ACalls Tryd.prog 45 [strs L] h (.osl k (verOf (getO k h) + 1) 1 0 L.length) (setO k h (.mem (verOf (getO k h) + 1) 9 (strC L))) := by
  have s1 := fun h => src_strs h L
  have eP := strC_len L
  have hp := List.length_pos_iff.2 h0
  have z0 := isnil_strs h0
  have z1 := @okisnil_strs L
  have s2 : (strs L).strip = strs L := rfl
  have s3 : (strs L).flag = true := rfl
  refine acallsM fn45l k (by simp) ?_
  simp only [List.length_cons, List.length_nil, Nat.reduceAdd, Nat.reduceSub, List.replicate, List.cons_append, List.nil_append, List.append_nil]
  simp (disch := omega) only [c45l, s1, s2, s3, z0, z1, go_sem, wrap64_id, Int.tdiv_eq_ediv_of_nonneg, Int.tmod_eq_emod_of_nonneg]
  repeat' first
    | (with_reducible refine And.intro ?_ ?_)
    | (with_reducible intro _)
  all_goals first
    | omega
    | contradiction
    | skip
  · rfl
  exact ⟨h.length + 1, 2, 1, 0, L.length, 9, strC L, _, ⟨trivial, trivial⟩, rfl, rfl, by omega, by simp only [go_sem], strC_low L _, hk, rfl, rfl⟩
end LN
end

section
open Go Go.Proofs AF
set_option maxRecDepth 100000
namespace HY
def c21m : C :=
  ((C.ops [⟨some 6, none, .nilo 0 1 9, []⟩, ⟨some 7, none, .mv, [.c (.int .i64 0)]⟩]).seq (((C.ops [⟨some 18, none, .mv, [.t 1]⟩, ⟨some 19, none, .len, [.t 18]⟩, ⟨some 20, none, .mv,
  [.t 2]⟩, ⟨some 21, none, .len, [.t 20]⟩, ⟨some 22, none, .bin .neq, [.t 19, .t 21]⟩]).seq (C.cond (.t 22) ((C.ops [⟨some 6, none, .nilo 0 1 9, []⟩, ⟨some 7, none, .mv, [.c (.int
  .i64 9)]⟩]).seq C.ret) C.skip)).seq (((C.ops [⟨some 23, none, .mv, [.t 1]⟩, ⟨some 24, none, .len, [.t 23]⟩, ⟨some 25, none, .bin .gtr, [.t 24, .c (.int .i64 4096)]⟩, ⟨some 26,
  none, .mv, [.t 25]⟩, ⟨some 27, some (26, false), .mv, [.t 0]⟩, ⟨some 28, some (26, false), .len, [.t 27]⟩, ⟨some 29, some (26, false), .bin .gtr, [.t 28, .c (.int .i64 4096)]⟩,
  ⟨some 30, none, .pick, [.t 26, .c (.bool true), .t 29]⟩]).seq (C.cond (.t 30) ((C.ops [⟨some 6, none, .nilo 0 1 9, []⟩, ⟨some 7, none, .mv, [.c (.int .i64 4)]⟩]).seq C.ret)
  C.skip)).seq ((C.ops [⟨some 31, none, .mkmap 1, []⟩, ⟨some 8, none, .mv, [.t 31]⟩]).seq (((C.ops [⟨some 32, none, .mv, [.t 1]⟩, ⟨some 33, none, .len, [.t 32]⟩, ⟨some 34, none, .mv,
  [.c (.int .i64 0)]⟩]).seq (C.block 0 ((C.ops [⟨some 35, none, .bin .lss, [.t 34, .t 33]⟩]).seq ((C.cond (.t 35) C.skip (C.exit 0)).seq ((C.block 1 ((C.ops [⟨some 36, none, .mv, [.t
  34]⟩, ⟨some 37, none, .idxA 1, [.t 32, .t 34]⟩, ⟨some 38, none, .load none, [.t 37]⟩, ⟨some 9, none, .mv, [.t 36]⟩, ⟨some 10, none, .mv, [.t 38]⟩]).seq (((C.ops [⟨some 39, none,
  .mv, [.t 10]⟩, ⟨some 40, none, .call 44 true, [.t 39]⟩, ⟨some 41, none, .un UnOp.not, [.t 40]⟩]).seq (C.cond (.t 41) ((C.ops [⟨some 6, none, .nilo 0 1 9, []⟩, ⟨some 7, none, .mv,
  [.c (.int .i64 14)]⟩]).seq C.ret) C.skip)).seq (((C.ops [⟨some 43, none, .mv, [.t 8]⟩, ⟨some 44, none, .mv, [.t 10]⟩, ⟨some 45, none, .mlk .str true (.int .i64 0), [.t 43, .t 44]⟩,
  ⟨some 42, none, .mv, [.t 45]⟩, ⟨some 46, none, .ext 0, [.t 42]⟩, ⟨some 47, none, .ext 1, [.t 42]⟩, ⟨some 11, none, .mv, [.t 46]⟩, ⟨some 12, none, .mv, [.t 47]⟩]).seq ((C.ops [⟨some
  48, none, .mv, [.t 12]⟩]).seq (C.cond (.t 48) ((C.ops [⟨some 6, none, .nilo 0 1 9, []⟩, ⟨some 7, none, .mv, [.c (.int .i64 7)]⟩]).seq C.ret) C.skip))).seq (((C.ops [⟨some 49, none,
  .mv, [.t 2]⟩, ⟨some 50, none, .mv, [.t 9]⟩, ⟨some 51, none, .idxA 1, [.t 49, .t 50]⟩, ⟨some 52, none, .load none, [.t 51]⟩, ⟨some 53, none, .bin .lss, [.t 52, .c (.int .i64 1)]⟩,
  ⟨some 54, none, .mv, [.t 53]⟩, ⟨some 55, some (54, false), .mv, [.t 2]⟩, ⟨some 56, some (54, false), .mv, [.t 9]⟩, ⟨some 57, some (54, false), .idxA 1, [.t 55, .t 56]⟩, ⟨some 58,
  some (54, false), .load none, [.t 57]⟩, ⟨some 59, some (54, false), .bin .gtr, [.t 58, .c (.int .i64 4096)]⟩, ⟨some 60, none, .pick, [.t 54, .c (.bool true), .t 59]⟩]).seq (C.cond
  (.t 60) ((C.ops [⟨some 6, none, .nilo 0 1 9, []⟩, ⟨some 7, none, .mv, [.c (.int .i64 2)]⟩]).seq C.ret) C.skip)).seq (C.ops [⟨some 61, none, .mv, [.t 8]⟩, ⟨some 62, none, .mv, [.t
  10]⟩, ⟨some 63, none, .mv, [.t 2]⟩, ⟨some 64, none, .mv, [.t 9]⟩, ⟨some 65, none, .idxA 1, [.t 63, .t 64]⟩, ⟨some 66, none, .load none, [.t 65]⟩, ⟨none, none, .mupd .str, [.t 61,
  .t 62, .t 66]⟩])))))).seq (C.ops [⟨some 67, none, .bin .add, [.t 34, .c (.int .i64 1)]⟩, ⟨some 34, none, .mv, [.t 67]⟩])))).loop)).seq ((C.ops [⟨some 68, none, .mv, [.t 0]⟩, ⟨some
  69, none, .call 45 false, [.t 68]⟩, ⟨some 13, none, .mv, [.t 69]⟩]).seq (((C.ops [⟨some 70, none, .mv, [.t 0]⟩, ⟨some 71, none, .len, [.t 70]⟩, ⟨some 72, none, .mv, [.c (.int .i64
  0)]⟩]).seq (C.block 2 ((C.ops [⟨some 73, none, .bin .lss, [.t 72, .t 71]⟩]).seq ((C.cond (.t 73) C.skip (C.exit 2)).seq ((C.block 3 ((C.ops [⟨some 74, none, .mv, [.t 72]⟩, ⟨some
  75, none, .idxA 1, [.t 70, .t 72]⟩, ⟨some 76, none, .load none, [.t 75]⟩, ⟨some 14, none, .mv, [.t 74]⟩, ⟨some 15, none, .mv, [.t 76]⟩]).seq ((C.ops [⟨some 78, none, .mv, [.t 15]⟩,
  ⟨some 79, none, .mv, [.t 8]⟩, ⟨some 80, none, .call 46 true, [.t 78, .t 79]⟩, ⟨some 77, none, .mv, [.t 80]⟩, ⟨some 81, none, .ext 0, [.t 77]⟩, ⟨some 82, none, .ext 1, [.t 77]⟩,
  ⟨some 16, none, .mv, [.t 81]⟩, ⟨some 17, none, .mv, [.t 82]⟩]).seq (((C.ops [⟨some 83, none, .mv, [.t 17]⟩, ⟨some 84, none, .bin .neq, [.t 83, .c (.int .i64 0)]⟩]).seq (C.cond (.t
  84) ((C.ops [⟨some 85, none, .mv, [.t 17]⟩, ⟨some 6, none, .nilo 0 1 9, []⟩, ⟨some 7, none, .mv, [.t 85]⟩]).seq C.ret) C.skip)).seq (C.ops [⟨some 86, none, .mv, [.t 13]⟩, ⟨some 87,
  none, .mv, [.t 14]⟩, ⟨some 88, none, .mv, [.t 16]⟩, ⟨some 89, none, .idxA 1, [.t 86, .t 87]⟩, ⟨none, none, .store 1, [.t 89, .t 88]⟩]))))).seq (C.ops [⟨some 90, none, .bin .add,
  [.t 72, .c (.int .i64 1)]⟩, ⟨some 72, none, .mv, [.t 90]⟩])))).loop)).seq ((C.ops [⟨some 91, none, .mv, [.t 13]⟩, ⟨some 6, none, .mv, [.t 91]⟩, ⟨some 7, none, .mv, [.c (.int .i64
  0)]⟩]).seq
  C.ret))))))))
theorem fn21m : FnIs Tryd.prog 21 92 3 [RV.tmp 6, RV.tmp 7] c21m := ⟨Tryd.f21, Tryd.f21.body.getD .skip, [6, 31, 69], [93, 67, 70, 45, 59], [], by kernel_rfl, by kernel_rfl, by kernel_rfl, by kernel_rfl, by kernel_rfl, by kernel_rfl, by kernel_rfl⟩

end HY
end

section
open Go Go.Proofs AF HY
namespace LN
set_option maxRecDepth 100000
def bindL : List (List UInt8 × Int) → List (List UInt8 × Int) → Int × List (List UInt8 × Int)
  | [], m => (0, m)
  | (l, v) :: r, m => if isName l = false then (14, []) else if (m.lookup l).isSome = true then (7, []) else if v < 1 ∨ 4096 < v then (2, []) else bindL r (m ++ [(l, v)])
def resAll (m : List (List UInt8 × Int)) (it : Int → List UInt8) : List (List UInt8) → Int × List (List UInt8)
  | [] => (0, [])
  | t :: r => if (resV m it t).2 ≠ 0 then ((resV m it t).2, []) else if (resAll m it r).1 ≠ 0 then ((resAll m it r).1, []) else (0, (resV m it t).1 :: (resAll m it r).2)
def resO (it : Int → List UInt8) (ts L : List (List UInt8)) (V : List Int) : Int × List (List UInt8) :=
  if L.length ≠ V.length then (9, []) else if 4096 < L.length ∨ 4096 < ts.length then (4, []) else if (bindL (L.zip V) []).1 ≠ 0 then ((bindL (L.zip V) []).1, []) else resAll (bindL (L.zip V) []).2 it ts
theorem zip_drop {L : List (List UInt8)} {V : List Int} {i : Nat} (h1 : i < L.length) (h2 : i < V.length) : (L.zip V).drop i = (L.getD i [], V.getD i 0) :: (L.zip V).drop (i + 1) := by
  rw [List.drop_eq_getElem_cons (by simp; omega)]
  simp [List.getD_eq_getElem?_getD, h1, h2]
theorem lookup_mem {m : List (List UInt8 × Int)} {k : List UInt8} {n : Int} (h : m.lookup k = some n) : (k, n) ∈ m := by
  induction m with
  | nil => cases h
  | cons p m ih =>
    obtain ⟨a, b⟩ := p
    rw [List.lookup_cons] at h
    split at h
    · rename_i e
      cases h
      rw [eq_of_beq e]
      simp
    · exact List.mem_cons_of_mem _ (ih h)
def curT (f : List UInt8 → List UInt8) (ts : List (List UInt8)) (i : Nat) : List (List UInt8) := (ts.take i).map f ++ ts.drop i
theorem cur_len (f : List UInt8 → List UInt8) (ts : List (List UInt8)) (i : Nat) (hi : i ≤ ts.length) : (curT f ts i).length = ts.length := by simp [curT]; omega
theorem cur_set {f : List UInt8 → List UInt8} {ts : List (List UInt8)} {i : Nat} (hi : i < ts.length) : (strC (curT f ts i)).take i ++ AV.str (f (ts.getD i [])) :: (strC (curT f ts i)).drop (i + 1) = strC (curT f ts (i + 1)) := by
  have e1 : (((ts.take i).map f).map fun s => AV.str s).length = i := by simp; omega
  have e2 : ts.take (i + 1) = ts.take i ++ [ts.getD i []] := by rw [List.take_add_one, List.getD_eq_getElem?_getD, List.getElem?_eq_getElem hi]; rfl
  unfold strC curT
  rw [e2]
  simp only [List.map_append, List.map_cons, List.map_nil]
  rw [List.take_append_of_le_length (by omega), List.take_of_length_le (by omega), List.drop_append, e1, List.drop_eq_nil_of_le (by omega), List.nil_append, show i + 1 - i = 1 by omega, ← List.map_drop, List.drop_drop]
  simp
theorem resAll_err {m : List (List UInt8 × Int)} {it : Int → List UInt8} : ∀ {ts : List (List UInt8)} {i : Nat}, i < ts.length → (∀ j, j < i → (resV m it (ts.getD j [])).2 = 0) → (resV m it (ts.getD i [])).2 ≠ 0 → resAll m it ts = ((resV m it (ts.getD i [])).2, []) := by
  intro ts
  induction ts with
  | nil => intro i hi; simp at hi
  | cons t r ih =>
    intro i hi hj he
    unfold resAll
    cases i with
    | zero => rw [List.getD_cons_zero] at he ⊢; rw [if_pos he]
    | succ i =>
      have h0 := hj 0 (by omega)
      rw [List.getD_cons_zero] at h0
      rw [List.getD_cons_succ] at he ⊢
      rw [if_neg (fun hc => hc h0), ih (by simpa using hi) (fun j h => by have := hj (j + 1) (by omega); rwa [List.getD_cons_succ] at this) he, if_pos he]
theorem resAll_ok {m : List (List UInt8 × Int)} {it : Int → List UInt8} : ∀ {ts : List (List UInt8)}, (∀ j, j < ts.length → (resV m it (ts.getD j [])).2 = 0) → resAll m it ts = (0, ts.map fun t => (resV m it t).1) := by
  intro ts
  induction ts with
  | nil => intro _; rfl
  | cons t r ih =>
    intro hj
    unfold resAll
    have h0 := hj 0 (by simp)
    rw [List.getD_cons_zero] at h0
    rw [if_neg (fun hc => hc h0), ih (fun j h => by have := hj (j + 1) (by simp; omega); rwa [List.getD_cons_succ] at this), if_neg (by simp)]
    rfl
theorem nl_strs : VLe .nl (strs []) := VLe_nl
set_option maxHeartbeats 4000000 in
theorem t21 (it : Int → List UInt8) (ts L : List (List UInt8)) (V : List Int) (h : List AObj) (h1 : ts.length ≤ 1000000000) (h2 : L.length ≤ 1000000000) (h3 : V.length ≤ 1000000000)
    (h4 : ∀ i, i < ts.length → (ts.getD i []).length ≤ 1000000000) (h5 : ∀ i, i < L.length → (L.getD i []).length ≤ 1000000000)
    (hit : ∀ n, n ∈ V → 1 ≤ n → n ≤ 4096 → (it n).length ≤ 20 ∧ ∀ l, ACalls Tryd.prog 48 [.int .i64 n] (h ++ l) (.str (it n)) (h ++ l)) :
    ACalls Tryd.prog 21 [strs ts, strs L, intsV V] h (.tup [strs (resO it ts L V).2, .int .i64 (resO it ts L V).1]) h := by
  by_cases g1 : L.length = V.length
  · have k1 : ((L.length : Int) = V.length) = True := eq_true (by omega)
    by_cases g2 : 4096 < L.length
    · have k2 : (4096 < (L.length : Int)) = True := eq_true (by omega)
      have hV : resO it ts L V = (4, []) := by unfold resO; rw [if_neg (fun hc => hc g1), if_pos (.inl g2)]
      rw [hV]
      refine acalls_of fn21m (by simp) ?_
      simp only [List.length_cons, List.length_nil, Nat.reduceAdd, Nat.reduceSub, List.replicate, List.cons_append, List.nil_append, List.append_nil]
      simp (disch := omega) only [c21m, k1, k2, strs, intsV, go_sem, wrap64_id, Int.tdiv_eq_ediv_of_nonneg, Int.tmod_eq_emod_of_nonneg]
      repeat' first
        | ((first | refine fnQ_pure1 ?_ ?_ | refine fnQ_pure0 ?_ ?_); (next => repeat' first | exact rvs_n | refine rvs_t ?_ | (simp [go_sem]; done)); simp only [go_sem]; (first | exact VLe.refl _ | refine VLe_int ?_ | refine VLe_bool ?_ | refine VLe_str ?_ | skip))
        | (with_reducible refine And.intro ?_ ?_)
        | with_reducible intro _
      all_goals first
        | omega
        | (rename_i hx; revert hx; simp; done)
        | (simp; done)
        | skip
      all_goals exact VLe_tup ⟨nl_strs, VLe.refl _, trivial⟩
    have k2 : (4096 < (L.length : Int)) = False := eq_false (by omega)
    by_cases g3 : 4096 < ts.length
    · have k3 : (4096 < (ts.length : Int)) = True := eq_true (by omega)
      have hV : resO it ts L V = (4, []) := by unfold resO; rw [if_neg (fun hc => hc g1), if_pos (.inr g3)]
      rw [hV]
      refine acalls_of fn21m (by simp) ?_
      simp only [List.length_cons, List.length_nil, Nat.reduceAdd, Nat.reduceSub, List.replicate, List.cons_append, List.nil_append, List.append_nil]
      simp (disch := omega) only [c21m, k1, k2, k3, strs, intsV, go_sem, wrap64_id, Int.tdiv_eq_ediv_of_nonneg, Int.tmod_eq_emod_of_nonneg]
      repeat' first
        | ((first | refine fnQ_pure1 ?_ ?_ | refine fnQ_pure0 ?_ ?_); (next => repeat' first | exact rvs_n | refine rvs_t ?_ | (simp [go_sem]; done)); simp only [go_sem]; (first | exact VLe.refl _ | refine VLe_int ?_ | refine VLe_bool ?_ | refine VLe_str ?_ | skip))
        | (with_reducible refine And.intro ?_ ?_)
        | with_reducible intro _
      all_goals first
        | omega
        | (rename_i hx; revert hx; simp; done)
        | (simp; done)
        | skip
      all_goals exact VLe_tup ⟨nl_strs, VLe.refl _, trivial⟩
    have k3 : (4096 < (ts.length : Int)) = False := eq_false (by omega)
    have hR : resO it ts L V = if (bindL (L.zip V) []).1 ≠ 0 then ((bindL (L.zip V) []).1, []) else resAll (bindL (L.zip V) []).2 it ts := by
      unfold resO; rw [if_neg (fun hc => hc g1), if_neg (by rintro (h | h) <;> omega)]
    obtain ⟨R, hRR⟩ : ∃ R, R = resO it ts L V := ⟨_, rfl⟩
    rw [← hRR] at hR ⊢
    refine acalls_of fn21m (by simp) ?_
    simp only [List.length_cons, List.length_nil, Nat.reduceAdd, Nat.reduceSub, List.replicate, List.cons_append, List.nil_append, List.append_nil]
    simp (disch := omega) only [c21m, k1, k2, k3, strs, intsV, go_sem, wrap64_id, Int.tdiv_eq_ediv_of_nonneg, Int.tmod_eq_emod_of_nonneg]
    repeat' first
      | ((first | refine fnQ_pure1 ?_ ?_ | refine fnQ_pure0 ?_ ?_); (next => repeat' first | exact rvs_n | refine rvs_t ?_ | (simp [go_sem]; done)); simp only [go_sem]; (first | exact VLe.refl _ | refine VLe_int ?_ | refine VLe_bool ?_ | refine VLe_str ?_ | skip))
      | (with_reducible refine And.intro ?_ ?_)
      | with_reducible intro _
    all_goals first
      | omega
      | (rename_i hx; revert hx; simp; done)
      | (simp; done)
      | skip
    refine loop_of (T := fun i : Nat × List (List UInt8 × Int) => spar 92 [(0, strs ts), (2, intsV V), (8, .mp (h.length + 1) 1), (32, strs L), (33, .int .i64 L.length), (34, .int .i64 i.1)])
      (H := fun i => h ++ [.emp 1, .map 1 (smap i.2), .emp 0])
      (inv := fun i => i.1 ≤ L.length ∧ bindL (L.zip V) [] = bindL ((L.zip V).drop i.1) i.2 ∧ ∀ p ∈ i.2, p.2 ∈ V ∧ 1 ≤ p.2 ∧ p.2 ≤ 4096) (m := fun i => L.length - i.1) (0, []) ⟨Nat.zero_le _, rfl, by simp⟩ (Wk.temps ?_) ?_
    · (simp only [strs, intsV, spar, List.foldl, List.replicate, go_sem, VLes_nil, VLes_cons, VLe_undef_iff, VLe_self]; try (repeat' first | (with_reducible refine And.intro ?_ ?_) | (refine VLe_int ?_; omega) | (refine VLe_bool ?_; rfl) | exact VLe.refl _))
    rintro ⟨i, m⟩ ⟨i1, i2, i3⟩ K hK
    simp only at i1 i2 i3 hK
    by_cases hi : i < L.length
    · have q0 : ((i : Int) < V.length) = True := eq_true (by omega)
      rw [zip_drop hi (by omega)] at i2
      have c44 := fun h => t44 (L.getD i []) h (h5 i hi)
      obtain ⟨l, hl⟩ : ∃ l, l = L.getD i [] := ⟨_, rfl⟩
      obtain ⟨v, hv⟩ : ∃ v, v = V.getD i 0 := ⟨_, rfl⟩
      have hvm : v ∈ V := by rw [hv, List.getD_eq_getElem?_getD, List.getElem?_eq_getElem (show i < V.length by omega)]; exact List.getElem_mem _
      have el := hl.symm
      have ev := hv.symm
      rw [el, ev] at i2
      rw [el] at c44
      simp only [bindL] at i2
      cases hn : isName l with
      | false =>
        rw [hn] at c44 i2
        rw [if_pos rfl] at i2
        have hV : R = (14, []) := by rw [hR, i2]; rfl
        rw [hV]
        simp (disch := omega) only [spar, List.foldl, List.replicate, strs, intsV, el, ev, go_sem, wrap64_id, Int.tdiv_eq_ediv_of_nonneg, Int.tmod_eq_emod_of_nonneg]
        repeat' first
          | ((first | refine callA_pure (c44 _) ?_ ?_); (next => repeat' first | exact flags_n | refine flags_c (by first | rfl | assumption) ?_); simp (disch := omega) only [strs, intsV, el, ev, go_sem, wrap64_id, Int.tdiv_eq_ediv_of_nonneg, Int.tmod_eq_emod_of_nonneg])
          | ((first | refine callU_of (fun _ => c44 _) ?_ ?_); (next => repeat' first | exact flags_n | refine flags_c (by first | rfl | assumption) ?_); simp (disch := omega) only [strs, intsV, el, ev, go_sem, wrap64_id, Int.tdiv_eq_ediv_of_nonneg, Int.tmod_eq_emod_of_nonneg])
          | ((first | refine callG_pure (fun e => ⟨?_, c44 _⟩) ?_); (next => repeat' first | exact flags_n | refine flags_c (by first | rfl | assumption) ?_); simp (disch := omega) only [strs, intsV, el, ev, go_sem, wrap64_id, Int.tdiv_eq_ediv_of_nonneg, Int.tmod_eq_emod_of_nonneg])
          | ((first | refine fnQ_pure1 ?_ ?_ | refine fnQ_pure0 ?_ ?_); (next => repeat' first | exact rvs_n | refine rvs_t ?_ | (simp [go_sem]; done)); simp only [go_sem]; (first | exact VLe.refl _ | refine VLe_int ?_ | refine VLe_bool ?_ | refine VLe_str ?_ | skip))
          | (with_reducible refine And.intro ?_ ?_)
          | with_reducible intro _
        all_goals first
          | omega
          | (rename_i hx; revert hx; simp; done)
          | (simp; done)
          | skip
        all_goals exact VLe_tup ⟨nl_strs, VLe.refl _, trivial⟩
      | true =>
      rw [hn] at c44 i2
      rw [if_neg (by simp)] at i2
      cases hk : m.lookup l with
      | some u =>
        rw [hk] at i2
        rw [if_pos (show (some u).isSome = true from rfl)] at i2
        have hV : R = (7, []) := by rw [hR, i2]; rfl
        rw [hV]
        have e1 := mget_smap_some (z := .int .i64 0) hk
        simp (disch := omega) only [spar, List.foldl, List.replicate, strs, intsV, el, ev, go_sem, wrap64_id, Int.tdiv_eq_ediv_of_nonneg, Int.tmod_eq_emod_of_nonneg]
        repeat' first
          | ((first | refine callA_pure (c44 _) ?_ ?_); (next => repeat' first | exact flags_n | refine flags_c (by first | rfl | assumption) ?_); simp (disch := omega) only [strs, intsV, el, ev, e1, mfind_smap_ok, Option.getD_some, Option.isSome_some, go_sem, wrap64_id, Int.tdiv_eq_ediv_of_nonneg, Int.tmod_eq_emod_of_nonneg])
          | ((first | refine callU_of (fun _ => c44 _) ?_ ?_); (next => repeat' first | exact flags_n | refine flags_c (by first | rfl | assumption) ?_); simp (disch := omega) only [strs, intsV, el, ev, e1, mfind_smap_ok, Option.getD_some, Option.isSome_some, go_sem, wrap64_id, Int.tdiv_eq_ediv_of_nonneg, Int.tmod_eq_emod_of_nonneg])
          | ((first | refine callG_pure (fun e => ⟨?_, c44 _⟩) ?_); (next => repeat' first | exact flags_n | refine flags_c (by first | rfl | assumption) ?_); simp (disch := omega) only [strs, intsV, el, ev, e1, mfind_smap_ok, Option.getD_some, Option.isSome_some, go_sem, wrap64_id, Int.tdiv_eq_ediv_of_nonneg, Int.tmod_eq_emod_of_nonneg])
          | ((first | refine fnQ_pure1 ?_ ?_ | refine fnQ_pure0 ?_ ?_); (next => repeat' first | exact rvs_n | refine rvs_t ?_ | (simp [go_sem]; done)); simp only [go_sem]; (first | exact VLe.refl _ | refine VLe_int ?_ | refine VLe_bool ?_ | refine VLe_str ?_ | skip))
          | (with_reducible refine And.intro ?_ ?_)
          | with_reducible intro _
        all_goals first
          | omega
          | (rename_i hx; revert hx; simp; done)
          | (simp; done)
          | skip
        all_goals exact VLe_tup ⟨nl_strs, VLe.refl _, trivial⟩
      | none =>
      rw [hk] at i2
      rw [if_neg (by simp)] at i2
      have e1 := mget_smap_none (z := .int .i64 0) hk
      have e2 := mset_smap (v := v) hk
      by_cases r1 : v < 1
      · have q1 : (v < 1) = True := eq_true r1
        rw [if_pos (.inl r1)] at i2
        have hV : R = (2, []) := by rw [hR, i2]; rfl
        rw [hV]
        simp (disch := omega) only [spar, List.foldl, List.replicate, strs, intsV, el, ev, q0, q1, go_sem, wrap64_id, Int.tdiv_eq_ediv_of_nonneg, Int.tmod_eq_emod_of_nonneg]
        repeat' first
          | ((first | refine callA_pure (c44 _) ?_ ?_); (next => repeat' first | exact flags_n | refine flags_c (by first | rfl | assumption) ?_); simp (disch := omega) only [strs, intsV, el, ev, e1, q0, q1, mfind_smap_ok, Option.getD_some, Option.isSome_some, go_sem, wrap64_id, Int.tdiv_eq_ediv_of_nonneg, Int.tmod_eq_emod_of_nonneg])
          | ((first | refine callU_of (fun _ => c44 _) ?_ ?_); (next => repeat' first | exact flags_n | refine flags_c (by first | rfl | assumption) ?_); simp (disch := omega) only [strs, intsV, el, ev, e1, q0, q1, mfind_smap_ok, Option.getD_some, Option.isSome_some, go_sem, wrap64_id, Int.tdiv_eq_ediv_of_nonneg, Int.tmod_eq_emod_of_nonneg])
          | ((first | refine callG_pure (fun e => ⟨?_, c44 _⟩) ?_); (next => repeat' first | exact flags_n | refine flags_c (by first | rfl | assumption) ?_); simp (disch := omega) only [strs, intsV, el, ev, e1, q0, q1, mfind_smap_ok, Option.getD_some, Option.isSome_some, go_sem, wrap64_id, Int.tdiv_eq_ediv_of_nonneg, Int.tmod_eq_emod_of_nonneg])
          | ((first | refine fnQ_pure1 ?_ ?_ | refine fnQ_pure0 ?_ ?_); (next => repeat' first | exact rvs_n | refine rvs_t ?_ | (simp [go_sem]; done)); simp only [go_sem]; (first | exact VLe.refl _ | refine VLe_int ?_ | refine VLe_bool ?_ | refine VLe_str ?_ | skip))
          | (with_reducible refine And.intro ?_ ?_)
          | with_reducible intro _
        all_goals first
          | omega
          | (rename_i hx; revert hx; simp; done)
          | (simp; done)
          | skip
        all_goals exact VLe_tup ⟨nl_strs, VLe.refl _, trivial⟩
      have q1 : (v < 1) = False := eq_false r1
      by_cases r2 : 4096 < v
      · have q2 : (4096 < v) = True := eq_true r2
        rw [if_pos (.inr r2)] at i2
        have hV : R = (2, []) := by rw [hR, i2]; rfl
        rw [hV]
        simp (disch := omega) only [spar, List.foldl, List.replicate, strs, intsV, el, ev, q0, q1, q2, go_sem, wrap64_id, Int.tdiv_eq_ediv_of_nonneg, Int.tmod_eq_emod_of_nonneg]
        repeat' first
          | ((first | refine callA_pure (c44 _) ?_ ?_); (next => repeat' first | exact flags_n | refine flags_c (by first | rfl | assumption) ?_); simp (disch := omega) only [strs, intsV, el, ev, e1, q0, q1, q2, mfind_smap_ok, Option.getD_some, Option.isSome_some, go_sem, wrap64_id, Int.tdiv_eq_ediv_of_nonneg, Int.tmod_eq_emod_of_nonneg])
          | ((first | refine callU_of (fun _ => c44 _) ?_ ?_); (next => repeat' first | exact flags_n | refine flags_c (by first | rfl | assumption) ?_); simp (disch := omega) only [strs, intsV, el, ev, e1, q0, q1, q2, mfind_smap_ok, Option.getD_some, Option.isSome_some, go_sem, wrap64_id, Int.tdiv_eq_ediv_of_nonneg, Int.tmod_eq_emod_of_nonneg])
          | ((first | refine callG_pure (fun e => ⟨?_, c44 _⟩) ?_); (next => repeat' first | exact flags_n | refine flags_c (by first | rfl | assumption) ?_); simp (disch := omega) only [strs, intsV, el, ev, e1, q0, q1, q2, mfind_smap_ok, Option.getD_some, Option.isSome_some, go_sem, wrap64_id, Int.tdiv_eq_ediv_of_nonneg, Int.tmod_eq_emod_of_nonneg])
          | ((first | refine fnQ_pure1 ?_ ?_ | refine fnQ_pure0 ?_ ?_); (next => repeat' first | exact rvs_n | refine rvs_t ?_ | (simp [go_sem]; done)); simp only [go_sem]; (first | exact VLe.refl _ | refine VLe_int ?_ | refine VLe_bool ?_ | refine VLe_str ?_ | skip))
          | (with_reducible refine And.intro ?_ ?_)
          | with_reducible intro _
        all_goals first
          | omega
          | (rename_i hx; revert hx; simp; done)
          | (simp; done)
          | skip
        all_goals exact VLe_tup ⟨nl_strs, VLe.refl _, trivial⟩
      have q2 : (4096 < v) = False := eq_false r2
      rw [if_neg (by rintro (h | h) <;> contradiction)] at i2
      simp (disch := omega) only [spar, List.foldl, List.replicate, strs, intsV, el, ev, q0, q1, q2, go_sem, wrap64_id, Int.tdiv_eq_ediv_of_nonneg, Int.tmod_eq_emod_of_nonneg]
      repeat' first
        | ((first | refine callA_pure (c44 _) ?_ ?_); (next => repeat' first | exact flags_n | refine flags_c (by first | rfl | assumption) ?_); simp (disch := omega) only [strs, intsV, el, ev, e1, e2, q0, q1, q2, mfind_smap_ok, Option.getD_some, Option.isSome_some, go_sem, wrap64_id, Int.tdiv_eq_ediv_of_nonneg, Int.tmod_eq_emod_of_nonneg])
        | ((first | refine callU_of (fun _ => c44 _) ?_ ?_); (next => repeat' first | exact flags_n | refine flags_c (by first | rfl | assumption) ?_); simp (disch := omega) only [strs, intsV, el, ev, e1, e2, q0, q1, q2, mfind_smap_ok, Option.getD_some, Option.isSome_some, go_sem, wrap64_id, Int.tdiv_eq_ediv_of_nonneg, Int.tmod_eq_emod_of_nonneg])
        | ((first | refine callG_pure (fun e => ⟨?_, c44 _⟩) ?_); (next => repeat' first | exact flags_n | refine flags_c (by first | rfl | assumption) ?_); simp (disch := omega) only [strs, intsV, el, ev, e1, e2, q0, q1, q2, mfind_smap_ok, Option.getD_some, Option.isSome_some, go_sem, wrap64_id, Int.tdiv_eq_ediv_of_nonneg, Int.tmod_eq_emod_of_nonneg])
        | ((first | refine fnQ_pure1 ?_ ?_ | refine fnQ_pure0 ?_ ?_); (next => repeat' first | exact rvs_n | refine rvs_t ?_ | (simp [go_sem]; done)); simp only [go_sem]; (first | exact VLe.refl _ | refine VLe_int ?_ | refine VLe_bool ?_ | refine VLe_str ?_ | skip))
        | (with_reducible refine And.intro ?_ ?_)
        | with_reducible intro _
      all_goals first
        | omega
        | (rename_i hx; revert hx; simp; done)
        | (simp; done)
        | skip
      refine hK _ _ (i + 1, m ++ [(l, v)]) ⟨hi, i2, fun p hp => ?_⟩ (by simp only; omega) (Wk.temps ?_)
      · rcases List.mem_append.1 hp with hp | hp
        · exact i3 p hp
        · rw [List.mem_singleton] at hp
          subst hp
          exact ⟨hvm, by simp only; omega, by simp only; omega⟩
      · (simp only [strs, intsV, spar, List.foldl, List.replicate, go_sem, VLes_nil, VLes_cons, VLe_undef_iff, VLe_self]; try (repeat' first | (with_reducible refine And.intro ?_ ?_) | (refine VLe_int ?_; omega) | (refine VLe_bool ?_; rfl) | exact VLe.refl _))
    have e : i = L.length := by omega
    subst e
    rw [List.drop_eq_nil_of_le (by simp; omega)] at i2
    simp only [bindL] at i2
    have hR : R = resAll m it ts := by rw [hR, i2, if_neg (by simp)]
    by_cases ht : ts = []
    · subst ht
      have hV : R = (0, []) := hR
      rw [hV]
      simp (disch := omega) only [spar, List.foldl, List.replicate, strs, intsV, go_sem, wrap64_id, Int.tdiv_eq_ediv_of_nonneg, Int.tmod_eq_emod_of_nonneg]
      repeat' first
        | ((first | refine fnQ_pure1 ?_ ?_ | refine fnQ_pure0 ?_ ?_); (next => repeat' first | exact rvs_n | refine rvs_t ?_ | (simp [go_sem]; done)); simp only [go_sem]; (first | exact VLe.refl _ | refine VLe_int ?_ | refine VLe_bool ?_ | refine VLe_str ?_ | skip))
        | (with_reducible refine And.intro ?_ ?_)
        | with_reducible intro _
      all_goals first
        | omega
        | (rename_i hx; revert hx; simp; done)
        | (simp; done)
        | skip
      refine callA_eff (t45z _) ⟨rfl, trivial⟩ ?_
      simp (disch := omega) only [strs, go_sem, wrap64_id, Int.tdiv_eq_ediv_of_nonneg, Int.tmod_eq_emod_of_nonneg]
      repeat' first
        | ((first | refine fnQ_pure1 ?_ ?_ | refine fnQ_pure0 ?_ ?_); (next => repeat' first | exact rvs_n | refine rvs_t ?_ | (simp [go_sem]; done)); simp only [go_sem]; (first | exact VLe.refl _ | refine VLe_int ?_ | refine VLe_bool ?_ | refine VLe_str ?_ | skip))
        | (with_reducible refine And.intro ?_ ?_)
        | with_reducible intro _
      all_goals first
        | omega
        | (rename_i hx; revert hx; simp; done)
        | (simp; done)
        | skip
      refine loop_of (T := fun _ : Unit => spar 92 [(13, strs []), (70, strs []), (71, .int .i64 0), (72, .int .i64 0)]) (H := fun _ => h ++ [.emp 1, .map 1 (smap m), .emp 0]) (inv := fun _ => True) (m := fun _ => 0) () trivial (Wk.temps ?_) ?_
      · (simp only [strs, spar, List.foldl, List.replicate, go_sem, VLes_nil, VLes_cons, VLe_undef_iff, VLe_self]; try (repeat' first | (with_reducible refine And.intro ?_ ?_) | (refine VLe_int ?_; omega) | (refine VLe_bool ?_; rfl) | exact VLe.refl _))
      rintro _ _ K hK
      simp (disch := omega) only [spar, List.foldl, List.replicate, strs, go_sem, wrap64_id, Int.tdiv_eq_ediv_of_nonneg, Int.tmod_eq_emod_of_nonneg]
      repeat' first
        | ((first | refine fnQ_pure1 ?_ ?_ | refine fnQ_pure0 ?_ ?_); (next => repeat' first | exact rvs_n | refine rvs_t ?_ | (simp [go_sem]; done)); simp only [go_sem]; (first | exact VLe.refl _ | refine VLe_int ?_ | refine VLe_bool ?_ | refine VLe_str ?_ | skip))
        | (with_reducible refine And.intro ?_ ?_)
        | with_reducible intro _
      all_goals first
        | omega
        | (rename_i hx; revert hx; simp; done)
        | (simp; done)
        | skip
    have hit' : ∀ n, (∃ k, m.lookup k = some n) → (it n).length ≤ 20 ∧ ∀ l, ACalls Tryd.prog 48 [.int .i64 n] (h ++ l) (.str (it n)) (h ++ l) := by
      rintro n ⟨k, hk⟩
      have := i3 _ (lookup_mem hk)
      exact hit n this.1 this.2.1 this.2.2
    simp (disch := omega) only [spar, List.foldl, List.replicate, strs, intsV, go_sem, wrap64_id, Int.tdiv_eq_ediv_of_nonneg, Int.tmod_eq_emod_of_nonneg]
    repeat' first
      | ((first | refine fnQ_pure1 ?_ ?_ | refine fnQ_pure0 ?_ ?_); (next => repeat' first | exact rvs_n | refine rvs_t ?_ | (simp [go_sem]; done)); simp only [go_sem]; (first | exact VLe.refl _ | refine VLe_int ?_ | refine VLe_bool ?_ | refine VLe_str ?_ | skip))
      | (with_reducible refine And.intro ?_ ?_)
      | with_reducible intro _
    all_goals first
      | omega
      | (rename_i hx; revert hx; simp; done)
      | (simp; done)
      | skip
    refine callA_eff (t45m ts _ (h.length + 2) (by simp only [go_sem]) ht (by omega)) ⟨rfl, trivial⟩ ?_
    simp (disch := omega) only [strs, go_sem, wrap64_id, Int.tdiv_eq_ediv_of_nonneg, Int.tmod_eq_emod_of_nonneg]
    repeat' first
      | ((first | refine fnQ_pure1 ?_ ?_ | refine fnQ_pure0 ?_ ?_); (next => repeat' first | exact rvs_n | refine rvs_t ?_ | (simp [go_sem]; done)); simp only [go_sem]; (first | exact VLe.refl _ | refine VLe_int ?_ | refine VLe_bool ?_ | refine VLe_str ?_ | skip))
      | (with_reducible refine And.intro ?_ ?_)
      | with_reducible intro _
    all_goals first
      | omega
      | (rename_i hx; revert hx; simp; done)
      | (simp; done)
      | skip
    obtain ⟨f, hf⟩ : ∃ f : List UInt8 → List UInt8, f = fun t => (resV m it t).1 := ⟨_, rfl⟩
    refine loop_of (T := fun i : Nat => spar 92 [(8, .mp (h.length + 1) 1), (13, .osl (h.length + 2) 1 1 0 ts.length), (70, strs ts), (71, .int .i64 ts.length), (72, .int .i64 i)])
      (H := fun i => h ++ [.emp 1, .map 1 (smap m), .mem 1 9 (strC (curT f ts i))])
      (inv := fun i => i ≤ ts.length ∧ ∀ j, j < i → (resV m it (ts.getD j [])).2 = 0) (m := fun i => ts.length - i) 0 ⟨Nat.zero_le _, by simp⟩ (Wk.temps ?_) ?_
    · (simp only [strs, spar, List.foldl, List.replicate, go_sem, VLes_nil, VLes_cons, VLe_undef_iff, VLe_self]; try (repeat' first | (with_reducible refine And.intro ?_ ?_) | (refine VLe_int ?_; omega) | (refine VLe_bool ?_; rfl) | exact VLe.refl _))
    rintro i ⟨j1, j2⟩ K hK
    have eCl := cur_len f ts i j1
    have eP := strC_len (curT f ts i)
    rw [eCl] at eP
    by_cases hi : i < ts.length
    · have q0 : ((i : Int) < ts.length) = True := eq_true (by omega)
      have c46 := t46 m it (ts.getD i []) (h.length + 1) 1 (h ++ [.emp 1, .map 1 (smap m), .mem 1 9 (strC (curT f ts i))]) (by simp only [go_sem]) (fun n hn => ⟨(hit' n hn).1, fun l => by rw [List.append_assoc]; exact (hit' n hn).2 _⟩) (h4 i hi)
      have hset := cur_set (f := f) hi
      obtain ⟨x, hx⟩ : ∃ x, x = ts.getD i [] := ⟨_, rfl⟩
      have ex := hx.symm
      rw [ex] at c46 hset
      have hfx : f x = (resV m it x).1 := by rw [hf]
      obtain ⟨y, hy⟩ : ∃ y, y = (resV m it x).1 := ⟨_, rfl⟩
      obtain ⟨ee, hee⟩ : ∃ ee, ee = (resV m it x).2 := ⟨_, rfl⟩
      rw [← hy, ← hee] at c46
      rw [hfx, ← hy] at hset
      by_cases g : ee = 0
      · have q1 : (ee = 0) = True := eq_true g
        simp (disch := omega) only [spar, List.foldl, List.replicate, strs, ex, q0, go_sem, wrap64_id, Int.tdiv_eq_ediv_of_nonneg, Int.tmod_eq_emod_of_nonneg]
        repeat' first
          | ((first | refine callA_pure (c46) ?_ ?_); (next => repeat' first | exact flags_n | refine flags_c (by first | rfl | assumption) ?_); simp (disch := omega) only [strs, ex, q0, q1, eP, go_sem, wrap64_id, Int.tdiv_eq_ediv_of_nonneg, Int.tmod_eq_emod_of_nonneg])
          | ((first | refine callG_pure (fun e => ⟨?_, c46⟩) ?_); (next => repeat' first | exact flags_n | refine flags_c (by first | rfl | assumption) ?_); simp (disch := omega) only [strs, ex, q0, q1, eP, go_sem, wrap64_id, Int.tdiv_eq_ediv_of_nonneg, Int.tmod_eq_emod_of_nonneg])
          | ((first | refine fnQ_pure1 ?_ ?_ | refine fnQ_pure0 ?_ ?_); (next => repeat' first | exact rvs_n | refine rvs_t ?_ | (simp [go_sem]; done)); simp only [go_sem]; (first | exact VLe.refl _ | refine VLe_int ?_ | refine VLe_bool ?_ | refine VLe_str ?_ | skip))
          | (with_reducible refine And.intro ?_ ?_)
          | with_reducible intro _
        all_goals first
          | omega
          | (rename_i hx; revert hx; simp; done)
          | (simp; done)
          | skip
        rw [List.append_assoc, List.singleton_append, hset]
        refine hK _ _ (i + 1) ⟨hi, fun j hj => ?_⟩ (by omega) (Wk.temps ?_)
        · by_cases e : j = i
          · subst e; rw [ex, ← hee]; exact g
          · exact j2 j (by omega)
        · (simp only [strs, spar, List.foldl, List.replicate, go_sem, VLes_nil, VLes_cons, VLe_undef_iff, VLe_self]; try (repeat' first | (with_reducible refine And.intro ?_ ?_) | (refine VLe_int ?_; omega) | (refine VLe_bool ?_; rfl) | exact VLe.refl _))
      · have q1 : (ee = 0) = False := eq_false g
        have hV : R = (ee, []) := by rw [hR, resAll_err hi j2 (by rw [ex, ← hee]; exact g), ex, ← hee]
        rw [hV]
        simp (disch := omega) only [spar, List.foldl, List.replicate, strs, ex, q0, go_sem, wrap64_id, Int.tdiv_eq_ediv_of_nonneg, Int.tmod_eq_emod_of_nonneg]
        repeat' first
          | ((first | refine callA_pure (c46) ?_ ?_); (next => repeat' first | exact flags_n | refine flags_c (by first | rfl | assumption) ?_); simp (disch := omega) only [strs, ex, q0, q1, eP, go_sem, wrap64_id, Int.tdiv_eq_ediv_of_nonneg, Int.tmod_eq_emod_of_nonneg])
          | ((first | refine callG_pure (fun e => ⟨?_, c46⟩) ?_); (next => repeat' first | exact flags_n | refine flags_c (by first | rfl | assumption) ?_); simp (disch := omega) only [strs, ex, q0, q1, eP, go_sem, wrap64_id, Int.tdiv_eq_ediv_of_nonneg, Int.tmod_eq_emod_of_nonneg])
          | ((first | refine fnQ_pure1 ?_ ?_ | refine fnQ_pure0 ?_ ?_); (next => repeat' first | exact rvs_n | refine rvs_t ?_ | (simp [go_sem]; done)); simp only [go_sem]; (first | exact VLe.refl _ | refine VLe_int ?_ | refine VLe_bool ?_ | refine VLe_str ?_ | skip))
          | (with_reducible refine And.intro ?_ ?_)
          | with_reducible intro _
        all_goals first
          | omega
          | (rename_i hx; revert hx; simp; done)
          | (simp; done)
          | skip
        all_goals exact VLe_tup ⟨nl_strs, VLe.refl _, trivial⟩
    · have e : i = ts.length := by omega
      subst e
      have hV : R = (0, ts.map f) := by rw [hR, resAll_ok j2, hf]
      rw [hV]
      simp (disch := omega) only [spar, List.foldl, List.replicate, strs, go_sem, wrap64_id, Int.tdiv_eq_ediv_of_nonneg, Int.tmod_eq_emod_of_nonneg]
      repeat' first
        | ((first | refine fnQ_pure1 ?_ ?_ | refine fnQ_pure0 ?_ ?_); (next => repeat' first | exact rvs_n | refine rvs_t ?_ | (simp [go_sem]; done)); simp only [go_sem]; (first | exact VLe.refl _ | refine VLe_int ?_ | refine VLe_bool ?_ | refine VLe_str ?_ | skip))
        | (with_reducible refine And.intro ?_ ?_)
        | with_reducible intro _
      all_goals first
        | omega
        | (rename_i hx; revert hx; simp; done)
        | (simp; done)
        | skip
      have ec : curT f ts ts.length = ts.map f := by unfold curT; rw [List.take_length, List.drop_length, List.append_nil]
      rw [if_pos (by omega), ec]
      refine VLe_tup ⟨VLe.sl_eq (by simp) (fun i hi => ?_), VLe.refl _, trivial⟩
      have hi' : i < (ts.map f).length := by simpa using hi
      have hs : strC (ts.map f) = (ts.map f).map fun s => AV.str s := rfl
      rw [hs, ← List.map_drop, List.drop_eq_getElem_cons hi', List.map_cons, List.take_succ_cons, List.take_zero, List.map_cons, List.map_nil, List.getD_eq_getElem?_getD, List.getElem?_eq_getElem hi']
      rfl
  · have k1 : ((L.length : Int) = V.length) = False := eq_false (by omega)
    have hV : resO it ts L V = (9, []) := by unfold resO; rw [if_pos g1]
    rw [hV]
    refine acalls_of fn21m (by simp) ?_
    simp only [List.length_cons, List.length_nil, Nat.reduceAdd, Nat.reduceSub, List.replicate, List.cons_append, List.nil_append, List.append_nil]
    simp (disch := omega) only [c21m, k1, strs, intsV, go_sem, wrap64_id, Int.tdiv_eq_ediv_of_nonneg, Int.tmod_eq_emod_of_nonneg]
    repeat' first
      | ((first | refine fnQ_pure1 ?_ ?_ | refine fnQ_pure0 ?_ ?_); (next => repeat' first | exact rvs_n | refine rvs_t ?_ | (simp [go_sem]; done)); simp only [go_sem]; (first | exact VLe.refl _ | refine VLe_int ?_ | refine VLe_bool ?_ | refine VLe_str ?_ | skip))
      | (with_reducible refine And.intro ?_ ?_)
      | with_reducible intro _
    all_goals first
      | omega
      | (rename_i hx; revert hx; simp; done)
      | (simp; done)
      | skip
    all_goals exact VLe_tup ⟨nl_strs, VLe.refl _, trivial⟩
end LN
end

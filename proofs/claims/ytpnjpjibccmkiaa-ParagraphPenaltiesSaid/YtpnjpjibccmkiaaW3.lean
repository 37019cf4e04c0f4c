import Derived.Test.YtpnjpjibccmkiaaAfK
import Derived.Test.YtpnjpjibccmkiaaW2
set_option linter.all false
set_option linter.unusedSimpArgs false
set_option linter.unusedVariables false
set_option linter.unusedSectionVars false
open Go Go.Proofs AF P48
set_option maxRecDepth 100000

theorem len_itemC (x : It) : (itemC x).length = 6 := rfl
theorem take_itemC (x : It) : List.take 6 (itemC x) = itemC x := rfl
attribute [go_sem] len_itemC take_itemC
def meas (n st sh : Int) : List AV := [.int .i64 n, .int .i64 st, .int .i64 sh]
def sel (x : It) (f : It → Int) : Int := if x.kind = 3 then 0 else f x
theorem t77 (k v : Nat) (n st sh : Int) (x : It) (h : List AObj) (hk : getO k h = some (.mem v 106 (meas n st sh))) (hx : ItemOk x) (n0 : 0 ≤ n) (n1 : n ≤ 400000000000) (s0 : 0 ≤ st) (s1 : st ≤ 400000000000) (h0 : 0 ≤ sh) (h1 : sh ≤ 400000000000) :
    ACalls Try.prog 77 [.op k v 0, .agg (itemC x)] h (.tup []) (setO k h (.mem v 106 (meas (n + sel x Item.width) (st + sel x Item.stretch) (sh + sel x Item.shrink)))) := by
  have hlt := getO_lt hk
  obtain ⟨a1, a2, a3, a4, a5, a6, a7, a8, a9, b1, b2, b3⟩ := hx
  have hc := cellsOf_of hk
  unfold meas at hk hc
  refine acalls_of fn77 (by simp) ?_
  simp only [List.length_cons, List.length_nil, Nat.reduceAdd, Nat.reduceSub, List.replicate, List.cons_append, List.nil_append, List.append_nil]
  simp (disch := omega) only [c77, itemC, getO_left, setO_left, cellsOf_left, hk, hc, getO_set, cellsOf_set, setO_set, go_sem, wrap64_id, Int.tdiv_eq_ediv_of_nonneg, Int.tmod_eq_emod_of_nonneg]
  repeat' first
    | (with_reducible refine And.intro ?_ ?_)
    | (with_reducible intro _)
  all_goals first
    | omega
    | skip
  · rename_i h3
    refine fnQ_effn trivial len_setO (fun o ho => ?_) ⟨rfl, ?_⟩ (VLe.refl _)
    · rcases mem_setO ho with h4 | rfl
      · exact .inl h4
      · right
        intro c hc
        simp at hc
        rcases hc with rfl | rfl | rfl <;> rfl
    · simp [sel, h3, meas]
  · rename_i h3
    refine fnQ_effn trivial rfl (fun o ho => .inl ho) ⟨rfl, ?_⟩ (VLe.refl _)
    rw [setO_same]
    rw [hk]; simp [sel, h3, meas]

def fitAV (r : Int × Int × Bool) : AV := .tup [.int .i64 r.1, .int .i64 r.2.1, .bool r.2.2]
structure Valid (l : List It) : Prop where
  len : l.length ≤ 300
  ok : ∀ i, i < l.length → ItemOk (it l i)
theorem Valid.num {l : List It} (hv : Valid l) (i : Nat) : (0 ≤ (it l i).width ∧ (it l i).width ≤ 1073741824) ∧ (0 ≤ (it l i).stretch ∧ (it l i).stretch ≤ 1073741824) ∧ (0 ≤ (it l i).shrink ∧ (it l i).shrink ≤ 1073741824) ∧ -10000 ≤ (it l i).penalty ∧ (it l i).penalty ≤ 10000 := by
  by_cases h : i < l.length
  · obtain ⟨a1, a2, a3, a4, a5, a6, a7, a8, a9, b1, b2, b3⟩ := hv.ok i h
    omega
  · unfold it
    rw [List.getD_eq_getElem?_getD, List.getElem?_eq_none (by omega)]
    decide
theorem Valid.of {l : List It} (hl : l.length ≤ 300) (hc : check l = 0) : Valid l := ⟨hl, fun _ h => items_ok hc h⟩
theorem VLe_fit {a b : Int} {c : Bool} {r : Int × Int × Bool} (h : (a, b, c) = r) : VLe (.tup [.int .i64 a, .int .i64 b, .bool c]) (fitAV r) := by subst h; exact VLe.refl _
theorem t76 (l : List It) (width n st sh : Int) (to : Nat) (h : List AObj) (hv : Valid l) (w0 : 0 ≤ width) (w1 : width ≤ 1073741824)
    (n0 : 0 ≤ n) (n1 : n ≤ 400000000000) (s0 : 0 ≤ st) (s1 : st ≤ 400000000000) (h0 : 0 ≤ sh) (h1 : sh ≤ 400000000000) :
    ACalls Try.prog 76 [items l, .int .i64 width, .agg (meas n st sh), .int .i64 to] h (fitAV (fit l width n st sh to)) h := by
  obtain ⟨⟨w2, w3⟩, _⟩ := hv.num to
  have hl := hv.len
  refine acalls_of fn76 (by simp) ?_
  simp only [List.length_cons, List.length_nil, Nat.reduceAdd, Nat.reduceSub, List.replicate, List.cons_append, List.nil_append, List.append_nil]
  simp (disch := omega) only [c76, items, itemC, meas, go_sem, wrap64_id, Int.tdiv_eq_ediv_of_nonneg, Int.tmod_eq_emod_of_nonneg]
  repeat' first
    | (refine callA_pure (t43 l to _) (by first | exact ⟨rfl, trivial⟩ | exact ⟨rfl, rfl, trivial⟩ | exact ⟨rfl, rfl, rfl, trivial⟩ | exact ⟨rfl, rfl, rfl, rfl, trivial⟩ | simp only [go_sem]) ?_; simp (disch := omega) only [go_sem, wrap64_id, Int.tdiv_eq_ediv_of_nonneg, Int.tmod_eq_emod_of_nonneg])
    | (refine callG_pure (fun e => ⟨by first | exact ⟨rfl, trivial⟩ | exact ⟨e, trivial⟩ | exact ⟨e, e, trivial⟩ | exact ⟨rfl, rfl, trivial⟩ | exact ⟨e, e, e, trivial⟩ | simp_all only [go_sem], t43 l to _⟩) ?_; simp (disch := omega) only [go_sem, wrap64_id, Int.tdiv_eq_ediv_of_nonneg, Int.tmod_eq_emod_of_nonneg])
    | (refine callA_pure (t96 _ _ _ (by omega) (by omega) (by omega) (by omega)) (by first | exact ⟨rfl, trivial⟩ | exact ⟨rfl, rfl, trivial⟩ | exact ⟨rfl, rfl, rfl, trivial⟩ | exact ⟨rfl, rfl, rfl, rfl, trivial⟩ | simp only [go_sem]) ?_; simp (disch := omega) only [go_sem, wrap64_id, Int.tdiv_eq_ediv_of_nonneg, Int.tmod_eq_emod_of_nonneg])
    | (refine callG_pure (fun e => ⟨by first | exact ⟨rfl, trivial⟩ | exact ⟨e, trivial⟩ | exact ⟨e, e, trivial⟩ | exact ⟨rfl, rfl, trivial⟩ | exact ⟨e, e, e, trivial⟩ | simp_all only [go_sem], t96 _ _ _ (by omega) (by omega) (by omega) (by omega)⟩) ?_; simp (disch := omega) only [go_sem, wrap64_id, Int.tdiv_eq_ediv_of_nonneg, Int.tmod_eq_emod_of_nonneg])
    | ((first | refine fnQ_pure1 (by first | exact ⟨trivial, trivial⟩ | exact ⟨trivial, trivial, trivial⟩ | exact ⟨trivial, trivial, trivial, trivial⟩ | simp [go_sem]) ?_ | refine fnQ_pure0 (by first | exact ⟨trivial, trivial⟩ | exact ⟨trivial, trivial, trivial⟩ | exact ⟨trivial, trivial, trivial, trivial⟩ | simp [go_sem]) ?_); simp only [go_sem]; (first | exact VLe.refl _ | refine VLe_int ?_ | refine VLe_bool ?_ | refine VLe_str ?_ | skip))
    | (with_reducible refine And.intro ?_ ?_)
    | with_reducible intro _
  all_goals first
    | omega
    | skip
  all_goals refine VLe_fit ?_
  all_goals try simp only [Int.zero_sub] at *
  all_goals first
    | grind [fit, atBreak]
    | (have hb : atBreak l to = false := by
        cases hx : atBreak l to with
        | false => rfl
        | true => simp [atBreak] at hx; omega
       unfold fit
       simp only [hb, Bool.false_eq_true, if_false]
       first
         | (rw [if_neg (by omega), if_neg (by omega)])
         | trace_state)

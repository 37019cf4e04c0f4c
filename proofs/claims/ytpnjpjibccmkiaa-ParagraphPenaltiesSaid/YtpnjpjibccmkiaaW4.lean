import Derived.Test.YtpnjpjibccmkiaaW3
import Derived.Test.YtpnjpjibccmkiaaPgM4
set_option linter.all false
set_option linter.unusedSimpArgs false
set_option linter.unusedVariables false
set_option linter.unusedSectionVars false
open Go Go.Proofs AF P48
set_option maxRecDepth 100000
def linesF (l : List It) (width : Int) (frm : Nat) : AV := .fn (.func 74) [] [.ip [items l], .ip [.int .i64 frm], .ip [.int .i64 width]]
theorem t40 (l : List It) (width : Int) (frm : Nat) (h : List AObj) : ACalls Try.prog 40 [items l, .int .i64 width, .int .i64 frm] h (linesF l width frm) h := by
  refine acalls_of fn40 (by simp) ?_
  simp only [List.length_cons, List.length_nil, Nat.reduceAdd, Nat.reduceSub, List.replicate, List.cons_append, List.nil_append, List.append_nil]
  simp (disch := omega) only [c40, linesF, items, go_sem, wrap64_id, Int.tdiv_eq_ediv_of_nonneg, Int.tmod_eq_emod_of_nonneg]
  repeat' first
    | ((first | refine fnQ_pure1 (by first | exact ⟨trivial, trivial⟩ | exact ⟨trivial, trivial, trivial⟩ | exact ⟨trivial, trivial, trivial, trivial⟩ | simp [go_sem]) ?_ | refine fnQ_pure0 (by first | exact ⟨trivial, trivial⟩ | exact ⟨trivial, trivial, trivial⟩ | exact ⟨trivial, trivial, trivial, trivial⟩ | simp [go_sem]) ?_); simp only [go_sem]; (first | exact VLe.refl _ | refine VLe_int ?_ | refine VLe_bool ?_ | refine VLe_str ?_ | skip))
    | (with_reducible refine And.intro ?_ ?_)
    | with_reducible intro _
  all_goals first
    | omega
    | trace_state

/-- What the objects of the caller may be. -/
def Low (h hh : List AObj) : Prop := hh.length = h.length ∧ ∀ o ∈ hh, o ∈ h ∨ (lowO h.length o ∧ lowO (h.length + 1) o)

theorem free_succ {l : List It} {a b : Nat} (h : a ≤ b) : free l a (b + 1) = (free l a b && !forced l b) := by
  rw [Bool.eq_iff_iff, Bool.and_eq_true, free_iff, free_iff]
  simp only [Bool.not_eq_true']
  constructor
  · intro g; exact ⟨fun i h1 h2 => g i h1 (by omega), g b h (by omega)⟩
  · rintro ⟨g1, g2⟩ i h1 h2
    by_cases e : i = b
    · subst e; exact g2
    · exact g1 i h1 (by omega)
theorem free_mono {l : List It} {a b c : Nat} (h : b ≤ c) (hf : free l a b = false) : free l a c = false := by
  cases hx : free l a c with
  | false => rfl
  | true =>
    have : free l a b = true := free_iff.2 fun i h1 h2 => free_iff.1 hx i h1 (by omega)
    rw [hf] at this; cases this

theorem begin_self (l : List It) (a : Nat) : begin_ l a a = a := by have := begin_le l (Nat.le_refl a); omega
theorem Low.ret {h hh : List AObj} {ts : List AV} {L : LInfo} (s : LS) (hl : Low h hh) (hts : ∀ c ∈ ts, lowV (h.length + 1) c = true) :
    (hh ++ [AObj.lp s ts L]).length = (h ++ [AObj.lp .ready ts L]).length ∧ ∀ o ∈ hh ++ [AObj.lp s ts L], o ∈ h ++ [AObj.lp .ready ts L] ∨ lowO (h ++ [AObj.lp .ready ts L]).length o := by
  refine ⟨by simp [hl.1], fun o ho => ?_⟩
  rw [List.length_append, List.length_singleton]
  rcases List.mem_append.1 ho with ho | ho
  · rcases hl.2 o ho with h1 | h1
    · exact .inl (List.mem_append_left _ h1)
    · exact .inr h1.2
  · rw [List.mem_singleton] at ho
    subst ho
    exact .inr hts
section
variable {l : List It} {width : Int} {frm : Nat} (hv : Valid l) (w0 : 0 ≤ width) (w1 : width ≤ 1073741824) (hf : frm ≤ l.length)
  {h : List AObj} {ts : List AV} {L : LInfo} {S : Nat → List AObj → Prop} {E : LS → List AObj → Prop}
  (hS : ∀ i hh, S i hh → Low h hh) (hE : ∀ s hh, E s hh → Low h hh)
  (body : ∀ to c hh tl, frm ≤ to → to ≤ l.length → arc l width frm to = some c → S to hh →
    AYield Try.prog h.length [.int .i64 to, .int .i64 c] (hh ++ .lp .ready ts L :: tl) (fun r h' => ∃ hh', (r = .bool true ∧ S (to + 1) hh' ∧ h' = hh' ++ .lp .ready ts L :: tl) ∨ (∃ s, r = .bool false ∧ E s hh' ∧ h' = hh' ++ .lp s ts L :: tl)))
  (skip : ∀ to hh, frm ≤ to → to ≤ l.length → arc l width frm to = none → S to hh → S (to + 1) hh)
  (start : S frm h) (hts : ∀ c ∈ ts, lowV (h.length + 1) c = true)
include hv w0 w1 hf hS hE body skip start hts

theorem skips {to : Nat} (h0 : frm ≤ to) (hfree : free l frm to = false) : ∀ (k : Nat) {hh : List AObj} {i : Nat}, l.length + 1 - i = k → to ≤ i → i ≤ l.length + 1 → S i hh → S (l.length + 1) hh := by
  intro k
  induction k with
  | zero => intro hh i h1 h2 h3 h4; rwa [show l.length + 1 = i by omega]
  | succ k ih =>
    intro hh i h1 h2 h3 h4
    refine ih (i := i + 1) (by omega) (by omega) (by omega) (skip i hh (by omega) (by omega) ?_ h4)
    unfold arc
    rw [free_mono h2 hfree]
    simp

theorem t74 : ACallsQ Try.prog 74 [.yld h.length, .ip [items l], .ip [.int .i64 frm], .ip [.int .i64 width]] (h ++ [.lp .ready ts L])
    (fun _ h' => ∃ hh, (S (l.length + 1) hh ∧ h' = hh ++ [.lp .ready ts L]) ∨ ∃ s, E s hh ∧ h' = hh ++ [.lp s ts L]) := by
  have hl := hv.len
  have b0 := begin_le l hf
  refine acallsQ_of fn74 (by simp) ?_
  simp only [List.length_cons, List.length_nil, Nat.reduceAdd, Nat.reduceSub, List.replicate, List.cons_append, List.nil_append, List.append_nil]
  simp (disch := omega) only [c74, items, go_sem, wrap64_id, Int.tdiv_eq_ediv_of_nonneg, Int.tmod_eq_emod_of_nonneg]
  repeat' first
    | (refine callA_pure (t75 l frm l.length _ hf (by omega) (by omega)) (by first | exact ⟨rfl, trivial⟩ | exact ⟨rfl, rfl, trivial⟩ | exact ⟨rfl, rfl, rfl, trivial⟩ | exact ⟨rfl, rfl, rfl, rfl, trivial⟩ | simp only [go_sem]) ?_; simp (disch := omega) only [go_sem, wrap64_id, Int.tdiv_eq_ediv_of_nonneg, Int.tmod_eq_emod_of_nonneg])
    | (refine callG_pure (fun e => ⟨by first | exact ⟨rfl, trivial⟩ | exact ⟨e, trivial⟩ | exact ⟨e, e, trivial⟩ | exact ⟨rfl, rfl, trivial⟩ | exact ⟨e, e, e, trivial⟩ | simp_all only [go_sem], t75 l frm l.length _ hf (by omega) (by omega)⟩) ?_; simp (disch := omega) only [go_sem, wrap64_id, Int.tdiv_eq_ediv_of_nonneg, Int.tmod_eq_emod_of_nonneg])
    | ((first | refine fnQ_pure1 (by first | exact ⟨trivial, trivial⟩ | exact ⟨trivial, trivial, trivial⟩ | exact ⟨trivial, trivial, trivial, trivial⟩ | simp [go_sem]) ?_ | refine fnQ_pure0 (by first | exact ⟨trivial, trivial⟩ | exact ⟨trivial, trivial, trivial⟩ | exact ⟨trivial, trivial, trivial, trivial⟩ | simp [go_sem]) ?_); simp only [go_sem]; (first | exact VLe.refl _ | refine VLe_int ?_ | refine VLe_bool ?_ | refine VLe_str ?_ | skip))
    | (with_reducible refine And.intro ?_ ?_)
    | with_reducible intro _
  all_goals first
    | omega
    | skip
  refine loop_of (T := fun i : Nat × List AObj => spar 64 [(0, .yld h.length), (1, .ip [items l]), (2, .ip [.int .i64 frm]), (3, .ip [.int .i64 width]), (5, .op (h ++ [AObj.lp .ready ts L]).length 1 0), (6, .int .i64 (begin_ l frm l.length)), (7, .int .i64 i.1)])
    (H := fun i => (i.2 ++ [.lp .ready ts L]) ++ [.mem 1 106 (meas (sumOf Item.width l (begin_ l frm (min i.1 l.length)) (min i.1 l.length)) (sumOf Item.stretch l (begin_ l frm (min i.1 l.length)) (min i.1 l.length)) (sumOf Item.shrink l (begin_ l frm (min i.1 l.length)) (min i.1 l.length)))])
    (inv := fun i => frm ≤ i.1 ∧ i.1 ≤ l.length + 1 ∧ S i.1 i.2 ∧ free l frm i.1 = true) (m := fun i => l.length + 1 - i.1) (frm, h) ⟨Nat.le_refl _, by simp only; omega, start, by simp only; rw [free_iff]; omega⟩ ?_ ?_
  · simp only [Nat.min_eq_left hf, begin_self, sumOf_self, meas]
    refine Wk.temps ?_
    simp only [items, spar, List.foldl, List.replicate, go_sem, VLes_nil, VLes_cons, VLe_undef_iff, VLe_self]
    try (repeat' first | (with_reducible refine And.intro ?_ ?_) | (refine VLe_int ?_; omega) | (refine VLe_bool ?_; rfl))
  · rintro ⟨to, hh⟩ ⟨i1, i2, i3, i4⟩ K hK
    simp only at i1 i2 i3 i4 hK
    obtain ⟨hlen, hlow⟩ := hS _ _ i3
    have hB : ∀ g : List AObj, g.length = h.length → (h ++ [AObj.lp .ready ts L]).length = (g ++ [AObj.lp .ready ts L]).length := by intro g hg; simp [hg]
    rw [hB hh hlen]
    by_cases hto : to ≤ l.length
    · have em : min to l.length = to := Nat.min_eq_left hto
      have q1 := sumOf_bound Item.width l (fun i => (hv.num i).1) (begin_ l frm to) to (by omega)
      have q2 := sumOf_bound Item.stretch l (fun i => (hv.num i).2.1) (begin_ l frm to) to (by omega)
      have q3 := sumOf_bound Item.shrink l (fun i => (hv.num i).2.2.1) (begin_ l frm to) to (by omega)
      simp (disch := omega) only [spar, items, List.foldl, List.replicate, em, meas, go_sem, wrap64_id, Int.tdiv_eq_ediv_of_nonneg, Int.tmod_eq_emod_of_nonneg]
      refine ⟨by omega, fun _ => ⟨by omega, ?_⟩, fun hc => absurd (by omega) hc⟩
      refine callA_pure (t42 l to _ hto (by omega)) ⟨rfl, rfl, trivial⟩ ?_
      cases he : ends l to with
      | false =>
        have harc : arc l width frm to = none := by unfold arc; simp [he]
        have hn := skip to hh i1 hto harc i3
        simp (disch := omega) only [he, meas, go_sem, wrap64_id, Int.tdiv_eq_ediv_of_nonneg, Int.tmod_eq_emod_of_nonneg]
        refine ⟨by omega, ?_⟩
        refine callA_pure (t43 l to _) ⟨rfl, rfl, trivial⟩ ?_
        cases hfo : forced l to with
        | true =>
          simp (disch := omega) only [hfo, go_sem, wrap64_id, Int.tdiv_eq_ediv_of_nonneg, Int.tmod_eq_emod_of_nonneg]
          have hfr : free l frm (to + 1) = false := by rw [free_succ i1, hfo]; simp
          have hz := skips hv w0 w1 hf hS hE body skip start hts (by omega) hfr _ rfl (Nat.le_refl _) (by omega) hn
          obtain ⟨r1, r2⟩ := (hS _ _ hz).ret (L := L) .ready hts
          exact fnQ_eff trivial r1 r2 ⟨_, .inl ⟨hz, rfl⟩⟩ (VLe.refl _)
        | false =>
          have hfr : free l frm (to + 1) = true := by rw [free_succ i1, hfo, i4]; rfl
          simp (disch := omega) only [hfo, go_sem, wrap64_id, Int.tdiv_eq_ediv_of_nonneg, Int.tmod_eq_emod_of_nonneg]
          have e1 := begin_min l i1 hto
          repeat' first
            | (with_reducible refine And.intro ?_ ?_)
            | (with_reducible intro _)
          all_goals first
            | omega
            | skip
          · rename_i hadd
            refine callA_eff (t77 _ 1 _ _ _ (it l to) _ getO_app0 (hv.ok to (by omega)) q1.1 q1.2 q2.1 q2.2 q3.1 q3.2) ⟨rfl, rfl, trivial⟩ ?_
            simp (disch := omega) only [go_sem, wrap64_id, Int.tdiv_eq_ediv_of_nonneg, Int.tmod_eq_emod_of_nonneg]
            have e2 := begin_min l (show frm ≤ to + 1 by omega) (show to + 1 ≤ l.length by omega)
            have e3 : begin_ l frm (to + 1) = begin_ l frm to := by omega
            have e4 : begin_ l frm to ≤ to := by omega
            refine hK _ _ (to + 1, hh) ⟨by simp only; omega, by simp only; omega, hn, hfr⟩ (by simp only; omega) ?_
            simp only [Nat.min_eq_left (show to + 1 ≤ l.length by omega), e3, sumOf_snoc _ l e4, sel, meas]
            refine Wk.temps ?_
            simp only [items, spar, List.foldl, List.replicate, go_sem, VLes_nil, VLes_cons, VLe_undef_iff, VLe_self]
            try (repeat' first | (with_reducible refine And.intro ?_ ?_) | (refine VLe_int ?_; omega) | (refine VLe_bool ?_; rfl))
            all_goals first
              | rw [hB _ hlen]
              | skip
            all_goals exact VLe.refl _
          · rename_i hadd
            have e5 : ∀ f, sumOf f l (begin_ l frm (min (to + 1) l.length)) (min (to + 1) l.length) = sumOf f l (begin_ l frm to) to := by
              intro f
              by_cases hlt : to < l.length
              · have e2 := begin_min l (show frm ≤ to + 1 by omega) (show to + 1 ≤ l.length by omega)
                rw [Nat.min_eq_left (show to + 1 ≤ l.length by omega), show begin_ l frm (to + 1) = to + 1 by omega, show begin_ l frm to = to by omega, sumOf_self, sumOf_self]
              · rw [show min (to + 1) l.length = to by omega]
            refine hK _ _ (to + 1, hh) ⟨by simp only; omega, by simp only; omega, hn, hfr⟩ (by simp only; omega) ?_
            simp only [e5, meas]
            refine Wk.temps ?_
            simp only [items, spar, List.foldl, List.replicate, go_sem, VLes_nil, VLes_cons, VLe_undef_iff, VLe_self]
            try (repeat' first | (with_reducible refine And.intro ?_ ?_) | (refine VLe_int ?_; omega) | (refine VLe_bool ?_; rfl))
            all_goals first
              | rw [hB _ hlen]
              | skip
            all_goals exact VLe.refl _
      | true =>
        simp (disch := omega) only [he, meas, go_sem, wrap64_id, Int.tdiv_eq_ediv_of_nonneg, Int.tmod_eq_emod_of_nonneg]
        repeat' first
          | (refine callA_pure (t76 l width _ _ _ to _ hv w0 w1 q1.1 q1.2 q2.1 q2.2 q3.1 q3.2) (by first | exact ⟨rfl, trivial⟩ | exact ⟨rfl, rfl, trivial⟩ | exact ⟨rfl, rfl, rfl, trivial⟩ | exact ⟨rfl, rfl, rfl, rfl, trivial⟩ | simp only [go_sem]) ?_; simp (disch := omega) only [meas, fitAV, go_sem, wrap64_id, Int.tdiv_eq_ediv_of_nonneg, Int.tmod_eq_emod_of_nonneg])
          | (refine callG_pure (fun e => ⟨by first | exact ⟨rfl, trivial⟩ | exact ⟨e, trivial⟩ | exact ⟨e, e, trivial⟩ | exact ⟨rfl, rfl, trivial⟩ | exact ⟨e, e, e, trivial⟩ | simp_all only [go_sem], t76 l width _ _ _ to _ hv w0 w1 q1.1 q1.2 q2.1 q2.2 q3.1 q3.2⟩) ?_; simp (disch := omega) only [meas, fitAV, go_sem, wrap64_id, Int.tdiv_eq_ediv_of_nonneg, Int.tmod_eq_emod_of_nonneg])
          | ((first | refine fnQ_pure1 (by first | exact ⟨trivial, trivial⟩ | exact ⟨trivial, trivial, trivial⟩ | exact ⟨trivial, trivial, trivial, trivial⟩ | simp [go_sem]) ?_ | refine fnQ_pure0 (by first | exact ⟨trivial, trivial⟩ | exact ⟨trivial, trivial, trivial⟩ | exact ⟨trivial, trivial, trivial, trivial⟩ | simp [go_sem]) ?_); simp only [go_sem]; (first | exact VLe.refl _ | refine VLe_int ?_ | refine VLe_bool ?_ | refine VLe_str ?_ | skip))
          | (with_reducible refine And.intro ?_ ?_)
          | with_reducible intro _
        all_goals first
          | omega
          | skip
        obtain ⟨r, hr⟩ : ∃ r, r = lineOf l width frm to := ⟨_, rfl⟩
        have hr1 := fit_nonneg l width (sumOf Item.width l (begin_ l frm to) to) (sumOf Item.stretch l (begin_ l frm to) to) (sumOf Item.shrink l (begin_ l frm to) to) to
        rw [show fit l width (sumOf Item.width l (begin_ l frm to) to) (sumOf Item.stretch l (begin_ l frm to) to) (sumOf Item.shrink l (begin_ l frm to) to) to = r from hr.symm] at hr1 ⊢
        have hp1 : -10000 ≤ penalty l to ∧ penalty l to ≤ 10000 := by
          have := (hv.num to).2.2.2
          unfold penalty; split <;> omega
        cases hi : r.2.2 with
        | false =>
          have harc : arc l width frm to = none := by unfold arc cost; rw [← hr]; simp [hi]
          have hn := skip to hh i1 hto harc i3
          repeat' first
            | (refine callA_pure (t45 l to _) (by first | exact ⟨rfl, trivial⟩ | exact ⟨rfl, rfl, trivial⟩ | exact ⟨rfl, rfl, rfl, trivial⟩ | exact ⟨rfl, rfl, rfl, rfl, trivial⟩ | simp only [go_sem]) ?_; simp (disch := omega) only [hi, go_sem, wrap64_id, Int.tdiv_eq_ediv_of_nonneg, Int.tmod_eq_emod_of_nonneg])
            | (refine callG_pure (fun e => ⟨by first | exact ⟨rfl, trivial⟩ | exact ⟨e, trivial⟩ | exact ⟨e, e, trivial⟩ | exact ⟨rfl, rfl, trivial⟩ | exact ⟨e, e, e, trivial⟩ | simp_all only [go_sem], t45 l to _⟩) ?_; simp (disch := omega) only [hi, go_sem, wrap64_id, Int.tdiv_eq_ediv_of_nonneg, Int.tmod_eq_emod_of_nonneg])
            | ((first | refine fnQ_pure1 (by first | exact ⟨trivial, trivial⟩ | exact ⟨trivial, trivial, trivial⟩ | exact ⟨trivial, trivial, trivial, trivial⟩ | simp [go_sem]) ?_ | refine fnQ_pure0 (by first | exact ⟨trivial, trivial⟩ | exact ⟨trivial, trivial, trivial⟩ | exact ⟨trivial, trivial, trivial, trivial⟩ | simp [go_sem]) ?_); simp only [go_sem]; (first | exact VLe.refl _ | refine VLe_int ?_ | refine VLe_bool ?_ | refine VLe_str ?_ | skip))
            | (with_reducible refine And.intro ?_ ?_)
            | with_reducible intro _
          all_goals first
            | omega
            | skip
          refine callA_pure (t43 l to _) ⟨rfl, rfl, trivial⟩ ?_
          cases hfo : forced l to with
          | true =>
            simp (disch := omega) only [hfo, go_sem, wrap64_id, Int.tdiv_eq_ediv_of_nonneg, Int.tmod_eq_emod_of_nonneg]
            have hfr : free l frm (to + 1) = false := by rw [free_succ i1, hfo]; simp
            have hz := skips hv w0 w1 hf hS hE body skip start hts (by omega) hfr _ rfl (Nat.le_refl _) (by omega) hn
            obtain ⟨r1, r2⟩ := (hS _ _ hz).ret (L := L) .ready hts
            exact fnQ_eff trivial r1 r2 ⟨_, .inl ⟨hz, rfl⟩⟩ (VLe.refl _)
          | false =>
            have hfr : free l frm (to + 1) = true := by rw [free_succ i1, hfo, i4]; rfl
            simp (disch := omega) only [hfo, go_sem, wrap64_id, Int.tdiv_eq_ediv_of_nonneg, Int.tmod_eq_emod_of_nonneg]
            have e1 := begin_min l i1 hto
            repeat' first
              | (with_reducible refine And.intro ?_ ?_)
              | (with_reducible intro _)
            all_goals first
              | omega
              | skip
            · rename_i hadd
              refine callA_eff (t77 _ 1 _ _ _ (it l to) _ getO_app0 (hv.ok to (by omega)) q1.1 q1.2 q2.1 q2.2 q3.1 q3.2) ⟨rfl, rfl, trivial⟩ ?_
              simp (disch := omega) only [go_sem, wrap64_id, Int.tdiv_eq_ediv_of_nonneg, Int.tmod_eq_emod_of_nonneg]
              have e2 := begin_min l (show frm ≤ to + 1 by omega) (show to + 1 ≤ l.length by omega)
              have e3 : begin_ l frm (to + 1) = begin_ l frm to := by omega
              have e4 : begin_ l frm to ≤ to := by omega
              refine hK _ _ (to + 1, hh) ⟨by simp only; omega, by simp only; omega, hn, hfr⟩ (by simp only; omega) ?_
              simp only [Nat.min_eq_left (show to + 1 ≤ l.length by omega), e3, sumOf_snoc _ l e4, sel, meas]
              refine Wk.temps ?_
              simp only [items, spar, List.foldl, List.replicate, go_sem, VLes_nil, VLes_cons, VLe_undef_iff, VLe_self]
              try (repeat' first | (with_reducible refine And.intro ?_ ?_) | (refine VLe_int ?_; omega) | (refine VLe_bool ?_; rfl))
              all_goals first
                | rw [hB _ hlen]
                | skip
              all_goals exact VLe.refl _
            · rename_i hadd
              have e5 : ∀ f, sumOf f l (begin_ l frm (min (to + 1) l.length)) (min (to + 1) l.length) = sumOf f l (begin_ l frm to) to := by
                intro f
                by_cases hlt : to < l.length
                · have e2 := begin_min l (show frm ≤ to + 1 by omega) (show to + 1 ≤ l.length by omega)
                  rw [Nat.min_eq_left (show to + 1 ≤ l.length by omega), show begin_ l frm (to + 1) = to + 1 by omega, show begin_ l frm to = to by omega, sumOf_self, sumOf_self]
                · rw [show min (to + 1) l.length = to by omega]
              refine hK _ _ (to + 1, hh) ⟨by simp only; omega, by simp only; omega, hn, hfr⟩ (by simp only; omega) ?_
              simp only [e5, meas]
              refine Wk.temps ?_
              simp only [items, spar, List.foldl, List.replicate, go_sem, VLes_nil, VLes_cons, VLe_undef_iff, VLe_self]
              try (repeat' first | (with_reducible refine And.intro ?_ ?_) | (refine VLe_int ?_; omega) | (refine VLe_bool ?_; rfl))
              all_goals first
                | rw [hB _ hlen]
                | skip
              all_goals exact VLe.refl _
        | true =>
          have harc : arc l width frm to = some (r.1 + penalty l to) := by unfold arc cost; rw [← hr]; simp [hi, he, i4]
          repeat' first
            | (refine callA_pure (t45 l to _) (by first | exact ⟨rfl, trivial⟩ | exact ⟨rfl, rfl, trivial⟩ | exact ⟨rfl, rfl, rfl, trivial⟩ | exact ⟨rfl, rfl, rfl, rfl, trivial⟩ | simp only [go_sem]) ?_; simp (disch := omega) only [hi, go_sem, wrap64_id, Int.tdiv_eq_ediv_of_nonneg, Int.tmod_eq_emod_of_nonneg])
            | (refine callG_pure (fun e => ⟨by first | exact ⟨rfl, trivial⟩ | exact ⟨e, trivial⟩ | exact ⟨e, e, trivial⟩ | exact ⟨rfl, rfl, trivial⟩ | exact ⟨e, e, e, trivial⟩ | simp_all only [go_sem], t45 l to _⟩) ?_; simp (disch := omega) only [hi, go_sem, wrap64_id, Int.tdiv_eq_ediv_of_nonneg, Int.tmod_eq_emod_of_nonneg])
            | ((first | refine fnQ_pure1 (by first | exact ⟨trivial, trivial⟩ | exact ⟨trivial, trivial, trivial⟩ | exact ⟨trivial, trivial, trivial, trivial⟩ | simp [go_sem]) ?_ | refine fnQ_pure0 (by first | exact ⟨trivial, trivial⟩ | exact ⟨trivial, trivial, trivial⟩ | exact ⟨trivial, trivial, trivial, trivial⟩ | simp [go_sem]) ?_); simp only [go_sem]; (first | exact VLe.refl _ | refine VLe_int ?_ | refine VLe_bool ?_ | refine VLe_str ?_ | skip))
            | (with_reducible refine And.intro ?_ ?_)
            | with_reducible intro _
          all_goals first
            | omega
            | skip
          · exact ⟨.ready, ts, L, by rw [List.append_assoc, ← hlen]; exact getO_app0⟩
          · have hbody := body to _ hh [.mem 1 106 (meas (sumOf Item.width l (begin_ l frm to) to) (sumOf Item.stretch l (begin_ l frm to) to) (sumOf Item.shrink l (begin_ l frm to) to))] i1 hto harc i3
            rw [List.append_cons] at hbody
            refine AYield.mono ?_ hbody
            rintro v h' ⟨hh', ⟨rfl, hn, rfl⟩ | ⟨s, rfl, hs, rfl⟩⟩
            · obtain ⟨hlen', hlow'⟩ := hS _ _ hn
              rw [← hB hh hlen, hB hh' hlen', List.append_cons hh' (AObj.lp .ready ts L) [AObj.mem _ _ _]]
              simp (disch := omega) only [hi, meas, go_sem, wrap64_id, Int.tdiv_eq_ediv_of_nonneg, Int.tmod_eq_emod_of_nonneg]
              refine ⟨by omega, ?_⟩
              refine callA_pure (t43 l to _) ⟨rfl, rfl, trivial⟩ ?_
              cases hfo : forced l to with
              | true =>
                simp (disch := omega) only [hfo, go_sem, wrap64_id, Int.tdiv_eq_ediv_of_nonneg, Int.tmod_eq_emod_of_nonneg]
                have hfr : free l frm (to + 1) = false := by rw [free_succ i1, hfo]; simp
                have hz := skips hv w0 w1 hf hS hE body skip start hts (by omega) hfr _ rfl (Nat.le_refl _) (by omega) hn
                obtain ⟨r1, r2⟩ := (hS _ _ hz).ret (L := L) .ready hts
                exact fnQ_eff trivial r1 r2 ⟨_, .inl ⟨hz, rfl⟩⟩ (VLe.refl _)
              | false =>
                have hfr : free l frm (to + 1) = true := by rw [free_succ i1, hfo, i4]; rfl
                simp (disch := omega) only [hfo, go_sem, wrap64_id, Int.tdiv_eq_ediv_of_nonneg, Int.tmod_eq_emod_of_nonneg]
                have e1 := begin_min l i1 hto
                repeat' first
                  | (with_reducible refine And.intro ?_ ?_)
                  | (with_reducible intro _)
                all_goals first
                  | omega
                  | skip
                · rename_i hadd
                  refine callA_eff (t77 _ 1 _ _ _ (it l to) _ getO_app0 (hv.ok to (by omega)) q1.1 q1.2 q2.1 q2.2 q3.1 q3.2) ⟨rfl, rfl, trivial⟩ ?_
                  simp (disch := omega) only [go_sem, wrap64_id, Int.tdiv_eq_ediv_of_nonneg, Int.tmod_eq_emod_of_nonneg]
                  have e2 := begin_min l (show frm ≤ to + 1 by omega) (show to + 1 ≤ l.length by omega)
                  have e3 : begin_ l frm (to + 1) = begin_ l frm to := by omega
                  have e4 : begin_ l frm to ≤ to := by omega
                  refine hK _ _ (to + 1, hh') ⟨by simp only; omega, by simp only; omega, hn, hfr⟩ (by simp only; omega) ?_
                  simp only [Nat.min_eq_left (show to + 1 ≤ l.length by omega), e3, sumOf_snoc _ l e4, sel, meas]
                  refine Wk.temps ?_
                  simp only [items, spar, List.foldl, List.replicate, go_sem, VLes_nil, VLes_cons, VLe_undef_iff, VLe_self]
                  try (repeat' first | (with_reducible refine And.intro ?_ ?_) | (refine VLe_int ?_; omega) | (refine VLe_bool ?_; rfl))
                  all_goals first
                    | rw [hB _ hlen']
                    | skip
                  all_goals exact VLe.refl _
                · rename_i hadd
                  have e5 : ∀ f, sumOf f l (begin_ l frm (min (to + 1) l.length)) (min (to + 1) l.length) = sumOf f l (begin_ l frm to) to := by
                    intro f
                    by_cases hlt : to < l.length
                    · have e2 := begin_min l (show frm ≤ to + 1 by omega) (show to + 1 ≤ l.length by omega)
                      rw [Nat.min_eq_left (show to + 1 ≤ l.length by omega), show begin_ l frm (to + 1) = to + 1 by omega, show begin_ l frm to = to by omega, sumOf_self, sumOf_self]
                    · rw [show min (to + 1) l.length = to by omega]
                  refine hK _ _ (to + 1, hh') ⟨by simp only; omega, by simp only; omega, hn, hfr⟩ (by simp only; omega) ?_
                  simp only [e5, meas]
                  refine Wk.temps ?_
                  simp only [items, spar, List.foldl, List.replicate, go_sem, VLes_nil, VLes_cons, VLe_undef_iff, VLe_self]
                  try (repeat' first | (with_reducible refine And.intro ?_ ?_) | (refine VLe_int ?_; omega) | (refine VLe_bool ?_; rfl))
                  all_goals first
                    | rw [hB _ hlen']
                    | skip
                  all_goals exact VLe.refl _
            · rw [← hB hh hlen, hB hh' (hE _ _ hs).1, List.append_cons hh' (AObj.lp s ts L) [AObj.mem _ _ _]]
              simp (disch := omega) only [hi, meas, go_sem, wrap64_id, Int.tdiv_eq_ediv_of_nonneg, Int.tmod_eq_emod_of_nonneg]
              obtain ⟨r1, r2⟩ := (hE _ _ hs).ret (L := L) s hts
              exact fnQ_eff trivial r1 r2 ⟨_, .inr ⟨s, hs, rfl⟩⟩ (VLe.refl _)
    · simp (disch := omega) only [spar, items, List.foldl, List.replicate, meas, go_sem, wrap64_id, Int.tdiv_eq_ediv_of_nonneg, Int.tmod_eq_emod_of_nonneg]
      refine ⟨by omega, fun hc => absurd hc (by omega), fun _ => ?_⟩
      have e : to = l.length + 1 := by omega
      subst e
      obtain ⟨r1, r2⟩ := (hS _ _ i3).ret (L := L) .ready hts
      exact fnQ_effn trivial r1 r2 ⟨_, .inl ⟨i3, rfl⟩⟩ (VLe.refl _)
end

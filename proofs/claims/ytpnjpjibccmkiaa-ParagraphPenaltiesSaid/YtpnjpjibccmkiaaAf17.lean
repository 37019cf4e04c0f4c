/-
  AF17: the statement that ranges over a function; all code.
-/
import Derived.Test.YtpnjpjibccmkiaaAf16
set_option linter.all false
set_option linter.unusedSimpArgs false
set_option linter.unusedVariables false
set_option linter.unusedSectionVars false
namespace AF
open Go

section
variable {P : Program} {b : Nat}

theorem run_newObj (w : World) (o : Obj) : (newObj o).run P w = .ok w.heap.size (w.alloc o) := rfl

/-- What 'enterLoop' leaves: the loop's record (and a block for deferred calls). -/
theorem enter_spec {N : Nat} {w : World} {σ : List OB} {t : List AV} {h : List AObj} {a : Act} (H : SR N w σ t h a) {ρ : Option Nat} (hρ : ∀ l, ρ = some l → ∃ r, w.heap[l]? = some (.loop r)) (fn : FuncId) (ps : Array Tmp) (ka kb : Code) :
    ∃ (l : Nat) (mark : List Deferred) (w1 : World) (σ1 : List OB), (Instr.enterLoop fn a.tmps ps ka kb ρ).run P w = .ok (l, mark) w1 ∧
      SR N w1 σ1 t (h ++ [.lp .ready t ⟨ps, ka, kb⟩]) { a with defers := mark ++ a.defers } ∧ Ext w σ w1 σ1 ∧ ∃ o : OB, σ1[h.length]? = some o ∧ o.ver = 0 ∧ o.blk = some l := by
  cases ρ with
  | some l' =>
    obtain ⟨r, hr⟩ := hρ l' rfl
    have hrun : (Instr.enterLoop fn a.tmps ps ka kb (some l')).run P w = .ok (w.heap.size, []) (w.alloc (.loop { state := .ready, pending := none, fn, tmps := a.tmps, params := ps, assign := ka, body := kb, defers := r.defers })) := by
      simp [Instr.enterLoop, Sem.run_bind, run_getLoop hr, Result.andThen, run_newObj]
    obtain ⟨u1, u2⟩ := H.hr.push (w' := w.alloc (.loop { state := .ready, pending := none, fn, tmps := a.tmps, params := ps, assign := ka, body := kb, defers := r.defers })) (grown_alloc _) (o' := ⟨some w.heap.size, 0, 0, 0⟩) (a' := .lp .ready t ⟨ps, ka, kb⟩)
      (by rintro b ⟨⟩; exact ⟨Nat.le_refl _, (Array.getElem?_eq_some_iff.1 (heap_alloc_new w _)).1⟩)
      (fun e => ⟨rfl, _, _, rfl, heap_alloc_new w _, ⟨rfl, rfl⟩, rfl, rfl, rfl, H.sz, fun i c x hc hx => (H.tm i c x hc hx).ext e⟩)
    exact ⟨_, _, _, _, hrun, ⟨u1, H.sz, fun i c x hc hx => (H.tm i c x hc hx).ext u2, by simpa using df_ext u2 H.df⟩, u2, ⟨some w.heap.size, 0, 0, 0⟩, by rw [← H.hr.len]; simp, rfl, rfl⟩
  | none =>
    have hrun : (Instr.enterLoop fn a.tmps ps ka kb none).run P w = .ok ((w.alloc (.deferred (some []))).heap.size, [markOf w.heap.size]) ((w.alloc (.deferred (some []))).alloc (.loop { state := .ready, pending := none, fn, tmps := a.tmps, params := ps, assign := ka, body := kb, defers := w.heap.size })) := by
      simp [Instr.enterLoop, Sem.run_bind, Result.andThen, run_newObj, markOf]
    obtain ⟨v1, v2⟩ := H.hr.grow (w' := w.alloc (.deferred (some []))) (grown_alloc _)
    obtain ⟨u1, u2⟩ := v1.push (w' := (w.alloc (.deferred (some []))).alloc (.loop { state := .ready, pending := none, fn, tmps := a.tmps, params := ps, assign := ka, body := kb, defers := w.heap.size })) (grown_alloc _) (o' := ⟨some (w.alloc (.deferred (some []))).heap.size, 0, 0, 0⟩) (a' := .lp .ready t ⟨ps, ka, kb⟩)
      (by rintro b ⟨⟩; exact ⟨Nat.le_refl _, (Array.getElem?_eq_some_iff.1 (heap_alloc_new _ _)).1⟩)
      (fun e => ⟨rfl, _, _, rfl, heap_alloc_new _ _, ⟨rfl, rfl⟩, rfl, rfl, rfl, H.sz, fun i c x hc hx => ((H.tm i c x hc hx).ext v2).ext e⟩)
    refine ⟨_, _, _, _, hrun, ⟨u1, H.sz, fun i c x hc hx => ((H.tm i c x hc hx).ext v2).ext u2, ?_⟩, v2.trans u2, ⟨some (w.alloc (.deferred (some []))).heap.size, 0, 0, 0⟩, by rw [← v1.len]; simp, rfl, rfl⟩
    refine df_ext u2 ?_
    obtain ⟨rs, h1, h2, h3, h4⟩ := H.df
    have hlt := (Array.getElem?_eq_some_iff.1 (heap_alloc_new w (.deferred (some [])))).1
    refine ⟨w.heap.size :: rs, by simp [h1], ?_, Nat.le_trans h3 v2.size, ?_⟩
    · refine List.nodup_cons.2 ⟨fun hm => ?_, h2⟩
      have := (h4 _ hm).2.1
      omega
    · intro r hr
      rcases List.mem_cons.1 hr with rfl | hr
      · exact ⟨h3, hlt, fun hw => absurd (own_lt H.hr.lt hw) (by omega), heap_alloc_new w _⟩
      · obtain ⟨g1, g2, g3, g4⟩ := h4 r hr
        exact ⟨g1, Nat.lt_of_lt_of_le g2 v2.size, g3, (v2.keep r g2 g3).trans g4⟩

theorem callf_run {w : World} {f : FuncId} {us vs args : Array Value} (hf : okF P f = true) : (invoke (.fn (.func f) vs) (us ++ args)).run P w = .ok (.enter f (us ++ args ++ vs)) w := by
  unfold okF at hf
  cases hfn : P.funcs[f]? with
  | none => simp [hfn] at hf
  | some fn =>
    simp [hfn] at hf
    simp only [invoke, callFunc]
    simp [program, Sem.run_bind, Sem.run, Result.andThen, hfn]
    rw [if_neg hf.2, if_neg (by cases hb : fn.body <;> simp_all)]

theorem sound_range {g : Operand} {u : X} {ps : Array Tmp} {x y : C} {ka kb : Code} (hu : cvX g = some u) (hx : Sound P b x ka) (hy : Sound P b y kb) : Sound P b (.range u ps.toList x y) (.rangeFunc g ps ka kb) := by
  intro N ρ Q w σ t h a hc hρ H
  have hc' := (show rangeA P (ev t u) ps.toList (codeA P b x) (codeA P b y) Q t h from hc) ⟨ps, ka, kb⟩ (fun k ts args h1 R hk hl hw => yield_sound (L := ⟨ps, ka, kb⟩) hx hy hk hl hw)
  have hv := cvX_vr H.sz H.tm hu
  split at hc'
  · rename_i f first cap he
    rw [he] at hv
    refine wpIn_rangeFunc fun fn _ => ?_
    obtain ⟨l, mark, w1, σ1, hrun, H1, e1, o, ho, hov, hob⟩ := enter_spec (P := P) H hρ fn ps ka kb
    have hv1 := hv.ext e1
    obtain ⟨us, zs, ef, l1, l2, v1, v2⟩ := vr_fn hv1
    have hres : (resolve a.eval (rangeCall g l) 0).run P w1 = .ok { target := .fn (.func f) zs, args := us ++ #[.func (.yield l) #[] #[]] } w1 := by
      simp only [resolve, rangeCall, ef, Deferred.ofValue, Sem.run_pure, List.map_toArray, List.map_cons, List.map_nil]
      rfl
    refine ⟨l, mark, w1, _, w1, f, us ++ #[.func (.yield l) #[] #[]] ++ zs, w1, hrun, hres, fun _ _ => trivial, callf_run hc'.1, fun h => by simp [FW, Fence.wide] at h, ?_⟩
    have hargs : VRs w1 σ1 (first ++ [.yld h.length] ++ cap) (us ++ #[Value.func (.yield l) #[] #[]] ++ zs).toList := by
      have a1 : VRs w1 σ1 first us.toList := ⟨by simpa using l1, fun i c x hc hx => v1 i c x hc (by simpa using hx)⟩
      have a2 : VRs w1 σ1 cap zs.toList := ⟨by simpa using l2, fun i c x hc hx => v2 i c x hc (by simpa using hx)⟩
      have a3 : VRs w1 σ1 [.yld h.length] [.func (.yield l) #[] #[]] := ⟨rfl, fun i c x hc hx => by
        cases i with
        | zero => simp at hc hx; subst hc hx; exact .yld o ho ⟨_, rfl⟩ (fun _ => ⟨l, hob, rfl⟩)
        | succ i => simp at hc⟩
      simpa using (a1.split a3).split a2
    have hcall := hc'.2 w1 σ1 _ H1.hr hargs
    rw [Array.toArray_toList] at hcall
    refine hcall.mono ?_
    rintro e w' ⟨v, σ', rr, h', ⟨hh, s, ts, L, hh', hlen, hlow, hq⟩, rfl, g1, g2, g3⟩
    subst hh'
    obtain ⟨o', p1, p2, p3⟩ := g3.obj _ o ho
    have hget : (hh ++ [AObj.lp s ts L])[h.length]? = some (.lp s ts L) := by rw [← hlen]; simp
    obtain ⟨q0, l', r, q1, q2, q3, q4, q5, q6, q7, q8⟩ := g1.obj _ _ o' hget p1
    have := p3 (by rw [q0, hov])
    subst this
    rw [hob] at q1
    cases q1
    have hns : r.state ≠ .busy := by
      intro hb
      cases s with
      | ready => rw [q3.1] at hb; cases hb
      | busy => exact hq
      | ret => rw [q3.1] at hb; cases hb
      | exit id => rw [q3.1] at hb; cases hb
    refine ⟨_, _, run_endLoop q2 hns, ?_⟩
    obtain ⟨k1, k2⟩ := g1.update (w' := loopSet w' l { r with state := .exhausted }) (o' := { o' with blk := none, ver := o'.ver + 1 }) (a' := .emp (o'.ver + 1)) p1 (by rw [hob]; exact loopSet_grown w' l _) (by simp) (by simp) (by simp)
      (fun b r1 hb _ => by rw [hob] at hb; cases hb; exact ⟨_, loopSet_heap q2⟩) (fun _ => ⟨rfl, rfl⟩)
    have hset : (hh ++ [AObj.lp s ts L]).set h.length (.emp (o'.ver + 1)) = hh ++ [.emp (o'.ver + 1)] := by
      rw [← hlen]; simp
    rw [hset] at k1
    have ee := (e1.trans g3).trans k2
    obtain ⟨m1, m2⟩ := HR.trunc H.hr ee k1 hlen hlow
    have hsr : SR N (loopSet w' l { r with state := .exhausted }) ((σ'.set h.length { o' with blk := none, ver := o'.ver + 1 }).take h.length) t hh { a with defers := mark ++ a.defers } := by
      refine ⟨m1, H.sz, fun i c x hc hx => (H.tm i c x hc hx).ext m2, ?_⟩
      obtain ⟨rs, d1, d2, d3, d4⟩ := df_ext (g3.trans k2) H1.df
      exact ⟨rs, d1, d2, d3, fun r hr => ⟨(d4 r hr).1, (d4 r hr).2.1, fun hw => (d4 r hr).2.2.1 (own_take hw), (d4 r hr).2.2.2⟩⟩
    clear k1 k2 ee m1
    generalize loopSet w' l { r with state := .exhausted } = w4 at hsr m2 ⊢
    cases s with
    | ready =>
      rw [q3.2]
      exact ⟨.normal, _, t, hh, rfl, hsr, m2, hq⟩
    | busy => exact hq.elim
    | ret =>
      rw [q3.2]
      exact wpIn_ret ⟨.ret, _, t, hh, rfl, hsr, m2, hq⟩
    | exit id =>
      rw [q3.2]
      exact wpIn_exit ⟨.exit id, _, t, hh, rfl, hsr, m2, hq⟩
  · exact hc'.elim

theorem cv_sound {js : List Tmp} {imp : List FuncId} {wks : List Nat} : ∀ {k : Code} {c : C}, cv P js imp wks k = some c → Sound P b c k := by
  intro k
  induction k with
  | skip => intro c h; cases h; exact sound_skip
  | region id ops draw =>
    intro c h
    simp only [cv] at h
    split at h
    · rename_i l hl
      split at h
      · cases h; exact sound_bad
      · rename_i hd
        have hd' : draw = true → drawC ops l = true ∧ P.follows .mixedOrders = true := by
          intro e
          subst e
          simpa using hd
        split at h
        · cases h; exact sound_wk (sound_ops hl hd' b)
        · cases h; exact sound_ops hl hd' b
    · cases h; exact sound_bad
  | seq a b iha ihb =>
    intro c h
    simp only [cv] at h
    split at h
    · rename_i x y h1 h2
      cases h
      exact sound_seq (iha h1) (ihb h2)
    · cases h; exact sound_bad
  | cond o a b iha ihb =>
    intro c h
    simp only [cv] at h
    split at h
    · rename_i u x y h0 h1 h2
      cases h
      exact sound_cond h0 (iha h1) (ihb h2)
    · cases h; exact sound_bad
  | block id a ih =>
    intro c h
    simp only [cv, Option.map_eq_some_iff] at h
    obtain ⟨x, h1, rfl⟩ := h
    exact sound_block (ih h1)
  | loop a ih =>
    intro c h
    simp only [cv, Option.map_eq_some_iff] at h
    obtain ⟨x, h1, rfl⟩ := h
    exact sound_loop (ih h1)
  | rangeFunc f ps a b iha ihb =>
    intro c h
    simp only [cv] at h
    split at h
    · rename_i u x y h0 h1 h2
      cases h
      exact sound_range h0 (iha h1) (ihb h2)
    · cases h; exact sound_bad
  | exit id => intro c h; cases h; exact sound_exit
  | ret => intro c h; cases h; exact sound_ret
  | _ => intro c h; cases h; exact sound_bad
end
end AF

/-
  AFM: a function whose result is an object of its own: it becomes an object of the caller.
-/
import Derived.Test.YtpnjpjibccmkiaaAfL
set_option linter.all false
set_option linter.unusedSimpArgs false
set_option linter.unusedVariables false
set_option linter.unusedSectionVars false
namespace AF
open Go

/-- The block of one object is given to another one. -/
theorem HR.move {w : World} {σ : List OB} {h : List AObj} (H : HR w σ h) {k j vj : Nat} {ty : TypeId} {cs : List AV} (hj : getO j h = some (.mem vj ty cs)) (hk : site h k = true) (hne : k ≠ j) :
    ∃ σ', HR w σ' (setO k (setO j h (.emp (vj + 1))) (.mem (verOf (getO k h) + 1) ty cs)) ∧ Ext w σ w σ' ∧
      ∀ sz off len x, VR w σ (.osl j vj sz off len) x → VR w σ' (.osl k (verOf (getO k h) + 1) sz off len) x := by
  obtain ⟨ok, hok, hver⟩ := site_spec H hk
  have hjl : j < σ.length := by rw [H.len]; exact getO_lt hj
  have hkl : k < σ.length := (List.getElem?_eq_some_iff.1 hok).1
  obtain ⟨oj, hoj⟩ : ∃ oj, σ[j]? = some oj := ⟨_, List.getElem?_eq_getElem hjl⟩
  have hobj := H.obj j _ oj hj hoj
  obtain ⟨m1, m2, b, arr, m3, m4, m5, m6, m7, m8⟩ := hobj
  rw [hver]
  let oj' : OB := { oj with blk := none, ver := oj.ver + 1 }
  let ok' : OB := { oj with ver := ok.ver + 1 }
  let σ' := (σ.set j oj').set k ok'
  have gk : σ'[k]? = some ok' := by simp [σ', hkl]
  have gj : σ'[j]? = some oj' := by simp only [σ']; rw [List.getElem?_set_ne hne]; simp [hjl]
  have go : ∀ i, i ≠ k → i ≠ j → σ'[i]? = σ[i]? := by
    intro i h1 h2
    simp only [σ']
    rw [List.getElem?_set_ne (fun e => h1 e.symm), List.getElem?_set_ne (fun e => h2 e.symm)]
  have blk : ∀ (i : Nat) (o : OB) (b : Nat), σ'[i]? = some o → o.blk = some b → (i = k ∧ oj.blk = some b) ∨ (i ≠ k ∧ i ≠ j ∧ σ[i]? = some o) := by
    intro i o b h1 h2
    by_cases e1 : i = k
    · subst e1; rw [gk] at h1; cases h1; exact .inl ⟨rfl, h2⟩
    · by_cases e2 : i = j
      · subst e2; rw [gj] at h1; cases h1; cases h2
      · rw [go i e1 e2] at h1; exact .inr ⟨e1, e2, h1⟩
  have hext : Ext w σ w σ' := by
    refine ⟨rfl, rfl, rfl, Nat.le_refl _, fun _ _ _ => rfl, ?_, ?_, fun b r h => ⟨r, h⟩⟩
    · rintro b ⟨i, o, h1, h2⟩
      rcases blk i o b h1 h2 with ⟨_, h3⟩ | ⟨_, _, h3⟩
      · exact .inl ⟨j, oj, hoj, h3⟩
      · exact .inl ⟨i, o, h3, h2⟩
    · intro i o h1
      by_cases e1 : i = k
      · subst e1; rw [hok] at h1; cases h1; exact ⟨ok', gk, by simp [ok'], by simp [ok']⟩
      · by_cases e2 : i = j
        · subst e2; rw [hoj] at h1; cases h1; exact ⟨oj', gj, by simp [oj'], by simp [oj']⟩
        · exact ⟨o, by rw [go i e1 e2]; exact h1, Nat.le_refl _, fun _ => rfl⟩
  refine ⟨σ', ⟨by simp [σ', setO, H.len], ?_, ?_, ?_⟩, hext, ?_⟩
  · intro i i' o o' b h1 h2 h3 h4
    rcases blk i o b h1 h3 with ⟨rfl, g1⟩ | ⟨g0, g1, g2⟩ <;> rcases blk i' o' b h2 h4 with ⟨rfl, g1'⟩ | ⟨g0', g1', g2'⟩
    · rfl
    · exact absurd (H.inj i' j o' oj b g2' hoj h4 g1) g1'
    · exact absurd (H.inj i j o oj b g2 hoj h3 g1') g1
    · exact H.inj i i' o o' b g2 g2' h3 h4
  · intro i o b h1 h2
    rcases blk i o b h1 h2 with ⟨_, g1⟩ | ⟨_, _, g2⟩
    · exact H.lt j oj b hoj g1
    · exact H.lt i o b g2 h2
  · intro i a o ha ho
    by_cases e1 : i = k
    · subst e1
      have hkh : i < (setO j h (.emp (vj + 1))).length := by rw [len_setO, ← H.len]; exact hkl
      have := getO_setO (o := .mem (ok.ver + 1) ty cs) hkh
      unfold getO at this
      rw [this] at ha
      cases ha
      rw [gk] at ho
      cases ho
      exact ⟨rfl, m2, b, arr, m3, m4, m5, m6, m7, fun i c x hc hx => (m8 i c x hc hx).ext hext⟩
    · by_cases e2 : i = j
      · subst e2
        have hjh : i < h.length := by rw [← H.len]; exact hjl
        simp only [setO] at ha
        rw [List.getElem?_set_ne hne, List.getElem?_set_self hjh] at ha
        cases ha
        rw [gj] at ho
        cases ho
        exact ⟨by simp [oj', m1], rfl⟩
      · rw [go i e1 e2] at ho
        simp only [setO] at ha
        rw [List.getElem?_set_ne (fun e => e1 e.symm), List.getElem?_set_ne (fun e => e2 e.symm)] at ha
        exact (H.obj i a o ha ho).ext hext (fun _ _ => rfl)
  · intro sz off len x hx
    cases hx with
    | imm h => cases h
    | osl o ho hs hle hh =>
      rw [hoj] at ho
      cases ho
      refine .osl ok' gk hs (Nat.le_refl _) (fun _ => ?_)
      exact hh m1

/-- The end of a function that gives its object to the place k of its caller. -/
def fnM (rs : List RV) (h0 : List AObj) (k : Nat) (K : AV → List AObj → Prop) : Ex → Nx
  | .exit _, _, _ => False
  | _, t, hh => ∃ (j vj sz off len : Nat) (ty : TypeId) (cs : List AV) (tl : List AObj), rvsOk t hh rs ∧ retA (rvsVal t hh rs) = .osl j vj sz off len ∧ hh = h0 ++ tl ∧ h0.length ≤ j ∧ getO j hh = some (.mem vj ty cs) ∧
      (∀ c ∈ cs, lowV h0.length c = true) ∧ site h0 k = true ∧ K (.osl k (verOf (getO k h0) + 1) sz off len) (setO k h0 (.mem (verOf (getO k h0) + 1) ty cs))

theorem acallsM_of {P : Program} {f nt ns : Nat} {rs : List RV} {c : C} (hf : FnIs P f nt ns rs c) {args : List AV} {h : List AObj} {K : AV → List AObj → Prop} (k : Nat) (ha : args.length ≤ nt)
    (hw : codeA P h.length c (fnM rs h k K) (args ++ List.replicate (nt - args.length) .undef) (h ++ List.replicate ns (.emp 0))) : ACallsQ P f args h K := by
  obtain ⟨fn, body, js, imp, wks, h1, h2, h3, rfl, rfl, h6, h7⟩ := hf
  refine ⟨by simp [okF, h1, h2, h3], fun w σ xs H hv => ?_⟩
  refine callsIn_of_wp_marks h1 h2 trivial ?_
  obtain ⟨p1, p2⟩ := H.pushN js.length
  have hsr : SR w.heap.size w (σ ++ List.replicate js.length ⟨none, 0, 0, 0⟩) (args ++ List.replicate (fn.ntmps - args.length) .undef) (h ++ List.replicate js.length (.emp 0))
      { tmps := xs.toArray ++ Array.replicate (fn.ntmps - xs.toArray.size) Go.undef, defers := [] } := by
    refine ⟨p1, by simp [hv.1], fun i c x hc hx => ?_, ⟨[], rfl, .nil, Nat.le_refl _, by simp⟩⟩
    rw [List.getElem?_append] at hc
    simp only [Array.getElem?_append] at hx
    have hz : xs.toArray.size = args.length := by simp [hv.1]
    split at hc
    · rename_i hi
      rw [if_pos (by omega)] at hx
      exact (hv.2 i c x hc (by simpa using hx)).ext p2
    · rw [List.getElem?_replicate] at hc
      split at hc
      · cases hc; exact .imm .undef
      · cases hc
  refine wpIn_mono (cv_sound (b := h.length) h7 w.heap.size none _ w _ _ _ _ hw (by simp) hsr) ?_
  rintro e a' w' ⟨z, σ', t', hh, he, g1, g2, g3⟩
  have key : (∃ (j vj sz off len : Nat) (ty : TypeId) (cs : List AV) (tl : List AObj), rvsOk t' hh rs ∧ retA (rvsVal t' hh rs) = .osl j vj sz off len ∧ hh = h ++ tl ∧ h.length ≤ j ∧ getO j hh = some (.mem vj ty cs) ∧
      (∀ c ∈ cs, lowV h.length c = true) ∧ site h k = true ∧ K (.osl k (verOf (getO k h) + 1) sz off len) (setO k h (.mem (verOf (getO k h) + 1) ty cs))) →
      LeavesInM Fence.wide 0 P fn a'.tmps (fun e w' => ∃ v σ' r h', K r h' ∧ e = .returned v ∧ HR w' σ' h' ∧ VR w' σ' r v ∧ Ext w σ w' σ') a'.defers .returning w' := by
    rintro ⟨j, vj, sz, off, len, ty, cs, tl, k1, k2, rfl, k3, k4, k5, k6, hK⟩
    obtain ⟨ms, d1, d2, d3, d4⟩ := g1.df
    rw [d1]
    refine leaves_marks (N := w.heap.size) ms w' d2 (fun r hr => ⟨(d4 r hr).1, (d4 r hr).2.2.2⟩) (fun w1 e1 => ?_)
    have H1 := g1.hr.dt e1
    obtain ⟨v, v1, v2⟩ := results_vr (P := P) H1 g1.sz (fun i c x hc hx => (g1.tm i c x hc hx).dt e1) h6 k1
    rw [k2] at v2
    have ee : Ext w σ w1 σ' := (p2.trans g2).dt e1
    have hkl : k < h.length := by
      have := k6
      unfold site at this
      split at this
      · rename_i hx; exact getO_lt hx
      · rename_i hx; exact getO_lt hx
      · cases this
    have hkt : site (h ++ tl) k = true := by unfold site at k6 ⊢; rw [getO_left hkl]; exact k6
    obtain ⟨σ2, q1, q2, q3⟩ := H1.move k4 hkt (by omega)
    have q3' := q3 _ _ _ _ v2
    rw [getO_left hkl] at q1 q3'
    have eh : setO k (setO j (h ++ tl) (.emp (vj + 1))) (.mem (verOf (getO k h) + 1) ty cs) = setO k h (.mem (verOf (getO k h) + 1) ty cs) ++ setO (j - h.length) tl (.emp (vj + 1)) := by
      unfold setO
      rw [List.set_append_right _ _ k3, List.set_append_left _ _ hkl]
    rw [eh] at q1
    obtain ⟨m1, m2⟩ := HR.trunc H (ee.trans q2) q1 len_setO (fun o ho => by
      rcases mem_setO ho with h1 | rfl
      · exact .inl h1
      · exact .inr k5)
    refine ⟨v, v1, v, _, _, _, hK, rfl, m1, ?_, m2⟩
    cases q3' with
    | imm h => cases h
    | osl o ho hs hle hh =>
      refine .osl o ?_ hs hle hh
      rw [List.getElem?_take, if_pos hkl]
      exact ho
  cases e with
  | normal => cases he; exact key g3
  | ret => cases he; exact key g3
  | exit id => cases he; exact g3.elim
  | goto l => cases he
  | panic c => cases he
  | outgrown => cases he
theorem acallsM {P : Program} {f nt ns : Nat} {rs : List RV} {c : C} (hf : FnIs P f nt ns rs c) {args : List AV} {h : List AObj} {r : AV} {h' : List AObj} (k : Nat) (ha : args.length ≤ nt)
    (hw : codeA P h.length c (fnM rs h k fun r1 h1 => r1 = r ∧ h1 = h') (args ++ List.replicate (nt - args.length) .undef) (h ++ List.replicate ns (.emp 0))) : ACalls P f args h r h' := (acallsM_of hf k ha hw).calls
end AF

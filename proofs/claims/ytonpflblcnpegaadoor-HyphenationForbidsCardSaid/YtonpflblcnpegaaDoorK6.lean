import Derived.Test.YtonpflblcnpegaaDoorK2
set_option linter.all false
set_option linter.unusedSimpArgs false
set_option linter.unusedVariables false
set_option linter.unusedSectionVars false
section
namespace AF
open Go
theorem HR.recell {w : World} {σ : List OB} {h : List AObj} (H : HR w σ h) {k v : Nat} {ty : TypeId} {cs cs' : List AV} {o : OB} {b : Nat} {arr : Array Value} (hk : getO k h = some (.mem v ty cs)) (ho : σ[k]? = some o) (hb : o.blk = some b) (hB : Blk w b arr o.ty) (hsz : arr.size = o.size)
    (hl : cs'.length ≤ arr.size) (h1 : ∀ (i : Nat) x, i < cs'.length → arr[i]? = some x → x.oneCell' = true) (hv : ∀ (i : Nat) c x, cs'[i]? = some c → arr[i]? = some x → VR w σ c x) : HR w σ (setO k h (.mem v ty cs')) := by
  have hkl := getO_lt hk
  refine ⟨by rw [H.len, len_setO], H.inj, H.lt, fun i a oi ha hoi => ?_⟩
  by_cases e : i = k
  · subst e
    have := getO_setO (o := .mem v ty cs') hkl
    unfold getO at this
    rw [this] at ha
    cases ha
    rw [ho] at hoi
    cases hoi
    have hobj := H.obj i _ o hk ho
    obtain ⟨m1, m2, _⟩ := hobj
    exact ⟨m1, m2, b, arr, hb, hB, hsz, hl, h1, hv⟩
  · refine H.obj i a oi ?_ hoi
    simp only [setO] at ha
    rwa [List.getElem?_set_ne (fun e2 => e e2.symm)] at ha
def movedH (h0 hh : List AObj) (k j vj : Nat) (ty : TypeId) (cs : List AV) : List AObj := setO k (setO j hh (.emp (vj + 1))) (.mem (verOf (getO k h0) + 1) ty cs)
def VOuts (n : Nat) (H : List AObj) : List AV → List AV → Prop
  | [], [] => True
  | a :: l, b :: m => VOut n H a b ∧ VOuts n H l m
  | _, _ => False
theorem VOuts.get {n : Nat} {H : List AObj} : ∀ {l m : List AV}, VOuts n H l m → l.length = m.length ∧ ∀ (i : Nat) c, m[i]? = some c → ∃ a, l[i]? = some a ∧ VOut n H a c := by
  intro l
  induction l with
  | nil => intro m h; cases m with
    | nil => exact ⟨rfl, by simp⟩
    | cons => exact h.elim
  | cons a l ih => intro m h; cases m with
    | nil => exact h.elim
    | cons b m =>
      obtain ⟨h1, h2⟩ := ih h.2
      refine ⟨by simp [h1], fun i c hc => ?_⟩
      cases i with
      | zero => simp at hc; subst hc; exact ⟨a, rfl, h.1⟩
      | succ i => exact h2 i c (by simpa using hc)
def fnM2 (rs : List RV) (h0 : List AObj) (k : Nat) (K : AV → List AObj → Prop) : Ex → Nx
  | .exit _, _, _ => False
  | _, t, hh => ∃ (j vj sz off len : Nat) (ty : TypeId) (cs cs' : List AV) (tl : List AObj) (rest rest' : List AV), rvsOk t hh rs ∧ rvsVal t hh rs = .osl j vj sz off len :: rest ∧ hh = h0 ++ tl ∧ h0.length ≤ j ∧ getO j hh = some (.mem vj ty cs) ∧ site h0 k = true ∧
      VOuts h0.length (movedH h0 hh k j vj ty cs) cs cs' ∧ VOuts h0.length (movedH h0 hh k j vj ty cs) rest rest' ∧
      K (retA (.osl k (verOf (getO k h0) + 1) sz off len :: rest')) (setO k h0 (.mem (verOf (getO k h0) + 1) ty cs'))
theorem acallsM2_of {P : Program} {f nt ns : Nat} {rs : List RV} {c : C} (hf : FnIs P f nt ns rs c) {args : List AV} {h : List AObj} {K : AV → List AObj → Prop} (k : Nat) (ha : args.length ≤ nt)
    (hw : codeA P h.length c (fnM2 rs h k K) (args ++ List.replicate (nt - args.length) .undef) (h ++ List.replicate ns (.emp 0))) : ACallsQ P f args h K := by
  obtain ⟨fn, body, js, imp, wks, h1, h2, h3, rfl, rfl, h6, h7⟩ := hf
  refine ⟨by simp [okF, h1, h2, h3], fun w σ xs H hv => ?_⟩
  refine callsIn_of_wp_marks h1 h2 trivial ?_
  obtain ⟨p1, p2⟩ := H.pushN js.length
  have hsr : SR w.heap.size w (σ ++ List.replicate js.length ⟨none, 0, 0, 0⟩) (args ++ List.replicate (fn.ntmps - args.length) .undef) (h ++ List.replicate js.length (.emp 0))
      { tmps := xs.toArray ++ Array.replicate (fn.ntmps - xs.toArray.size) Go.undef, defers := [] } := by
    refine ⟨p1, by simp [hv.1], fun i c x hc hx => ?_, ⟨[], rfl, .nil, Nat.le_refl _, by simp⟩⟩
    rw [List.getElem?_append] at hc
    simp only [Array.getElem?_append] at hx
    have hz : xs.toArray.size = args.length := by simp [hv.1]
    split at hc
    · rename_i hi
      rw [if_pos (by omega)] at hx
      exact (hv.2 i c x hc (by simpa using hx)).ext p2
    · rw [List.getElem?_replicate] at hc
      split at hc
      · cases hc; exact .imm .undef
      · cases hc
  refine wpIn_mono (cv_sound (b := h.length) h7 w.heap.size none _ w _ _ _ _ hw (by simp) hsr) ?_
  rintro e a' w' ⟨z, σ', t', hh, he, g1, g2, g3⟩
  have key : (∃ (j vj sz off len : Nat) (ty : TypeId) (cs cs' : List AV) (tl : List AObj) (rest rest' : List AV), rvsOk t' hh rs ∧ rvsVal t' hh rs = .osl j vj sz off len :: rest ∧ hh = h ++ tl ∧ h.length ≤ j ∧ getO j hh = some (.mem vj ty cs) ∧ site h k = true ∧
      VOuts h.length (movedH h hh k j vj ty cs) cs cs' ∧ VOuts h.length (movedH h hh k j vj ty cs) rest rest' ∧
      K (retA (.osl k (verOf (getO k h) + 1) sz off len :: rest')) (setO k h (.mem (verOf (getO k h) + 1) ty cs'))) →
      LeavesInM Fence.wide 0 P fn a'.tmps (fun e w' => ∃ v σ' r h', K r h' ∧ e = .returned v ∧ HR w' σ' h' ∧ VR w' σ' r v ∧ Ext w σ w' σ') a'.defers .returning w' := by
    rintro ⟨j, vj, sz, off, len, ty, cs, cs', tl, rest, rest', k1, k2, rfl, k3, k4, k6, k7, k8, hK⟩
    obtain ⟨ms, d1, d2, d3, d4⟩ := g1.df
    rw [d1]
    refine leaves_marks (N := w.heap.size) ms w' d2 (fun r hr => ⟨(d4 r hr).1, (d4 r hr).2.2.2⟩) (fun w1 e1 => ?_)
    have H1 := g1.hr.dt e1
    obtain ⟨v, v1, v2⟩ := results_vr (P := P) H1 g1.sz (fun i c x hc hx => (g1.tm i c x hc hx).dt e1) h6 k1
    rw [k2] at v2
    have ee : Ext w σ w1 σ' := (p2.trans g2).dt e1
    have hkl : k < h.length := by
      have := k6
      unfold site at this
      split at this
      · rename_i hx; exact getO_lt hx
      · rename_i hx; exact getO_lt hx
      · cases this
    have hkt : site (h ++ tl) k = true := by unfold site at k6 ⊢; rw [getO_left hkl]; exact k6
    obtain ⟨σ2, q1, q2, q3⟩ := H1.move k4 hkt (by omega)
    rw [getO_left hkl] at q1 q3
    have eh : movedH h (h ++ tl) k j vj ty cs = setO k h (.mem (verOf (getO k h) + 1) ty cs) ++ setO (j - h.length) tl (.emp (vj + 1)) := by
      unfold movedH setO
      rw [List.set_append_right _ _ k3, List.set_append_left _ _ hkl]
    have q1' : HR w1 σ2 (movedH h (h ++ tl) k j vj ty cs) := q1
    have hcell : getO k (movedH h (h ++ tl) k j vj ty cs) = some (.mem (verOf (getO k h) + 1) ty cs) := by
      rw [eh, getO_left (by rw [len_setO]; exact hkl), getO_setO hkl]
    obtain ⟨o, b, arr, o1, o2, o3, o4, o5, o6, o7, o8, o9⟩ := cellsOf_spec q1' (cellsOf_of hcell)
    have q0 := q1'.recell (cs' := []) hcell o1 o4 o5 o6 (by simp) (by simp) (by simp)
    have eh0 : setO k (movedH h (h ++ tl) k j vj ty cs) (.mem (verOf (getO k h) + 1) ty []) = setO k h (.mem (verOf (getO k h) + 1) ty []) ++ setO (j - h.length) tl (.emp (vj + 1)) := by
      rw [eh, setO_left (by rw [len_setO]; exact hkl), setO_setO]
    rw [eh0] at q0
    obtain ⟨m1, m2⟩ := HR.trunc H (ee.trans q2) q0 len_setO (fun o ho => by
      rcases mem_setO ho with h1 | rfl
      · exact .inl h1
      · exact .inr (fun c hc => by simp at hc))
    have ok' : (σ2.take h.length)[k]? = some o := by rw [List.getElem?_take, if_pos hkl]; exact o1
    obtain ⟨c1, c2⟩ := k7.get
    have m3 := m1.recell (cs' := cs') (getO_setO hkl) ok' o4 o5 o6 (by omega) (fun i x hi hx => o8 i x (by omega) hx) (fun i c x hc hx => by
      obtain ⟨a, ha', hvo⟩ := c2 i c hc
      exact hvo w1 σ2 x q1' (o9 i a x ha' hx))
    rw [setO_setO] at m3
    have first : ∀ x, VR w1 σ' (.osl j vj sz off len) x → VR w1 (σ2.take h.length) (.osl k (verOf (getO k h) + 1) sz off len) x := by
      intro x hx
      have q3' := q3 _ _ _ x hx
      cases q3' with
      | imm h => cases h
      | osl o' ho' hs hle hh =>
        refine .osl o' ?_ hs hle hh
        rw [List.getElem?_take, if_pos hkl]
        exact ho'
    refine ⟨v, v1, v, _, _, _, hK, rfl, m3, ?_, m2⟩
    obtain ⟨r1, r2⟩ := k8.get
    cases rest with
    | nil =>
      have : rest' = [] := List.eq_nil_of_length_eq_zero (by simpa using r1.symm)
      subst this
      exact first v v2
    | cons b0 rest =>
      cases rest' with
      | nil => simp at r1
      | cons b1 rest' =>
        obtain ⟨vs, rfl, hvl, hvv⟩ := vr_tup v2
        refine .tup (by rw [hvl]; simpa using r1) (fun i c x hc hx => ?_)
        cases i with
        | zero =>
          simp at hc
          subst hc
          exact first x (hvv 0 _ x rfl hx)
        | succ i =>
          obtain ⟨a, ha', hvo⟩ := r2 i c (by simpa using hc)
          exact hvo w1 σ2 x q1' ((hvv (i + 1) a x (by simpa using ha') hx).ext q2)
  cases e with
  | normal => cases he; exact key g3
  | ret => cases he; exact key g3
  | exit id => cases he; exact g3.elim
  | goto l => cases he
  | panic c => cases he
  | outgrown => cases he
theorem acallsM2 {P : Program} {f nt ns : Nat} {rs : List RV} {c : C} (hf : FnIs P f nt ns rs c) {args : List AV} {h : List AObj} {r : AV} {h' : List AObj} (k : Nat) (ha : args.length ≤ nt)
    (hw : codeA P h.length c (fnM2 rs h k fun r1 h1 => r1 = r ∧ h1 = h') (args ++ List.replicate (nt - args.length) .undef) (h ++ List.replicate ns (.emp 0))) : ACalls P f args h r h' := (acallsM2_of hf k ha hw).calls
end AF
end

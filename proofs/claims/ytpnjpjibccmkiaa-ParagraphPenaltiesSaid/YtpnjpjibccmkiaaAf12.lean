/-
  AF12: a list of operations, in the order of the text or in another one.
-/
import Derived.Test.YtpnjpjibccmkiaaAf11
set_option linter.all false
set_option linter.unusedSimpArgs false
set_option linter.unusedVariables false
set_option linter.unusedSectionVars false
namespace AF
open Go

theorem length_setA : ∀ (n : Nat) (t : List AV) (v : AV), (setA n t v).length = t.length := by
  intro n t
  induction t generalizing n with
  | nil => intro v; cases n <;> rfl
  | cons a t ih => intro v; cases n with
    | zero => rfl
    | succ n => simp [setA, ih]

theorem setA_get : ∀ (n : Nat) (t : List AV) (v : AV) (i : Nat), (setA n t v)[i]? = if i = n ∧ i < t.length then some v else t[i]? := by
  intro n t
  induction t generalizing n with
  | nil => intro v i; cases n <;> simp [setA]
  | cons a t ih => intro v i; cases n with
    | zero => cases i <;> simp [setA]
    | succ n => cases i with
      | zero => simp [setA]
      | succ i => simp [setA, ih]

theorem getA_get : ∀ (n : Nat) (t : List AV), getA n t = (t[n]?).getD .undef := by
  intro n t
  induction t generalizing n with
  | nil => cases n <;> rfl
  | cons a t ih => cases n with
    | zero => rfl
    | succ n => simp [getA, ih]

section
variable {P : Program} {js : List Tmp} {imp : List FuncId} {w : World} {σ : List OB} {D : Nat} {t : List AV} {h : List AObj} {a : Act}

theorem SR.put (H : SR D w σ t h a) {w' : World} {σ' : List OB} {h' : List AObj} (hr : HR w' σ' h') (e : Ext w σ w' σ') {v : AV} {x : Value} (hv : VR w' σ' v x) (d : Option Tmp) : SR D w' σ' (putA t d v) h' (a.put d x) := by
  cases d with
  | none => exact ⟨hr, H.sz, fun i c y hc hy => (H.tm i c y hc hy).ext e, df_ext e H.df⟩
  | some d =>
    refine ⟨hr, by simp [putA, Act.put, length_setA, H.sz], fun i c y hc hy => ?_, df_ext e H.df⟩
    simp only [putA, setA_get] at hc
    simp only [Act.put, Array.getElem?_setIfInBounds] at hy
    split at hc
    · rename_i hi
      obtain ⟨rfl, hlt⟩ := hi
      cases hc
      simp [H.sz, hlt] at hy
      subst hy
      exact hv
    · rename_i hi
      split at hy
      · rename_i hd
        subst hd
        split at hy
        · exact absurd ⟨rfl, by rw [← H.sz]; assumption⟩ hi
        · cases hy
      · exact (H.tm i c y hc hy).ext e

theorem SR.evs (H : SR D w σ t h a) {os : List Operand} {xs : List X} (hx : cvXs os = some xs) : VRs w σ (AF.evs t xs) (os.map a.eval) := cvXs_vr H.sz H.tm hx

theorem semAt_any {o : Oper} {ρ : Operand → Value} {F : Fence} (h : ∀ c, o.op ≠ .defer c) : o.semAt F.round ρ = execOp ρ o := Oper.semAt_eq _ _ _ h

theorem cvOp_noDefer {o : Oper} {r : R} {os : List Operand} (hc : cvOp P js imp o = some (r, os)) : ∀ c, o.op ≠ .defer c := by
  intro c e
  simp [cvOp, e] at hc

/-- The values that a call's record is made of. -/
theorem resolve_fn {o : Oper} {c : Call} {ρ : Operand → Value} {x : Operand} (hc : c.callee = .value x) : resolve ρ c o.type = Deferred.ofValue (ρ x) (c.args.map ρ) := by
  simp [resolve, hc]

theorem call_run {o : Oper} {c : Call} {ρ : Operand → Value} {f : FuncId} (ho : o.op = .call c) (hc : c.callee = .value (.func f)) (hρ : ρ (.func f) = .func (.func f) #[] #[]) (hf : okF P f = true) :
    (execOp ρ o).run P w = .ok (.enter f (c.args.map ρ)) w := by
  unfold okF at hf
  cases hfn : P.funcs[f]? with
  | none => simp [hfn] at hf
  | some fn =>
    simp [hfn] at hf
    have h1 : fn.body.isNone = false := by cases hb : fn.body <;> simp_all
    have h2 : (fn.name == "runtime.NumGoroutine") = false := by simpa using hf.2
    simp only [execOp, ho, resolve_fn hc, hρ, Deferred.ofValue, Sem.run_bind, Sem.run_pure, Result.andThen_ok, invoke, callFunc, Array.append_empty, Array.empty_append]
    simp [program, Sem.run, hfn]
    rw [if_neg hf.2, if_neg (by cases hb : fn.body <;> simp_all)]

theorem callv_run {o : Oper} {c : Call} {ρ : Operand → Value} {x : Operand} {f : FuncId} {us vs : Array Value} (ho : o.op = .call c) (hc : c.callee = .value x) (hρ : ρ x = .func (.func f) us vs) (hf : okF P f = true) :
    (execOp ρ o).run P w = .ok (.enter f (us ++ c.args.map ρ ++ vs)) w := by
  unfold okF at hf
  cases hfn : P.funcs[f]? with
  | none => simp [hfn] at hf
  | some fn =>
    simp [hfn] at hf
    have h1 : fn.body.isNone = false := by cases hb : fn.body <;> simp_all
    have h2 : (fn.name == "runtime.NumGoroutine") = false := by simpa using hf.2
    simp only [execOp, ho, resolve_fn hc, hρ, Deferred.ofValue, Sem.run_bind, Sem.run_pure, Result.andThen_ok, invoke, callFunc]
    simp [program, Sem.run, hfn]
    rw [if_neg hf.2, if_neg (by cases hb : fn.body <;> simp_all)]

theorem isnilOp_not {k : NK} {op : BinOp} {x y : Operand} {r : R} {os : List Operand} (h : isnilOp k op x y = some (r, os)) : r.kd = .pure := by
  obtain ⟨n, z, v, rfl, _⟩ := isnilOp_spec h
  rfl

def CallPr (o : Oper) (r : R) (os : List Operand) : Prop :=
  (∀ f p, r = .call f p → ∃ c, o.op = .call c ∧ c.callee = .value (.func f) ∧ os = c.args.toList) ∧
    (r = .callv → ∃ c t, o.op = .call c ∧ c.callee = .value (.tmp t) ∧ os = .tmp t :: c.args.toList) ∧ (r = .pick → ∃ c x y, o.op = .pick c x y ∧ os = [c, x, y])

theorem CallPr.of {o : Oper} {r : R} {os : List Operand} (h : r.kd = .pure ∨ r.kd = .mem ∨ r.kd = .eff) : CallPr o r os := by
  refine ⟨fun f p e => ?_, fun e => ?_, fun e => ?_⟩ <;> (subst e; simp [R.kd] at h)

theorem cvOp_call {o : Oper} {r : R} {os : List Operand} (hc : cvOp P js imp o = some (r, os)) : CallPr o r os := by
  unfold cvOp at hc
  split at hc
  case h_5 =>
    rename_i ho
    cases hc
    exact ⟨fun f p h => (by cases h), fun h => (by cases h), fun _ => ⟨_, _, _, ho, rfl⟩⟩
  case h_24 c ho =>
    split at hc
    case h_5 hcal =>
      split at hc
      · cases hc
        exact ⟨fun f p h => (by cases h; exact ⟨c, ho, hcal, rfl⟩), fun h => (by cases h), fun h => (by cases h)⟩
      · cases hc
    case h_6 hcal =>
      cases hc
      exact ⟨fun f p h => (by cases h), fun _ => ⟨c, _, ho, hcal, rfl⟩, fun h => (by cases h)⟩
    all_goals
      (repeat' split at hc)
      all_goals first
        | (cases hc; done)
        | (cases hc; exact CallPr.of (by simp [R.kd]))
        | (simp at hc; obtain ⟨i, h1, h2, h3⟩ := hc; subst h2; subst h3; exact CallPr.of (by simp [R.kd]))
        | (simp at hc; obtain ⟨h1, h2, h3⟩ := hc; subst h2; subst h3; exact CallPr.of (by simp [R.kd]))
  all_goals
    (repeat' split at hc)
    all_goals first
      | (cases hc; done)
      | (cases hc; exact CallPr.of (by simp [R.kd]))
      | (exact CallPr.of (.inl (isnilOp_not hc)))
      | (simp at hc; obtain ⟨i, hi, h2, h3⟩ := hc; subst h2; subst h3; exact CallPr.of (by simp [R.kd]))
      | (simp at hc; obtain ⟨i, j, hi, h2, h3⟩ := hc; subst h2; subst h3; exact CallPr.of (by simp [R.kd]))
      | (simp at hc; obtain ⟨h1, h2, h3⟩ := hc; subst h2; subst h3; exact CallPr.of (by simp [R.kd]))

theorem VRs.split {w : World} {σ : List OB} {as bs : List AV} {xs ys : List Value} (h : VRs w σ as xs) (h' : VRs w σ bs ys) : VRs w σ (as ++ bs) (xs ++ ys) := by
  refine ⟨by simp [h.1, h'.1], fun i c x hc hx => ?_⟩
  rw [List.getElem?_append] at hc hx
  split at hc
  · rename_i hi
    rw [if_pos (by rw [h.1]; exact hi)] at hx
    exact h.2 i c x hc hx
  · rename_i hi
    rw [if_neg (by rw [h.1]; exact hi), h.1] at hx
    exact h'.2 _ c x hc hx

theorem vr_pick {c x y : AV} {u v z : Value} (hok : pickOk c x y) (hc : VR w σ c u) (hx : VR w σ x v) (hy : VR w σ y z) : ∃ b, u = .bool b ∧ VR w σ (pickV c x y) (if b then v else z) := by
  have fin : ∀ (b : Bool), (b = true → x.flag = true) → (b = false → y.flag = true) → boolOf c.strip = b → VR w σ (pickV c x y) (if b then v else z) := by
    intro b h1 h2 h3
    have hs : VR w σ (if b then x.strip else y.strip) (if b then v else z) := by
      cases b
      · exact vr_strip hy (h2 rfl)
      · exact vr_strip hx (h1 rfl)
    unfold pickV
    split
    · rename_i p q e1 e2
      rw [h3]
      rw [e1, e2] at hs
      cases b
      · have := vr_bool hs; simp at this; subst this; simp; exact vr_b
      · have := vr_bool hs; simp at this; subst this; simp; exact vr_b
    · rw [h3]
      cases b <;> exact hs
  unfold pickOk at hok
  split at hok
  · rename_i b
    exact ⟨b, vr_bool hc, fin b hok.1 hok.2 rfl⟩
  · rename_i g b
    obtain ⟨rfl, h1, h2⟩ := hok
    exact ⟨b, vr_bool ((vr_gd hc).1 rfl), fin b h1 h2 rfl⟩
  · exact hok.elim

/-- What a guard reads. -/
theorem guard_spec (H : SR D w σ t h a) {ops : Array Oper} {j : Nat} {d : Tmp} (hd : (ops[j]?).bind (·.dst) = some d) (hok : guardOk (getA d t) = true) (want : Bool) : (yielded ops a.tmps j == some want) = guardA (getA d t) want := by
  rw [getA_get] at hok ⊢
  cases hc : t[d]? with
  | none => rw [hc] at hok; cases hok
  | some c =>
    rw [hc, Option.getD_some] at hok
    have hlt : d < a.tmps.size := by rw [H.sz]; exact (List.getElem?_eq_some_iff.1 hc).1
    have hx : a.tmps[d]? = some a.tmps[d] := Array.getElem?_eq_getElem hlt
    have hv := H.tm d c _ hc hx
    have hy : yielded ops a.tmps j = match a.tmps[d] with | .bool b => some b | _ => none := by
      unfold yielded
      rw [hd, Option.bind_some, hx]
      cases a.tmps[d] <;> rfl
    rw [hy, Option.getD_some]
    cases c <;> simp only [guardOk] at hok <;> try cases hok
    · have := vr_bool hv
      rw [this]
      rfl
    · rename_i g v
      cases v <;> simp only [guardOk] at hok <;> try cases hok
      rename_i b
      obtain ⟨h1, h2⟩ := vr_gd hv
      cases g with
      | true =>
        have := vr_bool (h1 rfl)
        rw [this]
        simp [guardA]
      | false =>
        have := h2 rfl
        rw [this]
        simp [guardA, Go.undef]

/-- The call's arguments as they come to the function. -/
theorem callAns {f : FuncId} {args : List AV} {xs : List Value} {h h' : List AObj} {v : AV} (hA : ACalls P f args h v h') (H : HR w σ h) (hv : VRs w σ args xs) {ρ' : Option Nat} {o : Oper} {a : Act} {next : Act → World → Prop} {Q : Exit → Act → World → Prop}
    (hn : ∀ x w' σ', HR w' σ' h' → VR w' σ' v x → Ext w σ w' σ' → next (a.put o.dst x) w') {arr : Array Value} (harr : arr = xs.toArray) : o.uponIn (FW ρ') 0 P a next Q (.ok (.enter f arr) w) := by
  subst harr
  rw [Oper.uponIn_enter]
  refine ⟨fun h => by simp [FW, Fence.wide] at h, ?_⟩
  exact (hA.2 w σ xs H hv).mono fun e w' ⟨y, σ', he, h1, h2, h3⟩ => by subst he; exact hn y w' σ' h1 h2 h3

theorem up_val {ρ' : Option Nat} {o : Oper} {v : AV} {next : Act → World → Prop} {Q : Exit → Act → World → Prop} (h : PureOk P w σ a.eval o v) (hn : ∀ x, VR w σ v x → next (a.put o.dst x) w) :
    o.uponIn (FW ρ') 0 P a next Q ((execOp a.eval o).run P w) := by
  obtain ⟨x, hx, hr⟩ := h
  rw [hx, Oper.uponIn_value]
  exact hn x hr

theorem up_callv {ρ' : Option Nat} {o : Oper} {c : Call} {tm : Tmp} (H : HR w σ h) (ho : o.op = .call c) (hcal : c.callee = .value (.tmp tm)) {vs : List AV} (hv : VRs w σ vs ((Operand.tmp tm :: c.args.toList).map a.eval)) {nx : Nx}
    (h2 : callV P vs o.dst nx t h) {next : Act → World → Prop} {Q : Exit → Act → World → Prop}
    (hn : ∀ v x w' σ' h', HR w' σ' h' → Ext w σ w' σ' → VR w' σ' v x → nx (putA t o.dst v) h' → next (a.put o.dst x) w') : o.uponIn (FW ρ') 0 P a next Q ((execOp a.eval o).run P w) := by
  rw [List.map_cons] at hv
  unfold callV at h2
  split at h2
  · rename_i f first cap args
    obtain ⟨x, rest, hxr, hx, hrest⟩ := hv.cons
    simp only [List.cons.injEq] at hxr
    obtain ⟨rfl, rfl⟩ := hxr
    obtain ⟨us, zs, ef, l1, l2, v1, v2⟩ := vr_fn hx
    obtain ⟨v, h', hA, h3⟩ := h2
    rw [callv_run ho hcal ef hA.1]
    have a1 : VRs w σ first us.toList := ⟨by simpa using l1, fun i c x hc hx => v1 i c x hc (by simpa using hx)⟩
    have a2 : VRs w σ cap zs.toList := ⟨by simpa using l2, fun i c x hc hx => v2 i c x hc (by simpa using hx)⟩
    exact callAns hA H ((a1.split hrest).split a2) (fun x w' σ' g1 g2 g3 => hn v x w' σ' h' g1 g3 g2 h3) (by
      apply Array.ext'
      simp)
  · rename_i k args
    obtain ⟨x, rest, hxr, hx, hrest⟩ := hv.cons
    simp only [List.cons.injEq] at hxr
    obtain ⟨rfl, rfl⟩ := hxr
    obtain ⟨⟨s0, ts0, L0, hrec⟩, hY⟩ := h2
    obtain ⟨ob, g1, g2⟩ := vr_yld hx
    obtain ⟨q1, bl, rr0, q2, q3, -⟩ := H.obj k _ _ hrec g1
    obtain ⟨bl', q4, q5⟩ := g2 q1
    rw [q2] at q4
    cases q4
    obtain ⟨fn, tmps, asg, body, r1, r2⟩ := hY w σ _ bl H hrest ⟨ob, g1, q1, q2⟩
    have hrun : (execOp a.eval o).run P w = .ok (.round bl fn tmps asg body) w := by
      simp only [execOp, ho, resolve_fn hcal, q5, Deferred.ofValue, Sem.run_bind, Sem.run_pure, Result.andThen_ok, invoke, Array.append_empty, Array.empty_append]
      have : (c.args.map a.eval) = ((c.args.toList.map a.eval).toArray) := by
        apply Array.ext'
        rw [Array.toList_map]
      rw [this]
      exact r1
    rw [hrun, Oper.uponIn_round]
    refine ⟨fun h => by simp [FW, Fence.wide] at h, ?_⟩
    have := r2.mono (R' := fun
      | .returned v, w'' => next (a.put o.dst v) w''
      | .panicked chain, w'' => Q (.panic chain) a w''
      | .outgrown, _ => LetsOut Q) (fun e w' ⟨rb, σ', h', e1, e2, e3, e4⟩ => by
        subst e1
        exact hn _ _ _ _ _ e2 e3 vr_b e4)
    exact this
  · exact h2.elim

theorem step_sound {ρ' : Option Nat} {ops : Array Oper} {o : Oper} {ro : RO} (hc : cvRO P js imp ops o = some ro) {b : Nat} {nx : Nx} (hs : stepO P b ro nx t h) (H : SR D w σ t h a) {next : Act → World → Prop} {Q : Exit → Act → World → Prop}
    (hn : ∀ a' w' σ' t' h', SR D w' σ' t' h' a' → Ext w σ w' σ' → nx t' h' → next a' w') :
    if Region.wanted o (yielded ops a.tmps) then o.wpIn (FW ρ') 0 P a w next Q else (∀ f, o.about P w a.eval = some f → (FW ρ').fn f) ∧ next (a.put o.dst Go.undef) w := by
  have hfn : ∀ f, (FW ρ').fn f := fun _ => trivial
  unfold cvRO at hc
  split at hc
  · rename_i r os hcv
    split at hc
    · rename_i ys hys
      have hv := H.evs hys
      have hnd := cvOp_noDefer hcv
      obtain ⟨hc1, hc2, hc3⟩ := cvOp_call hcv
      have hρ : ∀ c, a.eval (.const c) = c := fun _ => rfl
      generalize hvs : AF.evs t ys = vs at hv
      have goP : r.kd = .pure → flags vs → okP r (strips vs) → (∀ x, VR w σ (valP r (strips vs)) x → next (a.put o.dst x) w) → o.uponIn (FW ρ') 0 P a next Q ((execOp a.eval o).run P w) :=
        fun hk h1 h2 h3 => up_val (exec_pure hcv hk hρ (hv.strips h1) h2) h3
      have goM : r.kd = .mem → flags vs → okL h r (strips vs) → (∀ x, VR w σ (valL h r (strips vs)) x → next (a.put o.dst x) w) → o.uponIn (FW ρ') 0 P a next Q ((execOp a.eval o).run P w) :=
        fun hk h1 h2 h3 => up_val (exec_mem hcv hk hρ (hv.strips h1) H.hr h2) h3
      have goE : r.kd = .eff → flags vs → effE b h r (strips vs) t o.dst nx → o.uponIn (FW ρ') 0 P a next Q ((execOp a.eval o).run P w) := by
        intro hk h1 h2
        obtain ⟨nv, x, w', σ', v, h', e1, e2, e3, e4, e5, e6⟩ := exec_eff hcv hk hρ (hv.strips h1) H.hr h2
        rw [e1]
        have := hn _ _ _ _ _ (H.put e3 e5 e4 o.dst) e5 e6
        rcases e2 with rfl | ⟨rfl, rfl⟩
        · rw [Oper.uponIn_value]; exact this
        · rw [Oper.uponIn_skip]; exact this
      have goC : ∀ f p v h', r.kd = .call f p → flags vs → ACalls P f (strips vs) h v h' → (∀ x w' σ', HR w' σ' h' → VR w' σ' v x → Ext w σ w' σ' → next (a.put o.dst x) w') → o.uponIn (FW ρ') 0 P a next Q ((execOp a.eval o).run P w) := by
        intro f p v h' hk h1 h2 h3
        have hr : r = .call f p := by
          cases r <;> simp only [R.kd] at hk <;> first | cases hk; rfl | cases hk
        obtain ⟨c, ho, hcal, rfl⟩ := hc1 f p hr
        rw [call_run ho hcal rfl h2.1]
        exact callAns h2 H.hr (hv.strips h1) h3 (by apply Array.ext'; simp)
      have goV : r.kd = .callv → flags vs → callV P (strips vs) o.dst nx t h → o.uponIn (FW ρ') 0 P a next Q ((execOp a.eval o).run P w) := by
        intro hk h1 h2
        have hr : r = .callv := by cases r <;> simp only [R.kd] at hk <;> first | rfl | cases hk
        obtain ⟨c, tm, ho, hcal, rfl⟩ := hc2 hr
        exact up_callv H.hr ho hcal (hv.strips h1) h2 (fun v x w' σ' h' g1 g2 g3 g4 => hn _ _ _ _ _ (H.put g1 g2 g3 o.dst) g2 g4)
      have goK : ∀ c x y, r.kd = .pick → vs = [c, x, y] → pickOk c x y → (∀ z, VR w σ (pickV c x y) z → next (a.put o.dst z) w) → o.uponIn (FW ρ') 0 P a next Q ((execOp a.eval o).run P w) := by
        intro c x y hk hvs h1 h2
        have hr : r = .pick := by cases r <;> simp only [R.kd] at hk <;> first | rfl | cases hk
        obtain ⟨oc, ox, oy, ho, rfl⟩ := hc3 hr
        subst hvs
        obtain ⟨p, q, s, hpqs, g1, g2, g3⟩ := hv.three
        simp only [List.map_cons, List.map_nil, List.cons.injEq, and_true] at hpqs
        obtain ⟨rfl, rfl, rfl⟩ := hpqs
        obtain ⟨bb, e1, e2⟩ := vr_pick h1 g1 g2 g3
        exact up_val ⟨_, by simp [execOp, ho, e1, asBool], e2⟩ h2
      have same : ∀ {v x}, VR w σ v x → nx (putA t o.dst v) h → next (a.put o.dst x) w := fun hv hk => hn _ _ _ _ _ (H.put H.hr (Ext.refl w σ) hv o.dst) (Ext.refl w σ) hk
      split at hc
      · rename_i hg
        cases hc
        have hw : Region.wanted o (yielded ops a.tmps) = true := by simp [Region.wanted, hg]
        rw [if_pos hw]
        refine ⟨fun f _ => hfn f, ?_⟩
        rw [semAt_any hnd]
        have hs' : stepA P b r r.kd vs o.dst nx t h := hvs ▸ hs
        cases hk : r.kd with
        | pure => rw [hk] at hs'; exact goP hk hs'.1 hs'.2.1 (fun x hx => same hx hs'.2.2)
        | mem => rw [hk] at hs'; exact goM hk hs'.1 hs'.2.1 (fun x hx => same hx hs'.2.2)
        | eff => rw [hk] at hs'; exact goE hk hs'.1 hs'.2
        | call f p =>
          rw [hk] at hs'
          obtain ⟨h1, v, h', h2, _, h3⟩ := hs'
          exact goC f p v h' hk h1 h2 (fun x w' σ' g1 g2 g3 => hn _ _ _ _ _ (H.put g1 g3 g2 o.dst) g3 h3)
        | callv => rw [hk] at hs'; exact goV hk hs'.1 hs'.2
        | pick =>
          rw [hk] at hs'
          match vs, hs' with
          | [c, x, y], hs' => exact goK c x y hk rfl hs'.1 (fun z hz => same hz hs'.2)
      · rename_i j want hg
        split at hc
        · rename_i d hd
          cases hc
          obtain ⟨hgo, hs⟩ := hs
          have hgs := guard_spec H hd hgo want
          have hw : Region.wanted o (yielded ops a.tmps) = guardA (getA d t) want := by simp only [Region.wanted, hg]; exact hgs
          rw [hw]
          have hs' : stepB P b r r.kd (guardA (getA d t) want) vs o.dst nx t h := hvs ▸ hs
          generalize guardA (getA d t) want = g at hs' ⊢
          cases g with
          | true =>
            rw [if_pos rfl]
            refine ⟨fun f _ => hfn f, ?_⟩
            rw [semAt_any hnd]
            have gd : ∀ {w' : World} {σ' : List OB} {v : AV} {x : Value}, VR w' σ' v x → VR w' σ' (.gd true v) x := fun hx => .gd (fun _ => hx) (fun h => by cases h)
            cases hk : r.kd with
            | pure => rw [hk] at hs'; exact goP hk (hs'.1 rfl).1 (hs'.1 rfl).2 (fun x hx => same (gd hx) hs'.2)
            | mem => rw [hk] at hs'; exact goM hk (hs'.1 rfl).1 (hs'.1 rfl).2 (fun x hx => same (gd hx) hs'.2)
            | eff => rw [hk] at hs'; exact goE hk (hs'.1 rfl).1 (hs'.1 rfl).2
            | call f p =>
              rw [hk] at hs'
              obtain ⟨v, h', h1, _, h3⟩ := hs'
              exact goC f p v h' hk (h1 rfl).1 (h1 rfl).2.1 (fun x w' σ' g1 g2 g3 => hn _ _ _ _ _ (H.put g1 g3 (gd g2) o.dst) g3 h3)
            | callv => rw [hk] at hs'; exact goV hk (hs'.1 rfl).1 (hs'.1 rfl).2
            | pick =>
              rw [hk] at hs'
              match vs, hs' with
              | [c, x, y], hs' => exact goK c x y hk rfl (hs'.1 rfl) (fun z hz => same (gd hz) hs'.2)
          | false =>
            rw [if_neg (by simp)]
            refine ⟨fun f _ => hfn f, ?_⟩
            have und : ∀ (v : AV), VR w σ (.gd false v) Go.undef := fun v => .gd (fun h => by cases h) (fun _ => rfl)
            cases hk : r.kd with
            | pure => rw [hk] at hs'; exact same (und _) hs'.2
            | mem => rw [hk] at hs'; exact same (und _) hs'.2
            | eff => rw [hk] at hs'; exact same vr_undef (hs'.2 rfl)
            | call f p => rw [hk] at hs'; obtain ⟨v, h', _, h2, h3⟩ := hs'; rw [h2 rfl] at h3; exact same (und _) h3
            | callv => rw [hk] at hs'; exact same vr_undef (hs'.2 rfl)
            | pick =>
              rw [hk] at hs'
              match vs, hs' with
              | [c, x, y], hs' => exact same (und _) hs'.2
        · cases hc
    · cases hc
  · cases hc

theorem effE_mono {b : Nat} {h : List AObj} {r : R} {vs : List AV} {t : List AV} {d : Option Nat} {nx nx' : Nx} (hm : ∀ t h, nx t h → nx' t h) (hs : effE b h r vs t d nx) : effE b h r vs t d nx' := by
  unfold effE at hs ⊢
  split at hs <;> first | exact ⟨hs.1, hm _ _ hs.2⟩ | exact hs.elim

theorem AYield.mono {k : Nat} {args : List AV} {h : List AObj} {Q Q' : AV → List AObj → Prop} (hq : ∀ v h, Q v h → Q' v h) (hs : AYield P k args h Q) : AYield P k args h Q' := by
  intro w σ xs b g1 g2 g3
  obtain ⟨fn, tmps, asg, body, r1, r2⟩ := hs w σ xs b g1 g2 g3
  exact ⟨fn, tmps, asg, body, r1, r2.mono fun e w' ⟨r, σ', h', e1, e2, e3, e4⟩ => ⟨r, σ', h', e1, e2, e3, hq _ _ e4⟩⟩

theorem callV_mono {vs : List AV} {d : Option Nat} {t : List AV} {h : List AObj} {nx nx' : Nx} (hm : ∀ t h, nx t h → nx' t h) (hs : callV P vs d nx t h) : callV P vs d nx' t h := by
  unfold callV at hs ⊢
  split at hs
  · obtain ⟨v, h', h1, h2⟩ := hs; exact ⟨v, h', h1, hm _ _ h2⟩
  · exact ⟨hs.1, hs.2.mono fun v h' hh => hm _ _ hh⟩
  · exact hs.elim

theorem stepO_mono {b : Nat} {o : RO} {nx nx' : Nx} (hm : ∀ t h, nx t h → nx' t h) {t : List AV} {h : List AObj} (hs : stepO P b o nx t h) : stepO P b o nx' t h := by
  unfold stepO at hs ⊢
  split at hs
  · unfold stepA at hs ⊢
    cases hk : o.op.kd with
    | pure => rw [hk] at hs; exact ⟨hs.1, hs.2.1, hm _ _ hs.2.2⟩
    | mem => rw [hk] at hs; exact ⟨hs.1, hs.2.1, hm _ _ hs.2.2⟩
    | eff => rw [hk] at hs; exact ⟨hs.1, effE_mono hm hs.2⟩
    | call f p => rw [hk] at hs; obtain ⟨h1, v, h', h2, h3, h4⟩ := hs; exact ⟨h1, v, h', h2, h3, hm _ _ h4⟩
    | callv => rw [hk] at hs; exact ⟨hs.1, callV_mono hm hs.2⟩
    | pick =>
      rw [hk] at hs
      dsimp only at hs ⊢
      split at hs
      · exact ⟨hs.1, hm _ _ hs.2⟩
      · exact hs.elim
  · refine ⟨hs.1, ?_⟩
    replace hs := hs.2
    unfold stepB at hs ⊢
    cases hk : o.op.kd with
    | pure => rw [hk] at hs; exact ⟨hs.1, hm _ _ hs.2⟩
    | mem => rw [hk] at hs; exact ⟨hs.1, hm _ _ hs.2⟩
    | eff => rw [hk] at hs; exact ⟨fun hg => ⟨(hs.1 hg).1, effE_mono hm (hs.1 hg).2⟩, fun hg => hm _ _ (hs.2 hg)⟩
    | call f p => rw [hk] at hs; obtain ⟨v, h', h1, h2, h3⟩ := hs; exact ⟨v, h', h1, h2, hm _ _ h3⟩
    | callv => rw [hk] at hs; exact ⟨fun hg => ⟨(hs.1 hg).1, callV_mono hm (hs.1 hg).2⟩, fun hg => hm _ _ (hs.2 hg)⟩
    | pick =>
      rw [hk] at hs
      dsimp only at hs ⊢
      split at hs
      · exact ⟨hs.1, hm _ _ hs.2⟩
      · exact hs.elim

/-- The operations, one after the other, by their numbers. -/
def opsN (P : Program) (b : Nat) (all : List RO) : List Nat → Nx → Nx
  | [], K, t, h => K t h
  | i :: r, K, t, h => match all[i]? with
    | some o => stepO P b o (opsN P b all r K) t h
    | none => opsN P b all r K t h

theorem list_sound {ρ' : Option Nat} {ops : Array Oper} {all : List RO} (hlen : all.length = ops.size) (hall : ∀ (i : Nat) o ro, ops[i]? = some o → all[i]? = some ro → cvRO P js imp ops o = some ro) {b : Nat} {K : Nx} {Q : Exit → Act → World → Prop} :
    ∀ (L : List Nat) {w : World} {σ : List OB} {t : List AV} {h : List AObj} {a : Act}, opsN P b all L K t h → SR D w σ t h a → (∀ a' w' σ' t' h', SR D w' σ' t' h' a' → Ext w σ w' σ' → K t' h' → Q .normal a' w') → wpOpsIn (FW ρ') 0 P ops Q L a w := by
  intro L
  induction L with
  | nil => intro w σ t h a hs H hn; exact hn _ _ _ _ _ H (Ext.refl w σ) hs
  | cons i r ih =>
    intro w σ t h a hs H hn
    simp only [wpOpsIn]
    simp only [opsN] at hs
    cases ho : ops[i]? with
    | none =>
      have : all[i]? = none := by
        rw [List.getElem?_eq_none_iff, hlen]
        exact Array.getElem?_eq_none_iff.1 ho
      rw [this] at hs
      exact ih hs H hn
    | some o =>
      have hlt : i < all.length := by rw [hlen]; exact (Array.getElem?_eq_some_iff.1 ho).1
      have hro : all[i]? = some all[i] := List.getElem?_eq_getElem hlt
      rw [hro] at hs
      exact step_sound (hall i o _ ho hro) hs H (fun a' w' σ' t' h' g1 g2 g3 => ih g3 g1 (fun a'' w'' σ'' t'' h'' k1 k2 k3 => hn a'' w'' σ'' t'' h'' k1 (g2.trans k2) k3))

theorem opsN_range (b : Nat) (K : Nx) : ∀ (pre rest : List RO) (t : List AV) (h : List AObj), opsA P b rest K t h → opsN P b (pre ++ rest) ((List.range rest.length).map (· + pre.length)) K t h := by
  intro pre rest
  induction rest generalizing pre with
  | nil => intro t h hs; exact hs
  | cons o r ih =>
    intro t h hs
    have hrange : (List.range (o :: r).length).map (· + pre.length) = pre.length :: (List.range r.length).map (· + (pre ++ [o]).length) := by
      rw [List.length_cons, List.range_succ_eq_map]
      simp only [List.map_cons, List.map_map, Nat.zero_add, List.cons.injEq, true_and]
      apply List.map_congr_left
      intro x _
      simp
      omega
    rw [hrange]
    simp only [opsN]
    have hget : (pre ++ o :: r)[pre.length]? = some o := by simp
    rw [hget]
    have heq : pre ++ o :: r = (pre ++ [o]) ++ r := by simp
    rw [heq]
    exact stepO_mono (fun t h hh => ih (pre ++ [o]) t h hh) hs
end
end AF

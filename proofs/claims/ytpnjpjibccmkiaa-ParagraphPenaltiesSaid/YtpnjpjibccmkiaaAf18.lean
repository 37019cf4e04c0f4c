/-
  AF18: a function: its results, its end, its contract.
-/
import Derived.Test.YtpnjpjibccmkiaaAf17
import Derived.Laws.Sem
set_option linter.all false
set_option linter.unusedSimpArgs false
set_option linter.unusedVariables false
set_option linter.unusedSectionVars false
namespace AF
open Go

inductive RV where
  | tmp (n : Nat)
  | cell (n : Nat) (m : Option Nat)
  deriving Inhabited

def RV.val (t : List AV) (h : List AObj) : RV → AV
  | .tmp n => getA n t
  | .cell n m => valL h (.load m) [getA n t]
def RV.ok (t : List AV) (h : List AObj) : RV → Prop
  | .tmp _ => True
  | .cell n m => match getA n t with
    | .op k ver off => okL h (.load m) [.op k ver off]
    | _ => False
def rvsOk (t : List AV) (h : List AObj) : List RV → Prop
  | [] => True
  | r :: l => r.ok t h ∧ rvsOk t h l
def rvsVal (t : List AV) (h : List AObj) : List RV → List AV
  | [] => []
  | r :: l => r.val t h :: rvsVal t h l
def retA (vs : List AV) : AV :=
  match vs with
  | [v] => v
  | vs => .tup vs

def cvRV (P : Program) : ResultVar → Option RV
  | .tmp t => some (.tmp t)
  | .cell a ty => (aggOf P ty).map fun n => .cell a n
def cvRVs (P : Program) : List ResultVar → Option (List RV)
  | [] => some []
  | r :: l => match cvRV P r, cvRVs P l with
    | some a, some b => some (a :: b)
    | _, _ => none

section
variable {P : Program} {w : World} {σ : List OB}

theorem getA_vr {t : List AV} {a : Array Value} (hs : a.size = t.length) (H : ∀ (i : Nat) c x, t[i]? = some c → a[i]? = some x → VR w σ c x) (n : Nat) : VR w σ (getA n t) (a.getD n Go.undef) := by
  rw [getA_get]
  cases hc : t[n]? with
  | none => exact .imm .undef
  | some c =>
    have hlt : n < a.size := by rw [hs]; exact (List.getElem?_eq_some_iff.1 hc).1
    have := H n c a[n] hc (by simp [hlt])
    simpa [hlt] using this

theorem load_cell {t : TypeId} {n : Option Nat} {h : List AObj} (hf : aggOf P t = some n) (H : HR w σ h) {k ver p : Nat} {x : Value} (hv : VR w σ (.op k ver p) x) (hok : okL h (.load n) [.op k ver p]) :
    ∃ y, (do loadVar t (← asAddr x)).run P w = .ok y w ∧ VR w σ (valL h (.load n) [.op k ver p]) y := by
  obtain ⟨hs, hok⟩ := hok
  obtain ⟨cs, ob, b, arr, g1, ex, g2, g3, g4, g5, g6, g7, g9, g8⟩ := op_live H hv hs
  rw [g1, Option.getD_some] at hok
  have hval : valL h (.load n) [.op k ver p] = cut cs p n := by simp [valL, g1]
  rw [hval]
  obtain ⟨y, hy1, hy2⟩ := run_var (P := P) (w := w) (σ := σ) hf (cs := cs) (b := b) (off := 0) (p := p) (f := fun j => arr.getD j Go.undef) (fun j hj _ => by
      have hj' : j < arr.size := by omega
      rw [Nat.zero_add, cell_of g5]
      simp [hj']) (fun j hj => by
      have hj' : j < arr.size := by omega
      exact g9 j _ hj (by simp [hj'])) (fun j c hj => by
      have hj' : j < arr.size := by have := (List.getElem?_eq_some_iff.1 hj).1; omega
      exact g8 j c _ hj (by simp [hj'])) hok
  rw [Nat.zero_add] at hy1
  exact ⟨y, by simp [ex, asAddr, Sem.run_bind, Result.andThen, hy1], hy2⟩

def resFn (tm : Array Value) : ResultVar → Sem Value
  | .tmp t => pure (tm.getD t Go.undef)
  | .cell a t => do loadVar t (← asAddr (tm.getD a Go.undef))

theorem results_eq (fn : Func) (tm : Array Value) : results fn tm = (do
    let vs ← fn.results.mapM (resFn tm)
    pure (if h : vs.size = 1 then vs[0] else .tuple vs)) := by
  unfold results
  congr 2

theorem results_list {t : List AV} {h : List AObj} {tm : Array Value} (H : HR w σ h) (hs : tm.size = t.length) (ht : ∀ (i : Nat) c x, t[i]? = some c → tm[i]? = some x → VR w σ c x) :
    ∀ {l : List ResultVar} {rs : List RV}, cvRVs P l = some rs → rvsOk t h rs → ∃ vs, (l.mapM (resFn tm)).run P w = .ok vs w ∧ VRs w σ (rvsVal t h rs) vs := by
  intro l
  induction l with
  | nil => intro rs hc hok; cases hc; exact ⟨[], rfl, rfl, fun i c x hc => by simp [rvsVal] at hc⟩
  | cons r l ih =>
    intro rs hc hok
    simp only [cvRVs] at hc
    split at hc
    · rename_i a b h1 h2
      cases hc
      obtain ⟨vs, g1, g2⟩ := ih h2 hok.2
      have hx : ∃ y, (resFn tm r).run P w = .ok y w ∧ VR w σ (a.val t h) y := by
        cases r with
        | tmp n =>
          cases h1
          exact ⟨_, rfl, getA_vr hs ht n⟩
        | cell n ty =>
          simp only [cvRV, Option.map_eq_some_iff] at h1
          obtain ⟨m, h1, rfl⟩ := h1
          have hok1 := hok.1
          simp only [RV.ok] at hok1
          split at hok1
          · rename_i k ver p he
            have hv := getA_vr (w := w) (σ := σ) hs ht n
            rw [he] at hv
            obtain ⟨y, y1, y2⟩ := load_cell h1 H hv hok1
            exact ⟨y, y1, by simpa [RV.val, he] using y2⟩
          · exact hok1.elim
      obtain ⟨y, y1, y2⟩ := hx
      refine ⟨y :: vs, ?_, by simp [rvsVal, g2.1], fun i c x hc hx => ?_⟩
      · rw [List.mapM_cons, Sem.run_bind, y1]
        simp [Result.andThen, Sem.run_bind, g1]
      · cases i with
        | zero => simp [rvsVal] at hc hx; subst hc hx; exact y2
        | succ i => exact g2.2 i c x (by simpa [rvsVal] using hc) (by simpa using hx)
    · cases hc

theorem results_vr {fn : Func} {t : List AV} {h : List AObj} {tm : Array Value} (H : HR w σ h) (hs : tm.size = t.length) (ht : ∀ (i : Nat) c x, t[i]? = some c → tm[i]? = some x → VR w σ c x)
    {rs : List RV} (hc : cvRVs P fn.results.toList = some rs) (hok : rvsOk t h rs) : ∃ v, (results fn tm).run P w = .ok v w ∧ VR w σ (retA (rvsVal t h rs)) v := by
  obtain ⟨vs, g1, g2, g3⟩ := results_list (P := P) H hs ht hc hok
  have e : (results fn tm).run P w = .ok (if h : vs.toArray.size = 1 then vs.toArray[0] else .tuple vs.toArray) w := by
    rw [results_eq, Array.mapM_eq_mapM_toList, Sem.run_bind]
    simp [Sem.run_bind, g1, Result.andThen]
  refine ⟨_, e, ?_⟩
  generalize rvsVal t h rs = us at g2 g3
  match us, vs, g2, g3 with
  | [u], [v], _, g3 => exact g3 0 u v rfl rfl
  | [], [], _, g3 => exact .imm (.tup rfl (fun i c x hc => by simp at hc))
  | u :: u' :: us, v :: v' :: vs, g2, g3 =>
    have : (v :: v' :: vs).toArray.size ≠ 1 := by simp
    rw [dif_neg this]
    exact .tup (by simpa using g2) (fun i c x hc hx => g3 i c x hc (by simpa using hx))

/-- Marks taken: blocks for deferred calls are shut. -/
structure Dt (N : Nat) (w w' : World) : Prop where
  os : w'.os = w.os
  tape : w'.tape = w.tape
  output : w'.output = w.output
  size : w'.heap.size = w.heap.size
  keep : ∀ b : Nat, w'.heap[b]? = w.heap[b]? ∨ (N ≤ b ∧ ∃ d, w.heap[b]? = some (.deferred d))

theorem VR.dt {N : Nat} {w' : World} (e : Dt N w w') {c : AV} {x : Value} (h : VR w σ c x) : VR w' σ c x := by
  induction h with
  | imm h => exact .imm (h.mono' (fun b _ _ => (e.keep b).imp id And.right) (Nat.le_of_eq e.size.symm) (fun b hb => .inl hb))
  | osl o ho hs hv hh => exact .osl o ho hs hv hh
  | op o ho hs hv hh => exact .op o ho hs hv hh
  | yld o ho hs hh => exact .yld o ho hs hh
  | agg hl h1 h ih => exact .agg hl h1 ih
  | tup hl h ih => exact .tup hl ih
  | fn hl hl' h h' ih ih' => exact .fn hl hl' ih ih'
  | gd h h' ih => exact .gd ih h'

theorem HR.dt {N : Nat} {w' : World} (e : Dt N w w') {h : List AObj} (H : HR w σ h) : HR w' σ h := by
  refine ⟨H.len, H.inj, fun k o b hk hb => by rw [e.size]; exact H.lt k o b hk hb, fun k a o ha hk => ?_⟩
  have := H.obj k a o ha hk
  cases a with
  | emp ver => exact this
  | mem ver ty cs =>
    obtain ⟨h0, h1, b, arr, h2, h3, h4, h5, h6, h7⟩ := this
    refine ⟨h0, h1, b, arr, h2, ?_, h4, h5, h6, fun i c x hc hx => (h7 i c x hc hx).dt e⟩
    rcases e.keep b with h | ⟨_, d, h⟩
    · exact h.trans h3
    · rw [h3] at h; cases h
  | lp s ts L =>
    obtain ⟨h1, b, r, h2, h3, g1, g2, g3, g4, g5, g6⟩ := this
    refine ⟨h1, b, r, h2, ?_, g1, g2, g3, g4, g5, fun i c x hc hx => (g6 i c x hc hx).dt e⟩
    rcases e.keep b with h | ⟨_, d, h⟩
    · exact h.trans h3
    · rw [h3] at h; cases h

theorem Ext.dt {w0 w' : World} {σ0 : List OB} (h : Ext w0 σ0 w σ) (e : Dt w0.heap.size w w') : Ext w0 σ0 w' σ := by
  refine ⟨e.os.trans h.os, e.tape.trans h.tape, e.output.trans h.output, by rw [e.size]; exact h.size, fun b hb hn => ?_, h.own, h.obj, fun b r hr => ?_⟩
  · rcases e.keep b with h1 | ⟨h1, _⟩
    · exact h1.trans (h.keep b hb hn)
    · omega
  · obtain ⟨r', h1⟩ := h.loops b r hr
    rcases e.keep b with h2 | ⟨_, d, h2⟩
    · exact ⟨r', h2.trans h1⟩
    · rw [h1] at h2; cases h2

theorem leaves_marks {fn : Func} {tm : Array Value} {N : Nat} {R : Ending → World → Prop} : ∀ (rs : List Nat) (w : World), rs.Nodup → (∀ r ∈ rs, N ≤ r ∧ w.heap[r]? = some (.deferred (some []))) →
    (∀ w', Dt N w w' → ∃ v, (results fn tm).run P w' = .ok v w' ∧ R (.returned v) w') → LeavesInM Fence.wide 0 P fn tm R (rs.map markOf) .returning w := by
  intro rs
  induction rs with
  | nil =>
    intro w _ _ h
    exact h w ⟨rfl, rfl, rfl, rfl, fun b => .inl rfl⟩
  | cons r rs ih =>
    intro w hn hd h
    refine ⟨by simp, .inl ⟨r, { w with heap := w.heap.setIfInBounds r (.deferred none) }, rfl, ?_, ?_⟩⟩
    · have := (hd r (by simp)).2
      simp [Instr.takeDeferred, getObj, setObj, Sem.run_bind, Sem.run, Result.andThen, this]
    · obtain ⟨hnr, hn⟩ := List.nodup_cons.1 hn
      have hk : ∀ b : Nat, ({ w with heap := w.heap.setIfInBounds r (.deferred none) } : World).heap[b]? = w.heap[b]? ∨ (N ≤ b ∧ ∃ d, w.heap[b]? = some (.deferred d)) := by
        intro b
        by_cases e : b = r
        · subst e
          exact .inr ⟨(hd b (by simp)).1, _, (hd b (by simp)).2⟩
        · left
          simp only [Array.getElem?_setIfInBounds]
          rw [if_neg (fun h => e h.symm)]
      refine ih _ hn (fun r' hr' => ⟨(hd r' (by simp [hr'])).1, ?_⟩) (fun w' hw' => h w' ?_)
      · simp only [Array.getElem?_setIfInBounds]
        rw [if_neg (fun e => hnr (by rw [e]; exact hr'))]
        exact (hd r' (by simp [hr'])).2
      · refine ⟨hw'.os, hw'.tape, hw'.output, by rw [hw'.size]; simp, fun b => ?_⟩
        rcases hw'.keep b with h1 | ⟨h1, d, h2⟩
        · rw [h1]; exact hk b
        · rcases hk b with h3 | h3
          · rw [h3] at h2; exact .inr ⟨h1, d, h2⟩
          · exact .inr h3
end

/-- A value as it comes out of a function: no handle to an object from n on is left. -/
def VOut (n : Nat) (h : List AObj) (v r : AV) : Prop := ∀ (w : World) (σ : List OB) (x : Value), HR w σ h → VR w σ v x → VR w (σ.take n) r x

def RetP (rs : List RV) (h0 : List AObj) (r : AV) (h' : List AObj) (t : List AV) (hh : List AObj) : Prop :=
  rvsOk t hh rs ∧ (∃ tl, hh = h' ++ tl) ∧ h'.length = h0.length ∧ (∀ o ∈ h', o ∈ h0 ∨ lowO h0.length o) ∧ VOut h0.length hh (retA (rvsVal t hh rs)) r

def fnQ (rs : List RV) (h0 : List AObj) (K : AV → List AObj → Prop) : Ex → Nx
  | .exit _, _, _ => False
  | _, t, hh => ∃ r h', K r h' ∧ RetP rs h0 r h' t hh

/-- What there is to know of a function's code. -/
def FnIs (P : Program) (f nt ns : Nat) (rs : List RV) (c : C) : Prop :=
  ∃ (fn : Func) (body : Code) (js : List Tmp) (imp : List FuncId) (wks : List Nat), P.funcs[f]? = some fn ∧ fn.body = some body ∧ (fn.name != "runtime.NumGoroutine") = true ∧ fn.ntmps = nt ∧ js.length = ns ∧
    cvRVs P fn.results.toList = some rs ∧ cv P js imp wks body = some c

theorem HR.pushN {w : World} : ∀ (n : Nat) {σ : List OB} {h : List AObj}, HR w σ h → HR w (σ ++ List.replicate n ⟨none, 0, 0, 0⟩) (h ++ List.replicate n (.emp 0)) ∧ Ext w σ w (σ ++ List.replicate n ⟨none, 0, 0, 0⟩) := by
  intro n
  induction n with
  | zero => intro σ h H; simpa using ⟨H, Ext.refl w σ⟩
  | succ n ih =>
    intro σ h H
    obtain ⟨h1, h2⟩ := H.push (w' := w) ⟨rfl, rfl, rfl, Nat.le_refl _, fun _ _ _ => rfl⟩ (o' := ⟨none, 0, 0, 0⟩) (a' := .emp 0) (by simp) (fun _ => ⟨rfl, rfl⟩)
    obtain ⟨g1, g2⟩ := ih h1
    have e1 : σ ++ List.replicate (n + 1) (⟨none, 0, 0, 0⟩ : OB) = σ ++ [⟨none, 0, 0, 0⟩] ++ List.replicate n ⟨none, 0, 0, 0⟩ := by simp [List.replicate_succ]
    have e2 : h ++ List.replicate (n + 1) (.emp 0) = h ++ [AObj.emp 0] ++ List.replicate n (.emp 0) := by simp [List.replicate_succ]
    rw [e1, e2]
    exact ⟨g1, h2.trans g2⟩

theorem acallsQ_of {P : Program} {f nt ns : Nat} {rs : List RV} {c : C} (hf : FnIs P f nt ns rs c) {args : List AV} {h : List AObj} {K : AV → List AObj → Prop} (ha : args.length ≤ nt)
    (hw : codeA P h.length c (fnQ rs h K) (args ++ List.replicate (nt - args.length) .undef) (h ++ List.replicate ns (.emp 0))) : ACallsQ P f args h K := by
  obtain ⟨fn, body, js, imp, wks, h1, h2, h3, rfl, rfl, h6, h7⟩ := hf
  refine ⟨by simp [okF, h1, h2, h3], fun w σ xs H hv => ?_⟩
  refine callsIn_of_wp_marks h1 h2 trivial ?_
  obtain ⟨p1, p2⟩ := H.pushN js.length
  have hsr : SR w.heap.size w (σ ++ List.replicate js.length ⟨none, 0, 0, 0⟩) (args ++ List.replicate (fn.ntmps - args.length) .undef) (h ++ List.replicate js.length (.emp 0))
      { tmps := xs.toArray ++ Array.replicate (fn.ntmps - xs.toArray.size) Go.undef, defers := [] } := by
    refine ⟨p1, by simp [hv.1], fun i c x hc hx => ?_, ⟨[], rfl, .nil, Nat.le_refl _, by simp⟩⟩
    rw [List.getElem?_append] at hc
    simp only [Array.getElem?_append] at hx
    have hz : xs.toArray.size = args.length := by simp [hv.1]
    split at hc
    · rename_i hi
      rw [if_pos (by omega)] at hx
      exact (hv.2 i c x hc (by simpa using hx)).ext p2
    · rw [List.getElem?_replicate] at hc
      split at hc
      · cases hc; exact .imm .undef
      · cases hc
  refine wpIn_mono (cv_sound (b := h.length) h7 w.heap.size none _ w _ _ _ _ hw (by simp) hsr) ?_
  rintro e a' w' ⟨z, σ', t', hh, he, g1, g2, g3⟩
  have key : (∃ r h', K r h' ∧ RetP rs h r h' t' hh) → LeavesInM Fence.wide 0 P fn a'.tmps (fun e w' => ∃ v σ' r h', K r h' ∧ e = .returned v ∧ HR w' σ' h' ∧ VR w' σ' r v ∧ Ext w σ w' σ') a'.defers .returning w' := by
    rintro ⟨r, h', hK, k1, ⟨tl, rfl⟩, k3, k4, k5⟩
    obtain ⟨ms, d1, d2, d3, d4⟩ := g1.df
    rw [d1]
    refine leaves_marks (N := w.heap.size) ms w' d2 (fun r hr => ⟨(d4 r hr).1, (d4 r hr).2.2.2⟩) (fun w1 e1 => ?_)
    have H1 := g1.hr.dt e1
    obtain ⟨v, v1, v2⟩ := results_vr (P := P) H1 g1.sz (fun i c x hc hx => (g1.tm i c x hc hx).dt e1) h6 k1
    have ee : Ext w σ w1 σ' := (p2.trans g2).dt e1
    obtain ⟨m1, m2⟩ := HR.trunc H ee H1 k3 k4
    exact ⟨v, v1, v, _, r, h', hK, rfl, m1, k5 w1 σ' v H1 v2, m2⟩
  cases e with
  | normal => cases he; exact key g3
  | ret => cases he; exact key g3
  | exit id => cases he; exact g3.elim
  | goto l => cases he
  | panic c => cases he
  | outgrown => cases he

theorem ACallsQ.calls {P : Program} {f : FuncId} {args : List AV} {h : List AObj} {r : AV} {h' : List AObj} (hq : ACallsQ P f args h (fun r1 h1 => r1 = r ∧ h1 = h')) : ACalls P f args h r h' := by
  refine ⟨hq.1, fun w σ xs H hv => (hq.2 w σ xs H hv).mono ?_⟩
  rintro e w' ⟨v, σ', r1, h1, ⟨rfl, rfl⟩, g1, g2, g3, g4⟩
  exact ⟨v, σ', g1, g2, g3, g4⟩

theorem acalls_of {P : Program} {f nt ns : Nat} {rs : List RV} {c : C} (hf : FnIs P f nt ns rs c) {args : List AV} {h : List AObj} {r : AV} {h' : List AObj} (ha : args.length ≤ nt)
    (hw : codeA P h.length c (fnQ rs h fun r1 h1 => r1 = r ∧ h1 = h') (args ++ List.replicate (nt - args.length) .undef) (h ++ List.replicate ns (.emp 0))) : ACalls P f args h r h' :=
  (acallsQ_of hf ha hw).calls

end AF

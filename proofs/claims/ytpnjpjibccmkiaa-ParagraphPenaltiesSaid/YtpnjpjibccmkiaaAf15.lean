/-
  AF15: a range over a function.
-/
import Derived.Test.YtpnjpjibccmkiaaAf14
set_option linter.all false
set_option linter.unusedSimpArgs false
set_option linter.unusedVariables false
set_option linter.unusedSectionVars false
namespace AF
open Go

theorem run_getLoop {P : Program} {w : World} {l : Nat} {r : Loop} (h : w.heap[l]? = some (.loop r)) : (Instr.getLoop l).run P w = .ok r w := by
  simp [Instr.getLoop, getObj, Sem.run_bind, Sem.run, h, Result.andThen]

def loopSet (w : World) (l : Nat) (r : Loop) : World := { w with heap := w.heap.setIfInBounds l (.loop r) }

theorem run_setLoop {P : Program} {w : World} {l : Nat} {r : Loop} (r' : Loop) (h : w.heap[l]? = some (.loop r)) : (setObj l (.loop r')).run P w = .ok () (loopSet w l r') := by
  simp [setObj, Sem.run, h, loopSet]

theorem run_beginRound {P : Program} {w : World} {l : Nat} {r : Loop} (h : w.heap[l]? = some (.loop r)) (hr : r.state = .ready) : (Instr.beginRound l).run P w = .ok () (loopSet w l { r with state := .busy }) := by
  simp [Instr.beginRound, Sem.run_bind, run_getLoop h, run_setLoop _ h, Result.andThen, hr]

theorem run_endRound {P : Program} {w : World} {l : Nat} {r : Loop} (j : Option Code) (h : w.heap[l]? = some (.loop r)) :
    (Instr.endRound l j).run P w = .ok (.bool j.isNone) (loopSet w l { r with state := if j.isNone then .ready else .done, pending := j }) := by
  simp [Instr.endRound, Sem.run_bind, run_getLoop h, run_setLoop _ h, Result.andThen]

theorem run_endLoop {P : Program} {w : World} {l : Nat} {r : Loop} (h : w.heap[l]? = some (.loop r)) (hr : r.state ≠ .busy) :
    (Instr.endLoop l).run P w = .ok r.pending (loopSet w l { r with state := .exhausted }) := by
  have : (r.state == .busy) = false := by
    cases hs : r.state <;> first | rfl | exact absurd hs hr
  simp [Instr.endLoop, Sem.run_bind, run_getLoop h, run_setLoop _ h, Result.andThen, hr]

theorem loopSet_heap {w : World} {l : Nat} {r r' : Loop} (h : w.heap[l]? = some (.loop r)) : (loopSet w l r').heap[l]? = some (.loop r') := by
  have := (Array.getElem?_eq_some_iff.1 h).1
  simp [loopSet, this]

theorem loopSet_grown (w : World) (l : Nat) (r : Loop) : w.grownBy (loopSet w l r) (some l) :=
  ⟨rfl, rfl, rfl, by simp [loopSet], fun k _ hk => by
    simp only [loopSet, Array.getElem?_setIfInBounds]
    rw [if_neg (fun e => hk (by rw [e]))]⟩

theorem set_self {α : Type} {l : List α} {k : Nat} {x : α} (h : l[k]? = some x) : l.set k x = l := by
  apply List.ext_getElem?
  intro i
  rw [List.getElem?_set]
  split
  · rename_i e
    subst e
    rw [h]
    simp [(List.getElem?_eq_some_iff.1 h).1]
  · rfl

/-- The record of a loop changes its state. -/
theorem HR.lpset {w : World} {σ : List OB} {h : List AObj} (H : HR w σ h) {k : Nat} {o : OB} (hk : σ[k]? = some o) {s s' : LS} {ts : List AV} {L : LInfo} (ha : h[k]? = some (.lp s ts L)) {l : Nat} (hb : o.blk = some l) {r r' : Loop} (hl : w.heap[l]? = some (.loop r))
    (e1 : r'.params = r.params) (e2 : r'.assign = r.assign) (e3 : r'.body = r.body) (e4 : r'.tmps = r.tmps) (hs : lsOk s' r') :
    HR (loopSet w l r') σ (h.set k (.lp s' ts L)) ∧ Ext w σ (loopSet w l r') σ := by
  obtain ⟨g0, b, r0, g1, g2, g3, g4, g5, g6, g7, g8⟩ := H.obj k _ o ha hk
  rw [hb] at g1
  cases g1
  rw [hl] at g2
  cases g2
  have hlt := (Array.getElem?_eq_some_iff.1 hl).1
  have := H.update (w' := loopSet w l r') (o' := o) (a' := .lp s' ts L) hk (by rw [hb]; exact loopSet_grown w l r') (Nat.le_refl _) (fun _ => rfl)
    (by intro b hb'; rw [hb] at hb'; cases hb'; exact ⟨.inl hb, by simpa [loopSet] using hlt⟩)
    (by intro b r1 hb' _; rw [hb] at hb'; cases hb'; exact ⟨r', loopSet_heap hl⟩)
    (fun e => ⟨g0, l, r', hb, loopSet_heap hl, hs, by rw [e1, g4], by rw [e2, g5], by rw [e3, g6], by rw [e4, g7], fun i c x hc hx => (g8 i c x hc (by rw [← e4]; exact hx)).ext e⟩)
  rw [set_self hk] at this
  exact this

theorem sets_spec {w : World} {σ : List OB} : ∀ (ps : List Nat) (vs : List AV) (xs : List Value) (ts : List AV) (tm : Array Value), tm.size = ts.length →
    (∀ (i : Nat) c x, ts[i]? = some c → tm[i]? = some x → VR w σ c x) → VRs w σ vs xs → ps.length = vs.length →
    ((ps.zip xs).foldl (fun tm p => tm.setIfInBounds p.1 p.2) tm).size = (setsA ts ps vs).length ∧
    ∀ (i : Nat) c x, (setsA ts ps vs)[i]? = some c → ((ps.zip xs).foldl (fun tm p => tm.setIfInBounds p.1 p.2) tm)[i]? = some x → VR w σ c x := by
  intro ps
  induction ps with
  | nil => intro vs xs ts tm h1 h2 h3 h4; cases vs <;> exact ⟨h1, h2⟩
  | cons p ps ih =>
    intro vs xs ts tm h1 h2 h3 h4
    cases vs with
    | nil => simp at h4
    | cons v vs =>
      obtain ⟨x, rest, rfl, hx, hr⟩ := h3.cons
      simp only [List.zip_cons_cons, List.foldl_cons, setsA]
      refine ih vs rest (setA p ts v) (tm.setIfInBounds p x) (by simp [length_setA, h1]) (fun i c y hc hy => ?_) hr (by simpa using h4)
      rw [setA_get] at hc
      rw [Array.getElem?_setIfInBounds] at hy
      split at hc
      · rename_i hi
        obtain ⟨rfl, hlt⟩ := hi
        cases hc
        rw [if_pos rfl, if_pos (by omega)] at hy
        cases hy
        exact hx
      · rename_i hi
        split at hy
        · rename_i hd
          subst hd
          split at hy
          · exact absurd ⟨rfl, by omega⟩ hi
          · cases hy
        · exact h2 i c y hc hy

section
variable {P : Program} {b : Nat} {x y : C} {L : LInfo}

theorem yield_sound (hA : Sound P b x L.asg) (hB : Sound P b y L.body) {k : Nat} {ts args : List AV} {h1 : List AObj} {R : AV → List AObj → Prop} (hk : getO k h1 = some (.lp .ready ts L)) (hlen : args.length = L.ps.toList.length)
    (hw : codeA P b x (fun e t2 h2 => e = .normal ∧ (∃ ts', getO k h2 = some (.lp .ready ts' L)) ∧ ∀ ts', getO k h2 = some (.lp .ready ts' L) →
        codeA P b y (fun e t3 h3 => ∃ ts3, getO k h3 = some (.lp .busy ts3 L) ∧
          match e with
          | .normal => R (.bool true) (setO k h3 (.lp .ready ts3 L))
          | .ret => R (.bool false) (setO k h3 (.lp .ret ts3 L))
          | .exit id => R (.bool false) (setO k h3 (.lp (.exit id) ts3 L))) t2 (setO k h2 (.lp .busy ts' L))) (setsA ts L.ps.toList args) h1) : AYield P k args h1 R := by
  intro w σ xs l H hv ho
  obtain ⟨o, ho, hv0, hl⟩ := ho
  obtain ⟨g0, l', r, g1, g2, g3, g4, g5, g6, g7, g8⟩ := H.obj k _ o hk ho
  rw [hl] at g1
  cases g1
  have hxs : xs.length = args.length := hv.1
  refine ⟨r.fn, (r.params.zip xs.toArray).foldl (fun tmps p => tmps.setIfInBounds p.1 p.2) r.tmps, L.asg, L.body, ?_, roundIn_of_wpIn (F := Fence.wide) trivial ?_⟩
  · have : xs.toArray.size = r.params.size := by rw [g4]; simp [hxs, hlen]
    simp [Instr.yield, Sem.run_bind, run_getLoop g2, Result.andThen, this, g5, g6]
  · have hset := sets_spec L.ps.toList args xs ts r.tmps g7 g8 hv hlen.symm
    have hfold : (r.params.zip xs.toArray).foldl (fun tmps p => tmps.setIfInBounds p.1 p.2) r.tmps = (L.ps.toList.zip xs).foldl (fun tm p => tm.setIfInBounds p.1 p.2) r.tmps := by
      rw [← Array.foldl_toList, g4]
      simp
    rw [hfold]
    have hrnd : ∀ l', some l = some l' → ∃ r, w.heap[l']? = some (.loop r) := by rintro l' ⟨⟩; exact ⟨r, g2⟩
    refine wpIn_mono (hA 0 (some l) _ w σ _ h1 _ hw hrnd ⟨H, hset.1, hset.2, ⟨[], rfl, .nil, Nat.zero_le _, by simp⟩⟩) ?_
    rintro e a' w' ⟨z, σ', t2, h2, he, q1, q2, rfl, ⟨ts', hts'⟩, q4⟩
    cases e with
    | normal =>
      show ∃ w₂, (Instr.beginRound l).run P w' = .ok () w₂ ∧ _
      obtain ⟨o', p1, p2, p3⟩ := q2.obj k o ho
      obtain ⟨r0, l2, r2, r3, r4, r5, r6, r7, r8, r9, r10⟩ := q1.hr.obj k _ o' hts' p1
      have := p3 (by rw [r0, hv0])
      subst this
      rw [hl] at r3
      cases r3
      refine ⟨_, run_beginRound r4 r5.1, ?_⟩
      obtain ⟨u1, u2⟩ := q1.hr.lpset p1 hts' hl r4 (r' := { r2 with state := .busy }) rfl rfl rfl rfl (s' := .busy) rfl
      have hrnd' : ∀ l', some l = some l' → ∃ r, (loopSet w' l { r2 with state := .busy }).heap[l']? = some (.loop r) := by rintro l' ⟨⟩; exact ⟨_, loopSet_heap r4⟩
      refine wpIn_mono (hB 0 (some l) _ _ σ' t2 _ a' (q4 ts' hts') hrnd' ⟨u1, q1.sz, fun i c x hc hx => (q1.tm i c x hc hx).ext u2, df_ext u2 q1.df⟩) ?_
      rintro e a'' w'' ⟨z, σ'', t3, h3, he3, s1, s2, ts3, s3, s4⟩
      have hend : ∀ (j : Option Code) (s' : LS), (∀ rr : Loop, lsOk s' { rr with state := if j.isNone then .ready else .done, pending := j }) → R (.bool j.isNone) (setO k h3 (.lp s' ts3 L)) →
          ∃ v w3, (Instr.endRound l j).run P w'' = .ok v w3 ∧ ∃ r1 σ1 h', (Ending.returned v = .returned (.bool r1) ∧ HR w3 σ1 h' ∧ Ext w σ w3 σ1 ∧ R (.bool r1) h') := by
        intro j s' hs' hR
        obtain ⟨o'', v1, v2, v3⟩ := s2.obj k _ p1
        obtain ⟨m0, l2, m2, m3, m4, m5, m6, m7, m8, m9, m10⟩ := s1.hr.obj k _ o'' s3 v1
        have := v3 (by rw [m0, r0])
        subst this
        rw [hl] at m3
        cases m3
        obtain ⟨n1, n2⟩ := s1.hr.lpset v1 s3 hl m4 (r' := { m2 with state := if j.isNone then .ready else .done, pending := j }) rfl rfl rfl rfl (s' := s') (hs' m2)
        exact ⟨_, _, run_endRound j m4, _, σ'', _, rfl, n1, (q2.trans u2).trans (s2.trans n2), hR⟩
      cases e with
      | normal => cases he3; exact hend none .ready (fun rr => ⟨rfl, rfl⟩) s4
      | ret => cases he3; exact hend (some .ret) .ret (fun rr => ⟨rfl, rfl⟩) s4
      | exit id => cases he3; exact hend (some (.exit id)) (.exit id) (fun rr => ⟨rfl, rfl⟩) s4
      | goto l => cases he3
      | panic c => cases he3
      | outgrown => cases he3
    | exit id => cases he
    | ret => cases he
    | goto l => cases he
    | panic c => cases he
    | outgrown => cases he
end
end AF

/-
  AF1: the relation between abstract objects and memory; making, changing, dropping objects.
-/
import Derived.Test.YtpnjpjibccmkiaaAf0
set_option linter.all false
set_option linter.unusedSimpArgs false
set_option linter.unusedVariables false
set_option linter.unusedSectionVars false
namespace AF
open Go

theorem own_lt {w : World} {σ : List OB} (h : ∀ (k : Nat) (o : OB) (b : Nat), σ[k]? = some o → o.blk = some b → b < w.heap.size) {b : Nat} (hb : own σ b) : b < w.heap.size := by
  obtain ⟨k, o, h1, h2⟩ := hb
  exact h k o b h1 h2

/-- What is known of an object's block. -/
def OR (w : World) (σ : List OB) (a : AObj) (o : OB) : Prop :=
  match a with
  | .mem ver ty cs => o.ver = ver ∧ o.ty = ty ∧ ∃ b arr, o.blk = some b ∧ w.heap[b]? = some (.cells arr o.ty (0, 0)) ∧ arr.size = o.size ∧ cs.length ≤ arr.size ∧ (∀ (i : Nat) x, i < cs.length → arr[i]? = some x → x.oneCell' = true) ∧
      ∀ (i : Nat) c x, cs[i]? = some c → arr[i]? = some x → VR w σ c x
  | .emp ver => o.ver = ver ∧ o.blk = none
  | .lp s ts L => o.ver = 0 ∧ ∃ b r, o.blk = some b ∧ w.heap[b]? = some (.loop r) ∧ lsOk s r ∧ r.params = L.ps ∧ r.assign = L.asg ∧ r.body = L.body ∧
      r.tmps.size = ts.length ∧ ∀ (i : Nat) c x, ts[i]? = some c → r.tmps[i]? = some x → VR w σ c x

structure HR (w : World) (σ : List OB) (h : List AObj) : Prop where
  len : σ.length = h.length
  inj : ∀ (i j : Nat) oi oj b, σ[i]? = some oi → σ[j]? = some oj → oi.blk = some b → oj.blk = some b → i = j
  lt : ∀ (k : Nat) (o : OB) (b : Nat), σ[k]? = some o → o.blk = some b → b < w.heap.size
  obj : ∀ (k : Nat) a o, h[k]? = some a → σ[k]? = some o → OR w σ a o

theorem OR.ext {w w' : World} {σ σ' : List OB} {a : AObj} {o : OB} (h : Ext w σ w' σ') (hk : ∀ b, o.blk = some b → w'.heap[b]? = w.heap[b]?) (ho : OR w σ a o) : OR w' σ' a o := by
  cases a with
  | mem ver ty cs =>
    obtain ⟨h1, ht, b, arr, h2, h3, h4, h5, h7, h6⟩ := ho
    exact ⟨h1, ht, b, arr, h2, (hk b h2).trans h3, h4, h5, h7, fun i c x hc hx => (h6 i c x hc hx).ext h⟩
  | emp ver => exact ho
  | lp s ts L =>
    obtain ⟨h1, b, r, h2, h3, g1, g2, g3, g4, g5, g6⟩ := ho
    exact ⟨h1, b, r, h2, (hk b h2).trans h3, g1, g2, g3, g4, g5, fun i c x hc hx => (g6 i c x hc hx).ext h⟩

/-- One object changes (its block, or a new one in its place), all else lies as it lay. -/
theorem HR.update {w w' : World} {σ : List OB} {h : List AObj} (H : HR w σ h) {k : Nat} {o o' : OB} {a' : AObj} (hk : σ[k]? = some o)
    (hg : w.grownBy w' o.blk) (hv : o.ver ≤ o'.ver) (hs : o'.ver = o.ver → o' = o)
    (hb : ∀ b, o'.blk = some b → (o.blk = some b ∨ w.heap.size ≤ b) ∧ b < w'.heap.size)
    (hlp : ∀ (b : Nat) r, o.blk = some b → w.heap[b]? = some (.loop r) → ∃ r', w'.heap[b]? = some (.loop r'))
    (ho : Ext w σ w' (σ.set k o') → OR w' (σ.set k o') a' o') : HR w' (σ.set k o') (h.set k a') ∧ Ext w σ w' (σ.set k o') := by
  have hkl : k < σ.length := (List.getElem?_eq_some_iff.1 hk).1
  have hget : ∀ (j : Nat) (x : OB), (σ.set k o')[j]? = some x → (j = k ∧ x = o') ∨ (j ≠ k ∧ σ[j]? = some x) := by
    intro j x hj
    rw [List.getElem?_set] at hj
    split at hj
    · rename_i e
      subst e
      simp [hkl] at hj
      exact .inl ⟨rfl, hj.symm⟩
    · rename_i e
      exact .inr ⟨fun e' => e e'.symm, hj⟩
  have hown : ∀ b, own (σ.set k o') b → own σ b ∨ w.heap.size ≤ b := by
    rintro b ⟨j, x, hj, hx⟩
    rcases hget j x hj with ⟨rfl, rfl⟩ | ⟨_, hj'⟩
    · rcases (hb b hx).1 with h1 | h1
      · exact .inl ⟨_, o, hk, h1⟩
      · exact .inr h1
    · exact .inl ⟨j, x, hj', hx⟩
  have hext : Ext w σ w' (σ.set k o') := by
    refine ⟨hg.os, hg.tape, hg.output, hg.size, fun b hb' ho' => hg.block b hb' (fun e => ho' ⟨k, o, hk, e.symm⟩), hown, fun j x hj => ?_, fun b r hr => ?_⟩
    rotate_left
    · by_cases e : o.blk = some b
      · exact hlp b r e hr
      · exact ⟨r, (hg.block b (Array.getElem?_eq_some_iff.1 hr).1 (fun h => e h.symm)).trans hr⟩
    by_cases e : j = k
    · subst e
      rw [hk] at hj
      cases hj
      exact ⟨o', by simp [hkl], hv, hs⟩
    · exact ⟨x, by rw [List.getElem?_set_ne (fun e' => e e'.symm)]; exact hj, Nat.le_refl _, fun _ => rfl⟩
  refine ⟨⟨by simp [H.len], ?_, ?_, ?_⟩, hext⟩
  · intro i j oi oj b hi hj bi bj
    rcases hget i oi hi with ⟨rfl, rfl⟩ | ⟨ni, hi'⟩ <;> rcases hget j oj hj with ⟨rfl, rfl⟩ | ⟨nj, hj'⟩
    · rfl
    · rcases (hb b bi).1 with h1 | h1
      · exact H.inj _ _ _ _ b hk hj' h1 bj
      · have := H.lt j oj b hj' bj; omega
    · rcases (hb b bj).1 with h1 | h1
      · exact H.inj _ _ _ _ b hi' hk bi h1
      · have := H.lt i oi b hi' bi; omega
    · exact H.inj i j oi oj b hi' hj' bi bj
  · intro j x b hj hx
    rcases hget j x hj with ⟨rfl, rfl⟩ | ⟨_, hj'⟩
    · exact (hb b hx).2
    · exact Nat.lt_of_lt_of_le (H.lt j x b hj' hx) hg.size
  · intro j a x ha hj
    rcases hget j x hj with ⟨rfl, rfl⟩ | ⟨nj, hj'⟩
    · have hkh : j < h.length := by rw [← H.len]; exact hkl
      simp [hkh] at ha
      subst ha
      exact ho hext
    · rw [List.getElem?_set_ne (fun e => nj e.symm)] at ha
      refine (H.obj j a x ha hj').ext hext (fun b hx => hg.block b (H.lt j x b hj' hx) (fun e => nj (H.inj j k x o b hj' hk hx e.symm)))

/-- A step that changes no object: new blocks alone. -/
theorem HR.grow {w w' : World} {σ : List OB} {h : List AObj} (H : HR w σ h) (hg : w.grownBy w' none) : HR w' σ h ∧ Ext w σ w' σ := by
  have hext : Ext w σ w' σ := ⟨hg.os, hg.tape, hg.output, hg.size, fun b hb _ => hg.block b hb (by simp), fun _ hb => .inl hb, fun _ o ho => ⟨o, ho, Nat.le_refl _, fun _ => rfl⟩, fun b r hr => ⟨r, (hg.block b (Array.getElem?_eq_some_iff.1 hr).1 (by simp)).trans hr⟩⟩
  refine ⟨⟨H.len, H.inj, fun k o b hk hb => Nat.lt_of_lt_of_le (H.lt k o b hk hb) hg.size, fun k a o ha ho => ?_⟩, hext⟩
  exact (H.obj k a o ha ho).ext hext (fun b hb => hg.block b (H.lt k o b ho hb) (by simp))

/-- Objects may be dropped: what was a handle to it is nothing now. -/
theorem HR.kill {w : World} {σ : List OB} {h : List AObj} (H : HR w σ h) {k : Nat} {o : OB} (hk : σ[k]? = some o) :
    HR w (σ.set k { o with blk := none, ver := o.ver + 1 }) (h.set k (.emp (o.ver + 1))) ∧ Ext w σ w (σ.set k { o with blk := none, ver := o.ver + 1 }) :=
  H.update (w' := w) hk ⟨rfl, rfl, rfl, Nat.le_refl _, fun _ _ _ => rfl⟩ (by simp) (by simp) (by simp) (fun _ r _ hr => ⟨r, hr⟩) (fun _ => ⟨rfl, rfl⟩)

theorem HR.noloop {w : World} {σ : List OB} {h : List AObj} (H : HR w σ h) {k : Nat} {o : OB} (hk : σ[k]? = some o) (ho : ∀ s ts L, h[k]? ≠ some (.lp s ts L)) (b : Nat) (r : Loop) (hb : o.blk = some b) : w.heap[b]? ≠ some (.loop r) := by
  have hkl : k < h.length := by rw [← H.len]; exact (List.getElem?_eq_some_iff.1 hk).1
  have ha : h[k]? = some h[k] := List.getElem?_eq_getElem hkl
  have := H.obj k _ o ha hk
  cases hx : h[k] with
  | mem ver ty cs =>
    rw [hx] at this
    obtain ⟨_, _, b', arr, h2, h3, _⟩ := this
    rw [hb] at h2
    cases h2
    rw [h3]
    simp
  | emp ver =>
    rw [hx] at this
    rw [this.2] at hb
    cases hb
  | lp s ts L =>
    rw [hx] at ha
    exact absurd ha (ho s ts L)

/-- Values and abstract values, place by place. -/
def VRs (w : World) (σ : List OB) (vs : List AV) (xs : List Value) : Prop :=
  xs.length = vs.length ∧ ∀ (i : Nat) c x, vs[i]? = some c → xs[i]? = some x → VR w σ c x

end AF

/-
  AF13: a region that draws its order: the order of the text serves.
-/
import Derived.Test.YtpnjpjibccmkiaaAf12
set_option linter.all false
set_option linter.unusedSimpArgs false
set_option linter.unusedVariables false
set_option linter.unusedSectionVars false
namespace AF
open Go

section
variable {P : Program}

theorem effE_rel {b : Nat} {h : List AObj} {r : R} {vs : List AV} {t : List AV} {d : Option Nat} {nx : Nx} :
    effE b h r vs t d nx ↔ ∃ v h', effE b h r vs [.undef] (some 0) (fun t' h'' => t' = [v] ∧ h'' = h') ∧ nx (putA t d v) h' := by
  constructor
  · intro hs
    unfold effE at hs ⊢
    split at hs <;> first | exact ⟨_, _, ⟨hs.1, rfl, rfl⟩, hs.2⟩ | exact hs.elim
  · rintro ⟨v, h', h1, h2⟩
    unfold effE at h1 ⊢
    split at h1 <;> first | exact h1.elim | (obtain ⟨g1, g2, g3⟩ := h1; refine ⟨g1, ?_⟩; simp [putA, setA] at g2; subst g2; subst g3; exact h2)

/-- What an operation gives, and what it leaves. -/
def relA (P : Program) (b : Nat) (r : R) (k : Kd) (vs : List AV) (h : List AObj) (v : AV) (h' : List AObj) : Prop :=
  match k with
  | .pick => match vs with
    | [c, x, y] => pickOk c x y ∧ v = pickV c x y ∧ h' = h
    | _ => False
  | .pure => flags vs ∧ okP r (strips vs) ∧ v = valP r (strips vs) ∧ h' = h
  | .mem => flags vs ∧ okL h r (strips vs) ∧ v = valL h r (strips vs) ∧ h' = h
  | .eff => flags vs ∧ effE b h r (strips vs) [.undef] (some 0) (fun t' h'' => t' = [v] ∧ h'' = h')
  | .call f p => flags vs ∧ ACalls P f (strips vs) h v h' ∧ (p = true → h' = h)
  | .callv => False

def relB (P : Program) (b : Nat) (r : R) (k : Kd) (g : Bool) (vs : List AV) (h : List AObj) (v : AV) (h' : List AObj) : Prop :=
  match k with
  | .pick => match vs with
    | [c, x, y] => (g = true → pickOk c x y) ∧ v = .gd g (pickV c x y) ∧ h' = h
    | _ => False
  | .pure => (g = true → flags vs ∧ okP r (strips vs)) ∧ v = .gd g (valP r (strips vs)) ∧ h' = h
  | .mem => (g = true → flags vs ∧ okL h r (strips vs)) ∧ v = .gd g (valL h r (strips vs)) ∧ h' = h
  | .eff => (g = true ∧ flags vs ∧ effE b h r (strips vs) [.undef] (some 0) (fun t' h'' => t' = [v] ∧ h'' = h')) ∨ (g = false ∧ v = .undef ∧ h' = h)
  | .call f p => ∃ u, (g = true → flags vs ∧ ACalls P f (strips vs) h u h' ∧ (p = true → h' = h)) ∧ (g = false → h' = h) ∧ v = .gd g u
  | .callv => False

def relO (P : Program) (b : Nat) (o : RO) (t : List AV) (h : List AObj) (v : AV) (h' : List AObj) : Prop :=
  match o.g with
  | none => relA P b o.op o.op.kd (evs t o.xs) h v h'
  | some (j, want) => guardOk (getA j t) = true ∧ relB P b o.op o.op.kd (guardA (getA j t) want) (evs t o.xs) h v h'

def isCallv : Kd → Bool
  | .callv => true
  | _ => false

theorem stepO_rel {b : Nat} {o : RO} (hk : isCallv o.op.kd = false) {nx : Nx} {t : List AV} {h : List AObj} : stepO P b o nx t h ↔ ∃ v h', relO P b o t h v h' ∧ nx (putA t o.dst v) h' := by
  unfold stepO relO
  rcases hg : o.g with _ | ⟨j, want⟩
  · dsimp only
    unfold stepA relA
    cases hkd : o.op.kd with
    | pure => exact ⟨fun hs => ⟨_, _, ⟨hs.1, hs.2.1, rfl, rfl⟩, hs.2.2⟩, fun ⟨v, h', ⟨h1, h2, h3, h4⟩, h5⟩ => by subst h3 h4; exact ⟨h1, h2, h5⟩⟩
    | mem => exact ⟨fun hs => ⟨_, _, ⟨hs.1, hs.2.1, rfl, rfl⟩, hs.2.2⟩, fun ⟨v, h', ⟨h1, h2, h3, h4⟩, h5⟩ => by subst h3 h4; exact ⟨h1, h2, h5⟩⟩
    | eff =>
      refine ⟨fun hs => ?_, fun ⟨v, h', ⟨h1, h2⟩, h3⟩ => ⟨h1, effE_rel.2 ⟨v, h', h2, h3⟩⟩⟩
      obtain ⟨v, h', h1, h2⟩ := effE_rel.1 hs.2
      exact ⟨v, h', ⟨hs.1, h1⟩, h2⟩
    | call f p => exact ⟨fun ⟨h1, v, h', h2, h3, h4⟩ => ⟨v, h', ⟨h1, h2, h3⟩, h4⟩, fun ⟨v, h', ⟨h1, h2, h3⟩, h4⟩ => ⟨h1, v, h', h2, h3, h4⟩⟩
    | callv => rw [hkd] at hk; cases hk
    | pick =>
      dsimp only
      generalize evs t o.xs = vs
      constructor
      · intro hs
        split at hs
        · exact ⟨_, _, ⟨hs.1, rfl, rfl⟩, hs.2⟩
        · exact hs.elim
      · rintro ⟨v, h', h1, h5⟩
        split at h1
        · obtain ⟨h1, rfl, rfl⟩ := h1; exact ⟨h1, h5⟩
        · exact h1.elim
  · dsimp only
    generalize guardA (getA j t) want = g
    unfold stepB relB
    cases hkd : o.op.kd with
    | pure => exact ⟨fun hs => ⟨_, _, ⟨hs.1, hs.2.1, rfl, rfl⟩, hs.2.2⟩, fun ⟨v, h', ⟨h1, h2, h3, h4⟩, h5⟩ => by subst h3 h4; exact ⟨h1, h2, h5⟩⟩
    | mem => exact ⟨fun hs => ⟨_, _, ⟨hs.1, hs.2.1, rfl, rfl⟩, hs.2.2⟩, fun ⟨v, h', ⟨h1, h2, h3, h4⟩, h5⟩ => by subst h3 h4; exact ⟨h1, h2, h5⟩⟩
    | eff =>
      constructor
      · rintro ⟨h0, h1, h2⟩
        cases g with
        | true =>
          obtain ⟨v, h', g1, g2⟩ := effE_rel.1 (h1 rfl).2
          exact ⟨v, h', ⟨h0, .inl ⟨rfl, (h1 rfl).1, g1⟩⟩, g2⟩
        | false => exact ⟨_, _, ⟨h0, .inr ⟨rfl, rfl, rfl⟩⟩, h2 rfl⟩
      · rintro ⟨v, h', ⟨h0, ⟨rfl, h1, h2⟩ | ⟨rfl, rfl, rfl⟩⟩, h3⟩
        · exact ⟨h0, fun _ => ⟨h1, effE_rel.2 ⟨v, h', h2, h3⟩⟩, fun h => by cases h⟩
        · exact ⟨h0, fun h => (by cases h), fun _ => h3⟩
    | call f p => exact ⟨fun ⟨h0, v, h', h1, h2, h3⟩ => ⟨_, h', ⟨h0, v, h1, h2, rfl⟩, h3⟩, fun ⟨v, h', ⟨h0, u, h1, h2, h3⟩, h4⟩ => by subst h3; exact ⟨h0, u, h', h1, h2, h4⟩⟩
    | callv => rw [hkd] at hk; cases hk
    | pick =>
      dsimp only
      generalize evs t o.xs = vs
      constructor
      · rintro ⟨h0, hs⟩
        split at hs
        · exact ⟨_, _, ⟨h0, hs.1, rfl, rfl⟩, hs.2⟩
        · exact hs.elim
      · rintro ⟨v, h', ⟨h0, h1⟩, h5⟩
        split at h1
        · obtain ⟨h1, rfl, rfl⟩ := h1; exact ⟨h0, h1, h5⟩
        · exact h1.elim

/-- What an operation looks at. -/
def RO.looks (o : RO) : List Nat :=
  (o.xs.filterMap fun | .t n => some n | _ => none) ++ (match o.g with | some (j, _) => [j] | none => [])

def quietK : Kd → Bool
  | .pure | .mem | .pick => true
  | .call _ p => p
  | _ => false
def blindK : Kd → Bool
  | .pure | .pick => true
  | _ => false

def RO.indep (x y : RO) : Bool :=
  !isCallv x.op.kd && !isCallv y.op.kd && ((quietK x.op.kd && quietK y.op.kd) || blindK x.op.kd || blindK y.op.kd) &&
  (match x.dst with | some d => !y.looks.contains d && y.dst != some d | none => true) &&
  (match y.dst with | some d => !x.looks.contains d | none => true)

theorem getA_setA_ne {n d : Nat} (h : n ≠ d) (t : List AV) (v : AV) : getA n (setA d t v) = getA n t := by
  rw [getA_get, getA_get, setA_get, if_neg (fun e => h e.1)]

theorem ev_put {x : X} {d : Option Nat} {t : List AV} {v : AV} (h : ∀ n, x = .t n → d ≠ some n) : ev (putA t d v) x = ev t x := by
  cases x with
  | c v => rfl
  | t n =>
    cases d with
    | none => rfl
    | some d => exact getA_setA_ne (fun e => h n rfl (by rw [e])) t v

theorem evs_put {d : Option Nat} {t : List AV} {v : AV} : ∀ {xs : List X}, (∀ n, .t n ∈ xs → d ≠ some n) → evs (putA t d v) xs = evs t xs := by
  intro xs
  induction xs with
  | nil => intro _; rfl
  | cons x xs ih =>
    intro h
    simp only [evs]
    rw [ev_put (fun n e => h n (by rw [e]; simp)), ih (fun n hn => h n (by simp [hn]))]

theorem relO_put {b : Nat} {o : RO} {d : Option Nat} (h : ∀ n, d = some n → n ∉ o.looks) {t : List AV} {u : AV} {h0 : List AObj} {v : AV} {h' : List AObj} : relO P b o (putA t d u) h0 v h' ↔ relO P b o t h0 v h' := by
  have hx : evs (putA t d u) o.xs = evs t o.xs := evs_put (fun n hn e => h n e (by
    unfold RO.looks
    exact List.mem_append_left _ (List.mem_filterMap.2 ⟨.t n, hn, rfl⟩)))
  unfold relO
  rw [hx]
  rcases hg : o.g with _ | ⟨j, want⟩
  · exact Iff.rfl
  · dsimp only
    have hj : getA j (putA t d u) = getA j t := by
      cases d with
      | none => rfl
      | some d => exact getA_setA_ne (fun e => h d rfl (by unfold RO.looks; rw [hg]; simp [e])) t u
    rw [hj]

theorem relO_quiet {b : Nat} {o : RO} (hq : quietK o.op.kd = true) {t : List AV} {h : List AObj} {v : AV} {h' : List AObj} (hr : relO P b o t h v h') : h' = h := by
  unfold relO at hr
  rcases hg0 : o.g with _ | ⟨j, want⟩ <;> rw [hg0] at hr <;> dsimp only at hr
  · unfold relA at hr
    cases hk : o.op.kd with
    | pure => rw [hk] at hr; exact hr.2.2.2
    | mem => rw [hk] at hr; exact hr.2.2.2
    | eff => rw [hk] at hq; cases hq
    | call f p => rw [hk] at hr hq; exact hr.2.2 hq
    | callv => rw [hk] at hq; cases hq
    | pick => rw [hk] at hr; dsimp only at hr; split at hr; exact hr.2.2; exact hr.elim
  · replace hr := hr.2
    unfold relB at hr
    cases hk : o.op.kd with
    | pure => rw [hk] at hr; exact hr.2.2
    | mem => rw [hk] at hr; exact hr.2.2
    | eff => rw [hk] at hq; cases hq
    | call f p =>
      rw [hk] at hr hq
      obtain ⟨u, h1, h2, _⟩ := hr
      cases hg : guardA (getA j t) want
      · exact h2 hg
      · exact (h1 hg).2.2 hq
    | callv => rw [hk] at hq; cases hq
    | pick => rw [hk] at hr; dsimp only at hr; split at hr; exact hr.2.2; exact hr.elim

theorem relO_blind {b : Nat} {o : RO} (hq : blindK o.op.kd = true) {t : List AV} {h h0 : List AObj} {v : AV} {h' : List AObj} (hr : relO P b o t h v h') : h' = h ∧ relO P b o t h0 v h0 := by
  unfold relO at hr ⊢
  rcases hg : o.g with _ | ⟨j, want⟩ <;> rw [hg] at hr <;> dsimp only at hr ⊢
  · unfold relA at hr ⊢
    cases hk : o.op.kd with
    | pure => rw [hk] at hr; exact ⟨hr.2.2.2, hr.1, hr.2.1, hr.2.2.1, rfl⟩
    | pick => rw [hk] at hr; dsimp only at hr ⊢; split at hr; exact ⟨hr.2.2, hr.1, hr.2.1, rfl⟩; exact hr.elim
    | mem => rw [hk] at hq; cases hq
    | eff => rw [hk] at hq; cases hq
    | call f p => rw [hk] at hq; cases hq
    | callv => rw [hk] at hq; cases hq
  · obtain ⟨hgo, hr⟩ := hr
    unfold relB at hr ⊢
    cases hk : o.op.kd with
    | pure => rw [hk] at hr; exact ⟨hr.2.2, hgo, hr.1, hr.2.1, rfl⟩
    | pick => rw [hk] at hr; dsimp only at hr ⊢; split at hr; exact ⟨hr.2.2, hgo, hr.1, hr.2.1, rfl⟩; exact hr.elim
    | mem => rw [hk] at hq; cases hq
    | eff => rw [hk] at hq; cases hq
    | call f p => rw [hk] at hq; cases hq
    | callv => rw [hk] at hq; cases hq

theorem setA_comm {d e : Nat} (hne : d ≠ e) : ∀ (t : List AV) (v u : AV), setA d (setA e t u) v = setA e (setA d t v) u := by
  intro t v u
  apply List.ext_getElem?
  intro i
  simp only [setA_get, length_setA]
  by_cases h1 : i = d ∧ i < t.length
  · have : ¬ (i = e ∧ i < t.length) := fun h => hne (h1.1.symm.trans h.1)
    rw [if_pos h1, if_neg this, if_pos h1]
  · rw [if_neg h1]
    by_cases h2 : i = e ∧ i < t.length
    · rw [if_pos h2, if_pos h2]
    · rw [if_neg h2, if_neg h2, if_neg h1]

theorem putA_comm {d e : Option Nat} (hne : ∀ n, d = some n → e ≠ some n) (t : List AV) (v u : AV) : putA (putA t e u) d v = putA (putA t d v) e u := by
  cases d with
  | none => rfl
  | some d =>
    cases e with
    | none => rfl
    | some e => exact setA_comm (fun h => hne d rfl (by rw [h])) t v u

/-- Two operations that have nothing to do with each other may change places. -/
theorem step_swap {b : Nat} {x y : RO} (hi : x.indep y = true) {K : Nx} {t : List AV} {h : List AObj} (hs : stepO P b x (stepO P b y K) t h) : stepO P b y (stepO P b x K) t h := by
  simp only [RO.indep, Bool.and_eq_true, Bool.not_eq_true', Bool.or_eq_true] at hi
  obtain ⟨⟨⟨⟨cx, cy⟩, hq⟩, hx⟩, hy⟩ := hi
  have hx1 : ∀ n, x.dst = some n → n ∉ y.looks := fun n e => by rw [e] at hx; simp at hx; exact hx.1
  have hx2 : ∀ n, x.dst = some n → y.dst ≠ some n := fun n e => by rw [e] at hx; simp at hx; exact hx.2
  have hy1 : ∀ n, y.dst = some n → n ∉ x.looks := fun n e => by rw [e] at hy; simpa using hy
  obtain ⟨v, h1, r1, hs⟩ := (stepO_rel cx).1 hs
  obtain ⟨u, h2, r2, hs⟩ := (stepO_rel cy).1 hs
  rw [relO_put hx1] at r2
  rw [putA_comm (fun n e e' => hx2 n e' e)] at hs
  have fin : ∀ ha, relO P b y t h u ha → relO P b x t ha v h2 → stepO P b y (stepO P b x K) t h := fun ha g1 g2 =>
    (stepO_rel cy).2 ⟨u, ha, g1, (stepO_rel cx).2 ⟨v, h2, (relO_put hy1).2 g2, hs⟩⟩
  rcases hq with (⟨q1, q2⟩ | q1) | q2
  · have e1 := relO_quiet q1 r1
    subst e1
    have e2 := relO_quiet q2 r2
    subst e2
    exact fin _ r2 r1
  · obtain ⟨e1, r1'⟩ := relO_blind (h0 := h2) q1 r1
    subst e1
    exact fin _ r2 r1'
  · obtain ⟨e1, r2'⟩ := relO_blind (h0 := h) q2 r2
    subst e1
    exact fin _ r2' r1

theorem opsN_mono {b : Nat} {all : List RO} : ∀ (L : List Nat) {K K' : Nx} {t : List AV} {h : List AObj}, (∀ t h, K t h → K' t h) → opsN P b all L K t h → opsN P b all L K' t h := by
  intro L
  induction L with
  | nil => intro K K' t h hm hs; exact hm _ _ hs
  | cons i r ih =>
    intro K K' t h hm hs
    simp only [opsN] at hs ⊢
    split
    · rename_i o ho
      rw [ho] at hs
      exact stepO_mono (fun t h hh => ih hm hh) hs
    · rename_i ho
      rw [ho] at hs
      exact ih hm hs

/-- An operation may be drawn to the front of those that have nothing to do with it. -/
theorem opsN_front {b : Nat} {all : List RO} {K : Nx} {i : Nat} {y : RO} (hy : all[i]? = some y) : ∀ (A B : List Nat) {t : List AV} {h : List AObj}, (∀ a ∈ A, ∃ x, all[a]? = some x ∧ x.indep y = true) →
    opsN P b all (A ++ i :: B) K t h → opsN P b all (i :: (A ++ B)) K t h := by
  intro A
  induction A with
  | nil => intro B t h _ hs; exact hs
  | cons a A ih =>
    intro B t h hA hs
    obtain ⟨x, hx, hxy⟩ := hA a (by simp)
    simp only [List.cons_append, opsN, hx, hy] at hs ⊢
    refine step_swap hxy (stepO_mono (fun t' h' hh => ?_) hs)
    have := ih B (fun a' ha' => hA a' (by simp [ha'])) hh
    simp only [opsN, hy] at this
    exact this

/-- Is `i` among what `j` must wait for? -/
def reach (ops : Array Oper) : Nat → Nat → Nat → Bool
  | 0, _, _ => false
  | n + 1, j, i => match ops[j]? with
    | some o => o.after.any fun e => Region.binds .any e && (e.on == i || reach ops n e.on i)
    | none => false

/-- The region's edges go back, and of two operations one waits for the other, or they have nothing to do with each other. -/
def drawC (ops : Array Oper) (all : List RO) : Bool :=
  ((List.range ops.size).all fun j => match ops[j]? with
    | some o => o.after.all fun e => !Region.binds .any e || decide (e.on < j)
    | none => true) &&
  ((List.range ops.size).all fun j => (List.range j).all fun i => reach ops ops.size j i || (match all[i]?, all[j]? with
    | some x, some y => x.indep y
    | _, _ => false))

def downC (ops : Array Oper) (listed : Array Bool) : Prop := ∀ (k : Nat) (o : Oper), ops[k]? = some o → listed.getD k false = true → ∀ e ∈ o.after, Region.binds .any e = true → listed.getD e.on false = true

theorem reach_listed {ops : Array Oper} {listed : Array Bool} (hd : downC ops listed) : ∀ (n j i : Nat), (∀ o, ops[j]? = some o → ∀ e ∈ o.after, Region.binds .any e = true → listed.getD e.on false = true) → reach ops n j i = true → listed.getD i false = true := by
  intro n
  induction n with
  | zero => intro j i _ h; cases h
  | succ n ih =>
    intro j i hj h
    simp only [reach] at h
    split at h
    · rename_i o ho
      obtain ⟨e, he, hb⟩ := Array.any_eq_true'.1 h
      simp only [Bool.and_eq_true, Bool.or_eq_true, beq_iff_eq] at hb
      have hl := hj o ho e he hb.1
      rcases hb.2 with h1 | h1
      · rw [← h1]; exact hl
      · exact ih e.on i (fun o' ho' => hd e.on o' ho' hl) h1
    · cases h

def remain (n : Nat) (listed : Array Bool) : List Nat := (List.range n).filter fun i => !listed.getD i true

theorem remain_set {n i : Nat} {listed : Array Bool} (hs : listed.size = n) {A B : List Nat} (h : remain n listed = A ++ i :: B) : remain n (listed.setIfInBounds i true) = A ++ B := by
  have hmem : i ∈ remain n listed := by rw [h]; simp
  have hi : i < n ∧ listed.getD i true = false := by
    unfold remain at hmem
    rw [List.mem_filter] at hmem
    exact ⟨by simpa using hmem.1, by simpa using hmem.2⟩
  have hnd : (remain n listed).Nodup := (List.Pairwise.filter _ List.pairwise_lt_range).imp (fun h => Nat.ne_of_lt h)
  have key : remain n (listed.setIfInBounds i true) = (remain n listed).filter (fun k => k != i) := by
    unfold remain
    rw [List.filter_filter]
    apply List.filter_congr
    intro k hk
    by_cases hki : k = i
    · subst hki
      have : k < listed.size := by rw [hs]; exact hi.1
      simp [this]
    · have hne : i ≠ k := fun e => hki e.symm
      simp [hki, Array.getElem?_setIfInBounds_ne hne]
  rw [key, h, List.filter_append, List.filter_cons]
  rw [h] at hnd
  have h1 := List.nodup_append.1 hnd
  have hA : ∀ k ∈ A, k ≠ i := fun k hk e => h1.2.2 k hk i (by simp) e
  have hB : ∀ k ∈ B, k ≠ i := fun k hk e => by
    have := (List.nodup_cons.1 h1.2.1).1
    exact this (e ▸ hk)
  rw [List.filter_eq_self.2 (fun k hk => by simp [hA k hk]), List.filter_eq_self.2 (fun k hk => by simp [hB k hk])]
  simp

theorem draw_all {b : Nat} {ops : Array Oper} {all : List RO} {K : Nx} (hc : drawC ops all = true) (hlen : all.length = ops.size) : ∀ (fuel n : Nat) (listed : Array Bool) {t : List AV} {h : List AObj}, listed.size = ops.size → downC ops listed → (remain ops.size listed).length ≤ fuel →
    opsN P b all (remain ops.size listed) K t h → opsN P b all (Region.linearise.go .any ops fuel n listed []) K t h := by
  unfold drawC at hc
  rw [Bool.and_eq_true] at hc
  obtain ⟨hback, hpair⟩ := hc
  intro fuel
  induction fuel with
  | zero =>
    intro n listed t h _ _ hf hs
    have : remain ops.size listed = [] := List.eq_nil_of_length_eq_zero (by omega)
    rw [this] at hs
    exact hs
  | succ fuel ih =>
    intro n listed t h hsz hd hf hs
    simp only [Region.linearise.go]
    change opsN P b all (match (Region.ready .any ops listed)[n % (Region.ready .any ops listed).length]? with
      | some i => Region.linearise.go .any ops fuel (n / (Region.ready .any ops listed).length) (listed.setIfInBounds i true) [i]
      | none => [].reverse) K t h
    cases hi : (Region.ready .any ops listed)[n % (Region.ready .any ops listed).length]? with
    | none =>
      have hnil : Region.ready .any ops listed = [] := by
        cases hr : Region.ready .any ops listed with
        | nil => rfl
        | cons x xs =>
          rw [hr] at hi
          have hlt : n % (x :: xs).length < (x :: xs).length := Nat.mod_lt _ (by simp)
          rw [List.getElem?_eq_getElem hlt] at hi
          cases hi
      have hrem : remain ops.size listed = [] := by
        cases hr : remain ops.size listed with
        | nil => rfl
        | cons m r =>
          -- the first one that is left is ready
          have hm : m ∈ remain ops.size listed := by rw [hr]; simp
          have hm' : m < ops.size ∧ listed.getD m true = false := by
            unfold remain at hm
            rw [List.mem_filter] at hm
            exact ⟨by simpa using hm.1, by simpa using hm.2⟩
          have hall : m ∈ Region.ready .any ops listed := by
            rw [mem_ready]
            refine ⟨hm'.2, ops[m], by simp [hm'.1], fun e he hb => ?_⟩
            have h1 := (List.all_eq_true.1 hback) m (by simp [hm'.1])
            simp only [Array.getElem?_eq_getElem hm'.1] at h1
            have h2 := (Array.all_eq_true_iff_forall_mem.1 h1) e he
            simp only [hb, Bool.not_true, Bool.false_or, decide_eq_true_eq] at h2
            -- what lies before it is listed
            have hlt : e.on < listed.size := by omega
            by_cases hl : listed.getD e.on false = true
            · exact hl
            · exfalso
              have hin : e.on ∈ remain ops.size listed := by
                unfold remain
                rw [List.mem_filter]
                refine ⟨by simp; omega, ?_⟩
                simp [hlt] at hl ⊢
                exact hl
              rw [hr] at hin
              have hsorted : (m :: r).Pairwise (· < ·) := by
                rw [← hr]
                unfold remain
                exact List.Pairwise.filter _ List.pairwise_lt_range
              rcases List.mem_cons.1 hin with h3 | h3
              · omega
              · have := (List.pairwise_cons.1 hsorted).1 _ h3
                omega
          rw [hnil] at hall
          cases hall
      rw [hrem] at hs
      exact hs
    | some i =>
      simp only []
      rw [linearise_go_acc, List.reverse_singleton, List.singleton_append]
      have hrd : i ∈ Region.ready .any ops listed := List.mem_of_getElem? hi
      obtain ⟨hun, o, ho, hedges⟩ := mem_ready.1 hrd
      have hilt : i < ops.size := (Array.getElem?_eq_some_iff.1 ho).1
      have hmem : i ∈ remain ops.size listed := by
        unfold remain
        rw [List.mem_filter]
        exact ⟨by simp [hilt], by simp only [hun, Bool.not_false]⟩
      obtain ⟨A, B, hAB⟩ := List.append_of_mem hmem
      have hy : all[i]? = some all[i] := List.getElem?_eq_getElem (by omega)
      have hsorted : (A ++ i :: B).Pairwise (· < ·) := by
        rw [← hAB]
        unfold remain
        exact List.Pairwise.filter _ List.pairwise_lt_range
      have hA : ∀ a ∈ A, ∃ x, all[a]? = some x ∧ x.indep all[i] = true := by
        intro a ha
        have hai : a < i := (List.pairwise_append.1 hsorted).2.2 a ha i (by simp)
        have hain : a ∈ remain ops.size listed := by rw [hAB]; simp [ha]
        have haun : listed.getD a true = false := by
          unfold remain at hain
          rw [List.mem_filter] at hain
          simpa using hain.2
        have h1 := (List.all_eq_true.1 ((List.all_eq_true.1 hpair) i (by simp [hilt]))) a (by simp [hai])
        rw [Bool.or_eq_true] at h1
        rcases h1 with h1 | h1
        · exfalso
          have := reach_listed hd _ i a (fun o' ho' e he hb => by rw [ho] at ho'; cases ho'; exact hedges e he hb) h1
          have hlt : a < listed.size := by omega
          simp [hlt] at this haun
          rw [haun] at this
          cases this
        · refine ⟨all[a], List.getElem?_eq_getElem (by omega), ?_⟩
          rw [List.getElem?_eq_getElem (show a < all.length by omega), hy] at h1
          exact h1
      rw [hAB] at hs
      have hfront := opsN_front hy A B hA hs
      have hset := remain_set hsz hAB
      simp only [opsN, hy] at hfront ⊢
      refine stepO_mono (fun t' h' hh => ?_) hfront
      refine ih _ _ (by simp [hsz]) ?_ ?_ (by rw [hset]; exact hh)
      · intro k o' ho' hk e he hb
        by_cases hki : k = i
        · subst hki
          rw [ho] at ho'
          cases ho'
          exact getD_set_true (hedges e he hb)
        · rw [getD_set_ne false (Ne.symm hki)] at hk
          exact getD_set_true (hd k o' ho' hk e he hb)
      · rw [hset]
        have := hf
        rw [hAB] at this
        simp at this ⊢
        omega
end
end AF

/-
  AFB: what the law's reading of its arguments tells.
-/
import Derived.Test.YtpnjpjibccmkiaaAfN
import Derived.Below
import Derived.ChangeSame
import Derived.ChangeShapes
import Derived.CallsIn
set_option linter.all false
set_option linter.unusedSimpArgs false
set_option linter.unusedVariables false
set_option linter.unusedSectionVars false
namespace AF
open Go

theorem mapM_some {α β : Type} {f : α → Option β} : ∀ {l : List α} {ys : List β}, l.mapM f = some ys → ys.length = l.length ∧ ∀ (i : Nat) x y, l[i]? = some x → ys[i]? = some y → f x = some y := by
  intro l
  induction l with
  | nil => intro ys h; simp at h; subst h; simp
  | cons a l ih =>
    intro ys h
    rw [List.mapM_cons] at h
    cases ha : f a with
    | none => simp [ha] at h
    | some b =>
      cases hl : l.mapM f with
      | none => simp [ha, hl] at h
      | some zs =>
        simp [ha, hl] at h
        subst h
        obtain ⟨h1, h2⟩ := ih hl
        refine ⟨by simp [h1], fun i x y hx hy => ?_⟩
        cases i with
        | zero => simp at hx hy; subst hx hy; exact ha
        | succ i => exact h2 i x y (by simpa using hx) (by simpa using hy)

inductive FK where
  | bool
  | int (k : IntKind)
  | str
  deriving DecidableEq
def fkOk : FK → AV → Prop
  | .bool, a => ∃ b, a = .bool b
  | .int k, a => ∃ n, a = .int k n ∧ (Lit.int k n).wf = true
  | .str, a => ∃ s : List UInt8, a = .str s ∧ s.length ≤ maxLen
def fksOk : List FK → List AV → Prop
  | [], [] => True
  | k :: ks, a :: as => fkOk k a ∧ fksOk ks as
  | _, _ => False
theorem fksOk_len : ∀ {ks : List FK} {as : List AV}, fksOk ks as → as.length = ks.length := by
  intro ks
  induction ks with
  | nil => intro as h; cases as <;> simp_all [fksOk]
  | cons k ks ih => intro as h; cases as with
    | nil => simp [fksOk] at h
    | cons a as => simp [ih h.2]
def fkOf (P : Program) (t : TypeId) : Option FK :=
  match P.underlying t with
  | some .bool => some .bool
  | some (.int k) => some (.int k)
  | some .string => some .str
  | _ => none
/-- A struct's fields, one cell each, in order. -/
def fksOf (P : Program) : Nat → List Field → Option (List FK)
  | _, [] => some []
  | n, f :: r => match fkOf P f.type, fksOf P (n + 1) r with
    | some k, some l => if f.offset = n ∧ P.cellsOf f.type = 1 then some (k :: l) else none
    | _, _ => none
/-- A type of atoms: one, or a struct of them. -/
def flatK (P : Program) (t : TypeId) : Option (List FK) :=
  match P.underlying t with
  | some (.struct fs) => match fksOf P 0 fs.toList with
    | some l => if P.cellsOf t = l.length then some l else none
    | none => none
  | _ => (fkOf P t).bind fun k => if P.cellsOf t = 1 then some [k] else none

section
variable {H : Type} {enc : TypeId × Value → H} {P : Program} {w : World} {sp : Nat → Bool} {held : Bool} {ow : Nat → Prop}

theorem fk_trod {t : TypeId} {k : FK} {fuel : Nat} {cs : List Value} {d : DataW H} {ps : List MemPlace} (hk : fkOf P t = some k) (h : DataW.trod enc P w 0 sp held fuel t cs = some (d, ps)) :
    ∃ a v, cs = [v] ∧ fkOk k a ∧ VI w ow a v ∧ v.oneCell' = true := by
  unfold fkOf at hk
  split at hk
  · rename_i ht
    cases hk
    obtain ⟨b, rfl, _⟩ := DataW.trod_bool ht h
    exact ⟨.bool b, _, rfl, ⟨b, rfl⟩, .bool, rfl⟩
  · rename_i k ht
    cases hk
    obtain ⟨n, rfl, _, hw⟩ := DataW.trod_int ht h
    exact ⟨.int k n, _, rfl, ⟨n, rfl, hw⟩, .int, rfl⟩
  · rename_i ht
    cases hk
    obtain ⟨s, rfl, _, hw⟩ := DataW.trod_string ht h
    have hsz : s.data.toList.length ≤ maxLen := by rw [Array.length_toList]; exact hw
    exact ⟨.str s.data.toList, _, rfl, ⟨_, rfl, hsz⟩, by have := @VI.str w ow s.data.toList; rw [Array.toArray_toList] at this; exact this, rfl⟩
  · cases hk

theorem fks_fields {n : Nat} {fs : List Field} {ks : List FK} (hk : fksOf P n fs = some ks) : fs.length = ks.length ∧ ∀ (i : Nat) f k, fs[i]? = some f → ks[i]? = some k → f.offset = n + i ∧ P.cellsOf f.type = 1 ∧ fkOf P f.type = some k := by
  induction fs generalizing n ks with
  | nil => cases hk; simp
  | cons f fs ih =>
    simp only [fksOf] at hk
    split at hk
    · rename_i k l h1 h2
      split at hk
      · rename_i h3
        cases hk
        obtain ⟨g1, g2⟩ := ih h2
        refine ⟨by simp [g1], fun i x y hx hy => ?_⟩
        cases i with
        | zero => simp at hx hy; subst hx hy; exact ⟨by omega, h3.2, h1⟩
        | succ i =>
          have := g2 i x y (by simpa using hx) (by simpa using hy)
          exact ⟨by omega, this.2⟩
      · cases hk
    · cases hk

theorem fksOk_of {ks : List FK} {as : List AV} (hl : as.length = ks.length) (h : ∀ (i : Nat) k a, ks[i]? = some k → as[i]? = some a → fkOk k a) : fksOk ks as := by
  induction ks generalizing as with
  | nil => cases as with
    | nil => trivial
    | cons a as => simp at hl
  | cons k ks ih => cases as with
    | nil => simp at hl
    | cons a as => exact ⟨h 0 k a rfl rfl, ih (by simpa using hl) (fun i k a h1 h2 => h (i + 1) k a (by simpa using h1) (by simpa using h2))⟩

/-- The cells of a type of atoms. -/
theorem flat_trod {t : TypeId} {ks : List FK} {fuel : Nat} {cs : List Value} {d : DataW H} {ps : List MemPlace} (hk : flatK P t = some ks) (h : DataW.trod enc P w 0 sp held fuel t cs = some (d, ps)) :
    ks.length = P.cellsOf t ∧ ∃ as : List AV, fksOk ks as ∧ cs.length = as.length ∧ (∀ (i : Nat) v, cs[i]? = some v → v.oneCell' = true) ∧ ∀ (i : Nat) c v, as[i]? = some c → cs[i]? = some v → VI w ow c v := by
  unfold flatK at hk
  split at hk
  · rename_i fs ht
    split at hk
    · rename_i l hl
      split at hk
      · rename_i hc
        cases hk
        refine ⟨hc.symm, ?_⟩
        obtain ⟨g1, g2⟩ := fks_fields hl
        cases fuel with
        | zero => simp [DataW.trod] at h
        | succ fuel =>
          simp only [DataW.trod, ht] at h
          split at h
          · rename_i hcl
            rw [Option.map_eq_some_iff] at h
            obtain ⟨xs, hm, _⟩ := h
            obtain ⟨m1, m2⟩ := mapM_some hm
            have key : ∀ i, i < ks.length → ∃ a v k, ks[i]? = some k ∧ cs[i]? = some v ∧ fkOk k a ∧ VI w ow a v ∧ v.oneCell' = true := by
              intro i hi
              have hfi : i < fs.toList.length := by omega
              have hxi : i < xs.length := by omega
              have e1 : fs.toList[i]? = some fs.toList[i] := List.getElem?_eq_getElem hfi
              have e2 : ks[i]? = some ks[i] := List.getElem?_eq_getElem hi
              have e3 : xs[i]? = some xs[i] := List.getElem?_eq_getElem hxi
              obtain ⟨q1, q2, q3⟩ := g2 i _ _ e1 e2
              have q4 := m2 i _ _ e1 e3
              rw [q1, q2, Nat.zero_add] at q4
              obtain ⟨a, v, r1, r2, r3, r4⟩ := fk_trod (ow := ow) q3 (show DataW.trod enc P w 0 sp held fuel fs.toList[i].type ((cs.drop i).take 1) = some (xs[i].1, xs[i].2) from q4)
              have : cs[i]? = some v := by
                have := congrArg (fun l => l[0]?) r1
                simpa [List.getElem?_take, List.getElem?_drop] using this
              exact ⟨a, v, _, e2, this, r2, r3, r4⟩
            have hcs : cs.length = ks.length := by omega
            have ex : ∃ g : Nat → AV, ∀ i, i < ks.length → ∃ v k, ks[i]? = some k ∧ cs[i]? = some v ∧ fkOk k (g i) ∧ VI w ow (g i) v ∧ v.oneCell' = true := by
              refine ⟨fun i => if hi : i < ks.length then (key i hi).choose else .undef, fun i hi => ?_⟩
              simp only [dif_pos hi]
              obtain ⟨v, k, hh⟩ := (key i hi).choose_spec
              exact ⟨v, k, hh⟩
            obtain ⟨g, hg⟩ := ex
            refine ⟨(List.range ks.length).map g, fksOk_of (by simp) (fun i k a h1 h2 => ?_), by simp [hcs], fun i v hv => ?_, fun i c v hc hv => ?_⟩
            · have hi : i < ks.length := (List.getElem?_eq_some_iff.1 h1).1
              obtain ⟨v, k', q1, q2, q3, _⟩ := hg i hi
              simp [hi] at h2
              rw [h1] at q1
              cases q1
              rw [← h2]; exact q3
            · have hi : i < ks.length := by have := (List.getElem?_eq_some_iff.1 hv).1; omega
              obtain ⟨v', k', q1, q2, q3, q4, q5⟩ := hg i hi
              rw [hv] at q2; cases q2; exact q5
            · have hi : i < ks.length := by have := (List.getElem?_eq_some_iff.1 hv).1; omega
              obtain ⟨v', k', q1, q2, q3, q4, q5⟩ := hg i hi
              simp [hi] at hc
              rw [hv] at q2; cases q2; rw [← hc]; exact q4
          · cases h
      · cases hk
    · cases hk
  · rw [Option.bind_eq_some_iff] at hk
    obtain ⟨k, hk1, hk2⟩ := hk
    split at hk2
    · rename_i hc
      cases hk2
      obtain ⟨a, v, rfl, r2, r3, r4⟩ := fk_trod (ow := ow) hk1 h
      refine ⟨hc.symm, [a], ⟨r2, trivial⟩, rfl, fun i x hx => ?_, fun i c x hc hx => ?_⟩
      · cases i <;> simp at hx; subst hx; exact r4
      · cases i <;> simp at hx hc; subst hx hc; exact r3
    · cases hk2

/-- A slice of such elements. -/
theorem slice_trod {t e : TypeId} {ks : List FK} {v : Value} {d : DataW H} {ps : List MemPlace} (ht : P.underlying t = some (.slice e)) (hk : flatK P e = some ks) (h0 : 0 < ks.length)
    {base : Nat} (hval : Value.okWide P w .any base t v) (how : ∀ b, ¬ ow b) (h : DataW.Trod enc P w 0 (fun _ => true) held t v d ps) :
    ∃ (n : Nat) (f : Nat → List AV), n ≤ maxLen ∧ VI w ow (.sl n f) v ∧ ∀ i, i < n → fksOk ks (f i) := by
  have hc : Cell.ok P w .any base t v := by
    unfold Value.okWide at hval
    rw [ht] at hval
    simp only at hval
    unfold Cell.okWide at hval
    rw [ht] at hval
    simpa using hval
  obtain ⟨fuel, h⟩ := h
  cases fuel with
  | zero => simp [DataW.trod] at h
  | succ fuel =>
    unfold Cell.ok at hc
    rw [ht] at hc
    split at hc <;> first | (rename_i g _; cases g; done) | skip
    all_goals first | (rename_i g; cases g; done) | skip
    · exact ⟨0, fun _ => [], Nat.zero_le _, .nilsl, fun i hi => absurd hi (Nat.not_lt_zero _)⟩
    · rename_i e' a len cap he
      cases he
      obtain ⟨c1, c2, c3, c4, row, cells, c5, c6⟩ := hc
      obtain ⟨b, off, spot⟩ := a
      simp only at c4
      subst c4
      have hadd : ∀ n, (⟨b, off, none⟩ : Addr).add n = ⟨b, off + n, none⟩ := by
        intro n; unfold Addr.add; split
        · rename_i h; subst h; rfl
        · rfl
      have hadd2 : ∀ n m, (⟨b, off + n, none⟩ : Addr).add m = ⟨b, off + n + m, none⟩ := by
        intro n m; unfold Addr.add; split
        · rename_i h; subst h; rfl
        · rfl
      have hlt : b < w.heap.size := by
        unfold World.shape? at c5
        split at c5
        · rename_i hx; exact (Array.getElem?_eq_some_iff.1 hx).1
        · cases c5
      simp only [DataW.trod, ht, Value.cells, hadd] at h
      split at h
      · rename_i hcc
        rw [Option.bind_eq_some_iff] at h
        obtain ⟨elems, hm, _⟩ := h
        obtain ⟨m1, m2⟩ := mapM_some hm
        simp only [List.length_range] at m1
        have key : ∀ i, i < len → ∃ (as : List AV) (cs : List Value), fksOk ks as ∧ cs.length = as.length ∧ cs.length = ks.length ∧ (∀ (j : Nat) v, cs[j]? = some v → w.cell? ⟨b, off + i * ks.length + j, none⟩ = some v) ∧
            (∀ (j : Nat) v, cs[j]? = some v → v.oneCell' = true) ∧ ∀ (j : Nat) c v, as[j]? = some c → cs[j]? = some v → VI w ow c v := by
          intro i hi
          have e1 : (List.range len)[i]? = some i := by simp [hi]
          have e2 : elems[i]? = some elems[i] := List.getElem?_eq_getElem (by omega)
          have h3 := m2 i _ _ e1 e2
          rw [Option.bind_eq_some_iff] at h3
          obtain ⟨cs, h3, h4⟩ := h3
          obtain ⟨f1, as, f2, f3, f4, f5⟩ := flat_trod (ow := ow) hk (show DataW.trod enc P w 0 (fun _ => true) held fuel e cs = some (elems[i].1, elems[i].2) from h4)
          unfold World.cells? at h3
          rw [if_pos (Nat.zero_le _)] at h3
          obtain ⟨n1, n2⟩ := mapM_some h3
          simp only [List.length_range] at n1
          refine ⟨as, cs, f2, f3, by omega, fun j v hj => ?_, f4, f5⟩
          have hjl : j < P.cellsOf e := by have := (List.getElem?_eq_some_iff.1 hj).1; omega
          have := n2 j j v (by simp [hjl]) hj
          rw [hadd2] at this
          rw [f1]
          exact this
        have ex : ∃ g : Nat → List AV × List Value, ∀ i, i < len → fksOk ks (g i).1 ∧ (g i).2.length = (g i).1.length ∧ (g i).2.length = ks.length ∧ (∀ (j : Nat) v, (g i).2[j]? = some v → w.cell? ⟨b, off + i * ks.length + j, none⟩ = some v) ∧
            (∀ (j : Nat) v, (g i).2[j]? = some v → v.oneCell' = true) ∧ ∀ (j : Nat) c v, (g i).1[j]? = some c → (g i).2[j]? = some v → VI w ow c v := by
          refine ⟨fun i => if hi : i < len then ((key i hi).choose, (key i hi).choose_spec.choose) else ([], []), fun i hi => ?_⟩
          simp only [dif_pos hi]
          exact (key i hi).choose_spec.choose_spec
        obtain ⟨g, hg⟩ := ex
        refine ⟨len, fun i => (g i).1, Nat.le_trans c1 hcc.2.2, .sl ks.length b off cap (fun i j => (g i).2.getD j Go.undef) c1 hcc.2.2 (fun _ => how b) hlt (fun i hi => ?_) (fun i j hi hj => ?_) (fun i j hi hj => ?_) (fun i j c hi hc => ?_), fun i hi => (hg i hi).1⟩
        · obtain ⟨_, q2, q3, _⟩ := hg i hi; omega
        · obtain ⟨_, q2, q3, q4, _⟩ := hg i hi
          have e : (g i).2[j]? = some (g i).2[j] := List.getElem?_eq_getElem (by omega)
          rw [q4 j _ e, List.getD_eq_getElem?_getD, e]; rfl
        · obtain ⟨_, q2, q3, q4, q5, _⟩ := hg i hi
          have e : (g i).2[j]? = some (g i).2[j] := List.getElem?_eq_getElem (by omega)
          rw [List.getD_eq_getElem?_getD, e]; exact q5 j _ e
        · obtain ⟨_, q2, q3, q4, q5, q6⟩ := hg i hi
          have hj := (List.getElem?_eq_some_iff.1 hc).1
          have e : (g i).2[j]? = some (g i).2[j] := List.getElem?_eq_getElem (by omega)
          rw [List.getD_eq_getElem?_getD, e]; exact q6 j c _ hc e
      · cases h
    · rename_i hno1 hno2 _ _ _
      exact hc.elim
end
theorem HR.nil (w : World) : HR w [] [] := ⟨rfl, by simp, by simp, by simp⟩
theorem own_nil (b : Nat) : ¬ own [] b := fun ⟨k, o, h, _⟩ => by simp at h
theorem Ext.below {w w' : World} {σ' : List OB} (h : Ext w [] w' σ') : Go.RowKit.Below w.heap.size w w' := ⟨h.os, h.tape, h.output, h.size, fun k hk => h.keep k hk (own_nil k)⟩
theorem VRs.nil' {w : World} {σ : List OB} : VRs w σ [] [] := ⟨rfl, by simp⟩
theorem VRs.cons' {w : World} {σ : List OB} {a : AV} {v : Value} {as : List AV} {vs : List Value} (h : VR w σ a v) (h' : VRs w σ as vs) : VRs w σ (a :: as) (v :: vs) := by
  refine ⟨by simp [h'.1], fun i c x hc hx => ?_⟩
  cases i with
  | zero => simp at hc hx; subst hc hx; exact h
  | succ i => exact h'.2 i c x (by simpa using hc) (by simpa using hx)
theorem vr_bool_eq {w : World} {σ : List OB} {b : Bool} {x : Value} (h : VR w σ (.bool b) x) : x = .bool b := vr_bool h
end AF

/-
  PgM2: lists of breaks and what they cost.
-/
import Derived.Test.YtpnjpjibccmkiaaPgM
set_option linter.all false
set_option linter.unusedSimpArgs false
set_option linter.unusedVariables false
set_option linter.unusedSectionVars false
namespace P48

/-- What breaks cost from an index on, if all their lines are feasible, and each forced item is a break. -/
def path (l : List Item) (width : Int) : Nat → List Nat → Option Int
  | _, [] => none
  | frm, b :: r => if b = l.length then (if r = [] ∧ frm ≤ b then arc l width frm b else none)
    else if frm ≤ b ∧ b < l.length then (arc l width frm b).bind fun c => (path l width (b + 1) r).map (c + ·) else none

theorem path_last {l : List Item} {width : Int} : ∀ {bs : List Nat} {frm : Nat} {c : Int}, path l width frm bs = some c → frm ≤ l.length ∧ bs ≠ [] ∧ ∀ b ∈ bs, frm ≤ b ∧ b ≤ l.length := by
  intro bs
  induction bs with
  | nil => intro frm c h; cases h
  | cons b r ih =>
    intro frm c h
    unfold path at h
    split at h
    · split at h
      · rename_i e h2
        obtain ⟨rfl, h3⟩ := h2
        refine ⟨by omega, by simp, fun x hx => ?_⟩
        simp at hx; omega
      · cases h
    · split at h
      · rename_i h1 h2
        rw [Option.bind_eq_some_iff] at h
        obtain ⟨c1, h3, h4⟩ := h
        rw [Option.map_eq_some_iff] at h4
        obtain ⟨c2, h4, _⟩ := h4
        obtain ⟨g1, g2, g3⟩ := ih h4
        refine ⟨by omega, by simp, fun x hx => ?_⟩
        rcases List.mem_cons.1 hx with rfl | hx
        · omega
        · have := g3 x hx; omega
      · cases h

theorem path_ge {l : List Item} {width : Int} (hc : check l = 0) : ∀ {bs : List Nat} {frm : Nat} {c : Int}, path l width frm bs = some c → 0 ≤ (pots l width).getD frm 0 ∧ (pots l width).getD frm 0 ≤ c := by
  intro bs
  induction bs with
  | nil => intro frm c h; cases h
  | cons b r ih =>
    intro frm c h
    have hl := path_last h
    have pa := pots_at (width := width) hc frm hl.1
    unfold path at h
    split at h
    · rename_i e
      split at h
      · rename_i h2
        have hm : (b, c) ∈ arcs l width frm := mem_arcs.2 ⟨h2.2, by omega, h⟩
        have hb : behind l.length (pots l width) b = 0 := by simp [behind, e]
        rcases pa with ⟨_, a2⟩ | ⟨a1, _, a3⟩
        · have := a2 _ hm; simp only at this; omega
        · have := a3 _ hm (by simp only; omega)
          simp only at this
          omega
      · cases h
    · rename_i e
      split at h
      · rename_i h2
        rw [Option.bind_eq_some_iff] at h
        obtain ⟨c1, h3, h4⟩ := h
        rw [Option.map_eq_some_iff] at h4
        obtain ⟨c2, h4, h5⟩ := h4
        have ⟨i1, i2⟩ := ih h4
        have hm : (b, c1) ∈ arcs l width frm := mem_arcs.2 ⟨h2.1, by omega, h3⟩
        have hb : behind l.length (pots l width) b = (pots l width).getD (b + 1) 0 := by simp [behind, e]
        rcases pa with ⟨_, a2⟩ | ⟨a1, _, a3⟩
        · have := a2 _ hm; simp only at this; omega
        · have := a3 _ hm (by simp only; omega)
          simp only at this
          omega
      · cases h

theorem pick_some {l : List Item} {width : Int} (hc : check l = 0) {frm : Nat} (hf : frm ≤ l.length) (hp : 0 ≤ (pots l width).getD frm 0) : ∃ to c, pick l (pots l width) frm (arcs l width frm) = some to ∧ frm ≤ to ∧ to ≤ l.length ∧ arc l width frm to = some c ∧
    0 ≤ behind l.length (pots l width) to ∧ c + behind l.length (pots l width) to = (pots l width).getD frm 0 := by
  have pa := pots_at (width := width) hc frm hf
  rcases pa with ⟨a1, _⟩ | ⟨_, ⟨x, a2, a3, a4⟩, _⟩
  · omega
  · unfold pick
    cases hx : (arcs l width frm).find? (fun x => decide (0 ≤ behind l.length (pots l width) x.1 ∧ x.2 + behind l.length (pots l width) x.1 = (pots l width).getD frm 0)) with
    | none =>
      rw [List.find?_eq_none] at hx
      have := hx x a2
      simp only [decide_eq_true_eq] at this
      exact absurd ⟨a3, a4.symm⟩ this
    | some y =>
      obtain ⟨to, c⟩ := y
      have h1 := List.find?_some hx
      have h2 := List.mem_of_find?_eq_some hx
      simp only [decide_eq_true_eq] at h1
      obtain ⟨g1, g2, g3⟩ := mem_arcs.1 h2
      exact ⟨to, c, rfl, g1, g2, g3, h1.1, h1.2⟩

theorem brk_path {l : List Item} {width : Int} (hc : check l = 0) : ∀ (k frm : Nat), l.length + 1 - frm ≤ k → frm ≤ l.length → 0 ≤ (pots l width).getD frm 0 → path l width frm (brkGo l width (pots l width) k frm) = some ((pots l width).getD frm 0) := by
  intro k
  induction k with
  | zero => intro frm h1 h2; omega
  | succ k ih =>
    intro frm h1 h2 hp
    obtain ⟨to, c, e1, g1, g2, g3, g4, g5⟩ := pick_some hc h2 hp
    unfold brkGo
    rw [e1]
    simp only
    split
    · rename_i hlt
      have hb : behind l.length (pots l width) to = (pots l width).getD (to + 1) 0 := by simp [behind]; intro h; omega
      rw [hb] at g4 g5
      have := ih (to + 1) (by omega) (by omega) g4
      unfold path
      rw [if_neg (by omega), if_pos ⟨g1, hlt⟩, g3, this]
      simp only [Option.bind_some, Option.map_some]
      rw [g5]
    · have e : to = l.length := by omega
      have hb : behind l.length (pots l width) to = 0 := by simp [behind, e]
      unfold path
      rw [if_pos e, if_pos ⟨rfl, g1⟩, g3]
      congr 1
      omega

/-- Is the first list before the second one, or the same? -/
def lexLe : List Nat → List Nat → Bool
  | [], _ => true
  | _ :: _, [] => false
  | a :: l, b :: m => decide (a < b) || (decide (a = b) && lexLe l m)

theorem pick_first {l : List Item} {width : Int} {frm to : Nat} (h : pick l (pots l width) frm (arcs l width frm) = some to) : ∀ b c, frm ≤ b → b ≤ l.length → arc l width frm b = some c →
    0 ≤ behind l.length (pots l width) b → c + behind l.length (pots l width) b = (pots l width).getD frm 0 → to ≤ b := by
  intro b c h1 h2 h3 h4 h5
  unfold pick at h
  rw [Option.map_eq_some_iff] at h
  obtain ⟨⟨t, c'⟩, h, e⟩ := h
  simp only at e
  subst e
  unfold arcs at h
  rw [List.find?_filterMap, Option.bind_eq_some_iff] at h
  obtain ⟨t', h, e⟩ := h
  rw [Option.map_eq_some_iff] at e
  obtain ⟨c'', e1, e2⟩ := e
  cases e2
  rw [List.find?_range'_eq_some] at h
  obtain ⟨g1, g2, g3⟩ := h
  rcases Nat.lt_or_ge b t with hlt | hge
  · have := g3 b (by omega) (by omega)
    simp only [h3, Option.map_some, Option.any_some, Bool.not_eq_true', decide_eq_false_iff_not] at this
    exact absurd ⟨h4, h5⟩ this
  · exact hge

theorem brk_first {l : List Item} {width : Int} (hc : check l = 0) : ∀ (k frm : Nat) (bs : List Nat), l.length + 1 - frm ≤ k → frm ≤ l.length → path l width frm bs = some ((pots l width).getD frm 0) → lexLe (brkGo l width (pots l width) k frm) bs = true := by
  intro k
  induction k with
  | zero => intro frm bs h1 h2; omega
  | succ k ih =>
    intro frm bs h1 h2 hb
    have hge := path_ge hc hb
    obtain ⟨to, c, e1, g1, g2, g3, g4, g5⟩ := pick_some hc h2 hge.1
    unfold brkGo
    rw [e1]
    cases bs with
    | nil => cases hb
    | cons b r =>
      have key : to ≤ b := by
        have hl := path_last hb
        have h3 := hl.2.2 b (by simp)
        unfold path at hb
        split at hb
        · rename_i e
          split at hb
          · exact pick_first e1 b _ h3.1 h3.2 hb (by simp [behind, e]) (by simp [behind, e])
          · cases hb
        · rename_i e
          split at hb
          · rw [Option.bind_eq_some_iff] at hb
            obtain ⟨c1, h5, h6⟩ := hb
            rw [Option.map_eq_some_iff] at h6
            obtain ⟨c2, h6, h7⟩ := h6
            have ⟨i1, i2⟩ := path_ge hc h6
            have hbb : behind l.length (pots l width) b = (pots l width).getD (b + 1) 0 := by simp [behind, e]
            have hm : (b, c1) ∈ arcs l width frm := mem_arcs.2 ⟨h3.1, h3.2, h5⟩
            rcases pots_at (width := width) hc frm h2 with ⟨a1, _⟩ | ⟨_, _, a3⟩
            · omega
            · have := a3 _ hm (by simp only; omega)
              simp only at this
              exact pick_first e1 b c1 h3.1 h3.2 h5 (by omega) (by omega)
          · cases hb
      simp only
      by_cases e : to = b
      · subst e
        split
        · rename_i hlt
          simp only [lexLe, decide_true, Bool.true_and, Bool.or_eq_true]
          right
          have hbb : behind l.length (pots l width) to = (pots l width).getD (to + 1) 0 := by simp [behind]; intro h; omega
          refine ih (to + 1) r (by omega) (by omega) ?_
          unfold path at hb
          rw [if_neg (by omega), if_pos ⟨g1, hlt⟩, g3] at hb
          simp only [Option.bind_some, Option.map_eq_some_iff] at hb
          obtain ⟨c2, h6, h7⟩ := hb
          rw [h6]
          congr 1
          omega
        · simp only [lexLe]; simp
      · have : to < b := by omega
        split <;> simp [lexLe, this]
end P48

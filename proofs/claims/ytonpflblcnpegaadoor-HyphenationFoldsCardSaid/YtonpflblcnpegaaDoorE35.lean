import Derived.Test.YtonpflblcnpegaaDoorE34
set_option linter.all false
set_option linter.unusedSimpArgs false
set_option linter.unusedVariables false
set_option linter.unusedSectionVars false
open Go Go.Proofs AF HY
namespace HY
set_option maxRecDepth 100000
/-- A change of levels that raises every one to a level of its own. -/
def MaxLike (N : Nat) (T : List Int → List Int) (c : Nat → Int) : Prop := (∀ i, 0 ≤ c i ∧ c i ≤ 9) ∧ ∀ all, all.length = N → (∀ i, i < N → 0 ≤ all.getD i 0) → (T all).length = N ∧ ∀ i, i < N → (T all).getD i 0 = max (all.getD i 0) (c i)
theorem MaxLike.id (N : Nat) : MaxLike N (fun a => a) (fun _ => 0) := ⟨fun _ => by dsimp only; omega, fun all hl h0 => ⟨hl, fun i hi => by have := h0 i hi; dsimp only; omega⟩⟩
theorem MaxLike.comp {N : Nat} {T U : List Int → List Int} {c d : Nat → Int} (hT : MaxLike N T c) (hU : MaxLike N U d) : MaxLike N (fun a => U (T a)) (fun i => max (c i) (d i)) := by
  refine ⟨fun i => by have := hT.1 i; have := hU.1 i; dsimp only; omega, fun all hl h0 => ?_⟩
  obtain ⟨t1, t2⟩ := hT.2 all hl h0
  obtain ⟨u1, u2⟩ := hU.2 (T all) t1 (fun i hi => by rw [t2 i hi]; have := h0 i hi; omega)
  exact ⟨u1, fun i hi => by rw [u2 i hi, t2 i hi]; dsimp only; omega⟩
theorem getD_set (l : List Int) (a i : Nat) (x : Int) : (l.set a x).getD i 0 = if a = i ∧ i < l.length then x else l.getD i 0 := by
  rw [List.getD_eq_getElem?_getD, List.getD_eq_getElem?_getD, List.getElem?_set]
  by_cases e : a = i
  · subst e
    by_cases h : a < l.length
    · simp [h]
    · simp [h]
  · simp [e]
theorem MaxLike.set (N a : Nat) {x : Int} (h0 : 0 ≤ x) (h9 : x ≤ 9) : MaxLike N (fun all => all.set a (max (all.getD a 0) x)) (fun i => if a = i then x else 0) := by
  refine ⟨fun i => by dsimp only; split <;> omega, fun all hl hn => ⟨by simp [hl], fun i hi => ?_⟩⟩
  rw [getD_set]
  have := hn i hi
  by_cases e : a = i
  · subst e; rw [if_pos ⟨rfl, by omega⟩]; dsimp only; rw [if_pos rfl]
  · rw [if_neg (fun h => e h.1)]; dsimp only; rw [if_neg e]; omega
def okLev (r : List Int) : Prop := ∀ x ∈ r, 0 ≤ x ∧ x ≤ 9
theorem MaxLike.addAt {N : Nat} : ∀ (r : List Int) (a : Nat), okLev r → ∃ c, MaxLike N (fun all => addAt all a r) c := by
  intro r
  induction r with
  | nil => intro a _; exact ⟨_, MaxLike.id N⟩
  | cons x r ih =>
    intro a h
    obtain ⟨c, hc⟩ := ih (a + 1) (fun y hy => h y (List.mem_cons_of_mem _ hy))
    obtain ⟨h0, h9⟩ := h x List.mem_cons_self
    exact ⟨_, (MaxLike.set N a h0 h9).comp hc⟩
theorem MaxLike.foldl {α : Type} {N : Nat} {f : List Int → α → List Int} : ∀ (l : List α), (∀ x ∈ l, ∃ c, MaxLike N (fun a => f a x) c) → ∃ c, MaxLike N (fun a => l.foldl f a) c := by
  intro l
  induction l with
  | nil => intro _; exact ⟨_, MaxLike.id N⟩
  | cons x l ih =>
    intro h
    obtain ⟨c, hc⟩ := h x List.mem_cons_self
    obtain ⟨d, hd⟩ := ih (fun y hy => h y (List.mem_cons_of_mem _ hy))
    exact ⟨_, hc.comp hd⟩
def okLevs (ps : List Pat) : Prop := ∀ p ∈ ps, okLev p.levels
theorem MaxLike.pats {N : Nat} (l : List (List UInt8)) (ps : List Pat) (h : okLevs ps) : ∃ c, MaxLike N (fun a => ps.foldl (addPat l) a) c :=
  MaxLike.foldl ps (fun p hp => MaxLike.foldl _ (fun i _ => MaxLike.addAt p.levels i (h p hp)))
theorem zeros_get (N i : Nat) : (List.replicate N (0 : Int)).getD i 0 = 0 := by
  rw [List.getD_eq_getElem?_getD, List.getElem?_replicate]
  split <;> rfl
/-- The level of a place between two units. -/
theorem lev_get (ps : List Pat) (w : List UInt8) {k : Nat} (hk : k < (clus w).length - 1) : (levelsOf ps w).getD k 0 = (allLevels ps (unitsOf w)).getD (k + 2) 0 := by
  have hl := levelsOf_len ps w
  unfold levelsOf at hl ⊢
  rw [List.getD_eq_getElem?_getD, List.getElem?_take, List.getD_eq_getElem?_getD, List.getElem?_drop]
  rw [List.length_take] at hl
  rw [if_pos (by omega), Nat.add_comm 2 k]
theorem all_max (ps qs : List Pat) (l : List (List UInt8)) (hp : okLevs ps) (hq : okLevs qs) {i : Nat} (hi : i < l.length + 1) :
    (allLevels (ps ++ qs) l).getD i 0 = max ((allLevels ps l).getD i 0) ((allLevels qs l).getD i 0) ∧ 0 ≤ (allLevels ps l).getD i 0 ∧ (allLevels ps l).getD i 0 ≤ 9 := by
  obtain ⟨c, hc⟩ := MaxLike.pats (N := l.length + 1) l ps hp
  obtain ⟨d, hd⟩ := MaxLike.pats (N := l.length + 1) l qs hq
  have hz : (List.replicate (l.length + 1) (0 : Int)).length = l.length + 1 := by simp
  have hz0 : ∀ i, i < l.length + 1 → 0 ≤ (List.replicate (l.length + 1) (0 : Int)).getD i 0 := fun i _ => by rw [zeros_get]; omega
  have h1 := (hc.2 _ hz hz0).2 i hi
  have h2 := (hd.2 _ hz hz0).2 i hi
  have h3 := ((hc.comp hd).2 _ hz hz0).2 i hi
  rw [zeros_get] at h1 h2 h3
  have b1 := hc.1 i
  have b2 := hd.1 i
  unfold allLevels
  rw [List.foldl_append]
  simp only at h1 h2 h3
  rw [h1, h2, h3]
  omega
theorem lev_max (ps qs : List Pat) (w : List UInt8) (hp : okLevs ps) (hq : okLevs qs) {k : Nat} (hk : k < (clus w).length - 1) :
    (levelsOf (ps ++ qs) w).getD k 0 = max ((levelsOf ps w).getD k 0) ((levelsOf qs w).getD k 0) ∧ 0 ≤ (levelsOf ps w).getD k 0 ∧ (levelsOf ps w).getD k 0 ≤ 9 := by
  have hu : (unitsOf w).length = (clus w).length + 2 := by simp [unitsOf, clus_fold_len]
  have := all_max ps qs (unitsOf w) hp hq (i := k + 2) (by omega)
  rw [lev_get _ _ hk, lev_get _ _ hk, lev_get _ _ hk]
  exact this
theorem lev_none (w : List UInt8) {k : Nat} (hk : k < (clus w).length - 1) : (levelsOf [] w).getD k 0 = 0 := by
  rw [lev_get _ _ hk]
  exact zeros_get _ _
theorem list_ext {a b : List Int} (hl : a.length = b.length) (h : ∀ k, k < a.length → a.getD k 0 = b.getD k 0) : a = b := by
  apply List.ext_getElem hl
  intro j h1 h2
  have := h j h1
  rwa [List.getD_eq_getElem?_getD, List.getD_eq_getElem?_getD, List.getElem?_eq_getElem h1, List.getElem?_eq_getElem h2] at this
theorem lev_comm (ps qs : List Pat) (w : List UInt8) (hp : okLevs ps) (hq : okLevs qs) : levelsOf (ps ++ qs) w = levelsOf (qs ++ ps) w := by
  refine list_ext (by rw [levelsOf_len, levelsOf_len]) (fun k hk => ?_)
  rw [levelsOf_len] at hk
  rw [(lev_max ps qs w hp hq hk).1, (lev_max qs ps w hq hp hk).1]
  omega
theorem okLev_check {p : Pat} (h : checkPat p = 0) : okLev p.levels := by
  unfold checkPat at h
  repeat' (split at h; · cases h)
  rename_i h6
  intro x hx
  have : badLev x = false := by
    rw [Bool.eq_false_iff]
    intro hb
    exact h6 (.inl (List.any_eq_true.2 ⟨x, hx, hb⟩))
  unfold badLev at this
  simp at this
  omega
theorem firstE_all {ps : List Pat} (h : firstE ps = 0) : ∀ p ∈ ps, checkPat p = 0 := by
  induction ps with
  | nil => intro p hp; cases hp
  | cons a ps ih =>
    unfold firstE at h
    split at h
    · rename_i h0
      intro p hp
      rcases List.mem_cons.1 hp with rfl | hp
      · exact h0
      · exact ih h p hp
    · rename_i h0; exact absurd h h0
theorem firstE_of {ps : List Pat} (h : ∀ p ∈ ps, checkPat p = 0) : firstE ps = 0 := by
  induction ps with
  | nil => rfl
  | cons a ps ih =>
    unfold firstE
    rw [if_pos (h a List.mem_cons_self)]
    exact ih (fun p hp => h p (List.mem_cons_of_mem _ hp))
theorem check_all {ps : List Pat} (h : checkPats ps = 0) : ∀ p ∈ ps, checkPat p = 0 := by
  unfold checkPats at h
  split at h
  · cases h
  · exact firstE_all h
theorem check_of {ps : List Pat} (hl : ps.length ≤ 4096) (h : ∀ p ∈ ps, checkPat p = 0) : checkPats ps = 0 := by
  unfold checkPats
  rw [if_neg (by omega)]
  exact firstE_of h
structure Fine (ps : List Pat) : Prop where
  len : ps.length ≤ 8
  ok : okPats ps
  check : checkPats ps = 0
  all : ∀ p ∈ ps, checkPat p = 0
  lev : okLevs ps
theorem fine_of {ps : List Pat} (h : fineH ps = true) : Fine ps := by
  unfold fineH at h
  simp only [Bool.and_eq_true, decide_eq_true_eq, Bool.not_eq_true'] at h
  obtain ⟨h1, h2, h3⟩ := h
  have ha := check_all h3
  exact ⟨h1, okPats_great h1 h2, h3, ha, fun p hp => okLev_check (ha p hp)⟩
theorem okPats_app {ps qs : List Pat} (hp : okPats ps) (hq : okPats qs) (hl : ps.length + qs.length ≤ 1000) : okPats (ps ++ qs) := by
  refine ⟨by rw [List.length_append]; omega, fun i hi => ?_⟩
  rw [List.getD_eq_getElem?_getD, List.getElem?_append]
  split
  · rename_i h1
    have := hp.2 i h1
    rwa [List.getD_eq_getElem?_getD] at this
  · rename_i h1
    rw [List.length_append] at hi
    have := hq.2 (i - ps.length) (by omega)
    rwa [List.getD_eq_getElem?_getD] at this
theorem fine_app {ps qs : List Pat} (hp : Fine ps) (hq : Fine qs) : okPats (ps ++ qs) ∧ checkPats (ps ++ qs) = 0 := by
  refine ⟨okPats_app hp.ok hq.ok (by have := hp.len; have := hq.len; omega), check_of (by rw [List.length_append]; have := hp.len; have := hq.len; omega) (fun p h => ?_)⟩
  rcases List.mem_append.1 h with h | h
  · exact hp.all p h
  · exact hq.all p h
end HY

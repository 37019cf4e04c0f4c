/-
  PgH: characters, clusters, words, in plain words of Lean.
-/
set_option linter.all false
set_option linter.unusedSimpArgs false
set_option linter.unusedVariables false
set_option linter.unusedSectionVars false
namespace HY
def kindI (n : Int) : Int :=
  if (97 ≤ n ∧ n ≤ 122) ∨ (65 ≤ n ∧ n ≤ 90) then 1
  else if n = 94 ∨ n = 126 ∨ n = 37 then 2
  else if 48 ≤ n ∧ n ≤ 57 then 3
  else if n = 39 then 4
  else if n = 32 then 6
  else if n = 46 ∨ n = 44 ∨ n = 59 ∨ n = 58 ∨ n = 33 ∨ n = 63 ∨ n = 40 ∨ n = 41 ∨ n = 45 then 5
  else 0
def kind (b : UInt8) : Int := kindI b.toNat
def ch (s : List UInt8) (i : Nat) : UInt8 := s.getD i 0
theorem ch_eq (s : List UInt8) (i : Nat) : (s[i]?).getD 0 = ch s i := by rw [ch, List.getD_eq_getElem?_getD]

/-- Clusters with their offsets: the present one, and the rest of the string. -/
def clusO (frm : Nat) (cur : List UInt8) : List UInt8 → List (Nat × List UInt8)
  | [] => [(frm, cur)]
  | c :: r => if kind c = 2 ∧ kind (ch cur 0) = 1 then clusO frm (cur ++ [c]) r else (frm, cur) :: clusO (frm + cur.length) [c] r
def clusters : List UInt8 → List (Nat × List UInt8)
  | [] => []
  | c :: r => clusO 0 [c] r
def clus (s : List UInt8) : List (List UInt8) := (clusters s).map (·.2)

theorem clusO_ne (frm : Nat) (cur r : List UInt8) : clusO frm cur r ≠ [] := by
  induction r generalizing frm cur with
  | nil => simp [clusO]
  | cons c r ih => simp only [clusO]; split; exact ih _ _; simp
/-- The clusters, one behind the other, are the string. -/
theorem clusO_join (frm : Nat) (cur r : List UInt8) : ((clusO frm cur r).map (·.2)).flatten = cur ++ r := by
  induction r generalizing frm cur with
  | nil => simp [clusO]
  | cons c r ih =>
    simp only [clusO]
    split
    · rw [ih]; simp
    · simp [ih]
theorem clus_join (s : List UInt8) : (clus s).flatten = s := by
  cases s with
  | nil => rfl
  | cons c r => simpa [clus, clusters] using clusO_join 0 [c] r
theorem clusO_mem {frm : Nat} {cur r : List UInt8} (hc : cur ≠ []) : ∀ x ∈ clusO frm cur r, x.2 ≠ [] := by
  induction r generalizing frm cur with
  | nil => intro x hx; simp [clusO] at hx; subst hx; exact hc
  | cons c r ih =>
    intro x hx
    simp only [clusO] at hx
    split at hx
    · exact ih (by simp) x hx
    · rcases List.mem_cons.1 hx with rfl | hx
      · exact hc
      · exact ih (by simp) x hx
theorem clus_ne {s : List UInt8} : ∀ x ∈ clus s, x ≠ [] := by
  cases s with
  | nil => intro x hx; simp [clus, clusters] at hx
  | cons c r =>
    intro x hx
    simp only [clus, clusters, List.mem_map] at hx
    obtain ⟨y, hy, rfl⟩ := hx
    exact clusO_mem (by simp) y hy

theorem flat_len {l : List (List UInt8)} (h : ∀ x ∈ l, x ≠ []) : l.length ≤ l.flatten.length := by
  induction l with
  | nil => simp
  | cons x l ih =>
    have h1 := ih (fun y hy => h y (by simp [hy]))
    have h2 : 0 < x.length := List.length_pos_iff.2 (h x (by simp))
    simp only [List.length_cons, List.flatten_cons, List.length_append]
    omega
theorem clus_len (s : List UInt8) : (clus s).length ≤ s.length := by
  have := flat_len (l := clus s) clus_ne
  rwa [clus_join] at this
/-- Which characters are marks that stand right. -/
def rightAt (s : List UInt8) : Nat → Bool
  | 0 => false
  | i + 1 => decide (kind (ch s (i + 1)) = 2) && (decide (kind (ch s i) = 1) || rightAt s i)
def rightL (s : List UInt8) : List Bool := (List.range s.length).map (rightAt s)
theorem rightL_get {s : List UInt8} {i : Nat} (h : i < s.length) : (rightL s).getD i false = rightAt s i := by simp [rightL, List.getD_eq_getElem?_getD, h]
/-- The cluster that has begun at f goes on up to i. -/
def inClus (s : List UInt8) (f i : Nat) : Prop := f < i ∧ (decide (kind (ch s (i - 1)) = 1) || rightAt s (i - 1)) = decide (kind (ch s f) = 1)
theorem inClus_right {s : List UInt8} {f i : Nat} (h : inClus s f i) : rightAt s i = (decide (kind (ch s i) = 2) && decide (kind (ch s f) = 1)) := by
  obtain ⟨h1, h2⟩ := h
  cases i with
  | zero => omega
  | succ i => simp only [rightAt]; rw [← h2]; rfl
theorem inClus_first (s : List UInt8) : inClus s 0 1 := ⟨by omega, by simp [rightAt]⟩
theorem inClus_go {s : List UInt8} {f i : Nat} (h : inClus s f i) (hr : rightAt s i = true) : inClus s f (i + 1) := by
  have h3 := inClus_right h
  rw [hr] at h3
  refine ⟨by have := h.1; omega, ?_⟩
  rw [Nat.add_sub_cancel, hr, Bool.or_true]
  symm at h3
  simp only [Bool.and_eq_true] at h3
  exact h3.2.symm
theorem inClus_new {s : List UInt8} {f i : Nat} (h : inClus s f i) (hr : rightAt s i = false) : inClus s i (i + 1) :=
  ⟨by omega, by rw [Nat.add_sub_cancel, hr, Bool.or_false]⟩

def badHead (c : List UInt8) : Bool := decide (kind (ch c 0) = 0) || decide (kind (ch c 0) = 2)
def checkC (s : List UInt8) : Int := if 65536 < s.length then 4 else if (clus s).any badHead then 11 else 0
def isWord (s : List UInt8) : Bool :=
  decide (0 < s.length) && decide (s.length ≤ 64) && decide (checkC s = 0) && (decide (kind (ch s 0) = 1) || decide (kind (ch s 0) = 3)) && !(s.any fun c => decide (kind c = 5) || decide (kind c = 6))
def foldB (c : UInt8) : UInt8 := if 65 ≤ c ∧ c ≤ 90 then c + 32 else c
def fold (s : List UInt8) : List UInt8 := s.map foldB
end HY

section
/-! the text PgS -/
/-
  PgS: what the functions of chapter 48 compute, in plain words of Lean.
-/
set_option linter.all false
set_option linter.unusedSimpArgs false
set_option linter.unusedVariables false
set_option linter.unusedSectionVars false
namespace P48
structure Item where
  kind : Int
  width : Int
  stretch : Int
  shrink : Int
  penalty : Int
  text : List UInt8
  deriving DecidableEq, Inhabited

def it (l : List Item) (i : Nat) : Item := l.getD i default
theorem it_eq {l : List Item} {i : Nat} (h : i < l.length) : it l i = l[i] := by simp [it, h]
theorem drop_it {l : List Item} {i : Nat} (h : i < l.length) : l.drop i = it l i :: l.drop (i + 1) := by
  rw [it_eq h]; exact List.drop_eq_getElem_cons h
theorem it_mem {l : List Item} {i : Nat} (h : i < l.length) : it l i ∈ l := by rw [it_eq h]; exact List.getElem_mem h

def isLen (n : Int) : Bool := decide (0 ≤ n) && decide (n ≤ 1073741824)

def checkItem (x : Item) : Int :=
  if x.kind < 1 ∨ 3 < x.kind then 8
  else if ¬ (isLen x.width = true ∧ isLen x.stretch = true ∧ isLen x.shrink = true) then 2
  else if x.penalty ≠ -10000 ∧ (x.penalty < 0 ∨ 10000 < x.penalty) then 2
  else if (x.kind ≠ 2 ∧ (x.stretch ≠ 0 ∨ x.shrink ≠ 0)) ∨ (x.kind ≠ 3 ∧ x.penalty ≠ 0) ∨ (x.kind = 2 ∧ x.text ≠ []) then 1
  else 0

def checkGo : List Item → Int → Int
  | [], s => if 1073741824 < s then 4 else 0
  | x :: r, s => if checkItem x = 0 then checkGo r (s + x.width + x.stretch + x.shrink) else checkItem x
def check (l : List Item) : Int := if 4096 < l.length then 4 else checkGo l 0
def checkW (l : List Item) (width : Int) : Int := if check l = 0 then (if isLen width then 0 else 2) else 1

def great (l : List Item) : Bool := l.any (fun x => decide (20 < x.text.length)) || decide (14 < l.length)
def fine (l : List Item) (width : Int) : Bool := !great l && decide (check l = 0) && isLen width

def forced (l : List Item) (i : Nat) : Bool := decide (i < l.length) && (decide ((it l i).kind = 3) && decide ((it l i).penalty = -10000))
def ends (l : List Item) (i : Nat) : Bool :=
  decide (i = l.length) || (decide ((it l i).kind = 2) && (decide (0 < i) && decide ((it l (i - 1)).kind = 1))) || (decide ((it l i).kind = 3) && decide ((it l i).penalty ≠ 10000))

def badness (change total : Int) : Int :=
  if change = 0 then 0 else if total ≤ 0 then 10000 else
    min 10000 (100 * (min (max change (-change)) 1073741824) ^ 3 / (min total 1073741824) ^ 3)

def atBreak (l : List Item) (to : Nat) : Bool := decide (to < l.length) && decide ((it l to).kind = 3)
def fit (l : List Item) (width n st sh : Int) (to : Nat) : Int × Int × Bool :=
  let change := width - (if atBreak l to then n + (it l to).width else n)
  if 0 ≤ change then (if to = l.length ∨ forced l to = true then (0, 0, true) else (badness change st, change, true))
  else if -change ≤ sh then (badness (-change) sh, change, true) else (0, 0, false)

def penalty (l : List Item) (to : Nat) : Int := if atBreak l to && !forced l to then (it l to).penalty else 0

def beginGo (l : List Item) : Nat → Nat → Nat
  | 0, i => i
  | k + 1, i => if (it l i).kind = 2 then beginGo l k (i + 1) else i
def begin_ (l : List Item) (frm to : Nat) : Nat := beginGo l (to - frm) frm

/-- The sum of a field over the items from one index to another one. -/
def sumGo (f : Item → Int) (l : List Item) : Nat → Nat → Int
  | 0, _ => 0
  | k + 1, i => (if (it l i).kind = 3 then 0 else f (it l i)) + sumGo f l k (i + 1)
def sumOf (f : Item → Int) (l : List Item) (a b : Nat) : Int := sumGo f l (b - a) a

def lineOf (l : List Item) (width : Int) (frm to : Nat) : Int × Int × Bool :=
  fit l width (sumOf Item.width l (begin_ l frm to) to) (sumOf Item.stretch l (begin_ l frm to) to) (sumOf Item.shrink l (begin_ l frm to) to) to

def free (l : List Item) (frm to : Nat) : Bool := (List.range' frm (to - frm)).all fun i => !forced l i
def cost (l : List Item) (width : Int) (frm to : Nat) : Option Int :=
  if (lineOf l width frm to).2.2 then some ((lineOf l width frm to).1 + penalty l to) else none
def arc (l : List Item) (width : Int) (frm to : Nat) : Option Int := if ends l to && free l frm to then cost l width frm to else none

/-- The lines from an index on. -/
def arcs (l : List Item) (width : Int) (frm : Nat) : List (Nat × Int) :=
  (List.range' frm (l.length + 1 - frm)).filterMap fun to => (arc l width frm to).map fun c => (to, c)

def behind (n : Nat) (p : List Int) (to : Nat) : Int := if to = n then 0 else p.getD (to + 1) 0
def least (n : Nat) (p : List Int) (a : List (Nat × Int)) : Int :=
  a.foldl (fun m x => if 0 ≤ behind n p x.1 ∧ (m < 0 ∨ x.2 + behind n p x.1 < m) then x.2 + behind n p x.1 else m) (-1)

/-- The table as it stands after the last k indices have been done. -/
def potsGo (l : List Item) (width : Int) : Nat → List Int
  | 0 => List.replicate (l.length + 1) 0
  | k + 1 => (potsGo l width k).set (l.length - k) (least l.length (potsGo l width k) (arcs l width (l.length - k)))
def pots (l : List Item) (width : Int) : List Int := potsGo l width (l.length + 1)

def pick (l : List Item) (p : List Int) (frm : Nat) (a : List (Nat × Int)) : Option Nat :=
  (a.find? fun x => decide (0 ≤ behind l.length p x.1 ∧ x.2 + behind l.length p x.1 = p.getD frm 0)).map (·.1)
def brkGo (l : List Item) (width : Int) (p : List Int) : Nat → Nat → List Nat
  | 0, _ => []
  | k + 1, frm => match pick l p frm (arcs l width frm) with
    | none => []
    | some to => if to < l.length then to :: brkGo l width p k (to + 1) else [to]
def brk (l : List Item) (width : Int) : List Nat := brkGo l width (pots l width) (l.length + 1) 0
end P48
end

section
/-! the text PgM -/
/-
  PgM: the potentials: what they are.
-/
namespace P48

/-- What there is to know of a table of potentials. -/
def PotAt (n : Nat) (p : List Int) (a : List (Nat × Int)) (m : Int) : Prop :=
  (m = -1 ∧ ∀ x ∈ a, behind n p x.1 < 0) ∨ (0 ≤ m ∧ (∃ x ∈ a, 0 ≤ behind n p x.1 ∧ m = x.2 + behind n p x.1) ∧ ∀ x ∈ a, 0 ≤ behind n p x.1 → m ≤ x.2 + behind n p x.1)

theorem least_go (n : Nat) (p : List Int) : ∀ (a : List (Nat × Int)) (m : Int), (∀ x ∈ a, 0 ≤ x.2) → (m = -1 ∨ 0 ≤ m) →
    let r := a.foldl (fun m x => if 0 ≤ behind n p x.1 ∧ (m < 0 ∨ x.2 + behind n p x.1 < m) then x.2 + behind n p x.1 else m) m
    (r = -1 ∧ m = -1 ∧ ∀ x ∈ a, behind n p x.1 < 0) ∨ (0 ≤ r ∧ (r = m ∨ ∃ x ∈ a, 0 ≤ behind n p x.1 ∧ r = x.2 + behind n p x.1) ∧ (0 ≤ m → r ≤ m) ∧ ∀ x ∈ a, 0 ≤ behind n p x.1 → r ≤ x.2 + behind n p x.1) := by
  intro a
  induction a with
  | nil =>
    intro m _ hm
    rcases hm with rfl | hm
    · left; simp
    · right; simp [hm]
  | cons y a ih =>
    intro m ha hm
    have hy : 0 ≤ y.2 := ha y (by simp)
    simp only [List.foldl_cons]
    split
    · rename_i hc
      obtain ⟨hc1, hc2⟩ := hc
      have := ih (y.2 + behind n p y.1) (fun x hx => ha x (by simp [hx])) (.inr (by omega))
      rcases this with ⟨h1, h2, h3⟩ | ⟨h1, h2, h3, h4⟩
      · omega
      · right
        have h3' := h3 (by omega)
        refine ⟨h1, .inr ?_, fun hm0 => by rcases hc2 with h | h <;> omega, fun x hx hb => ?_⟩
        · rcases h2 with h2 | ⟨x, hx, hb, he⟩
          · exact ⟨y, by simp, hc1, h2⟩
          · exact ⟨x, by simp [hx], hb, he⟩
        · rcases List.mem_cons.1 hx with rfl | hx
          · exact h3'
          · exact h4 x hx hb
    · rename_i hc
      have := ih m (fun x hx => ha x (by simp [hx])) hm
      rcases this with ⟨h1, h2, h3⟩ | ⟨h1, h2, h3, h4⟩
      · left
        refine ⟨h1, h2, fun x hx => ?_⟩
        rcases List.mem_cons.1 hx with rfl | hx
        · exact Int.not_le.1 fun hb => hc ⟨hb, .inl (by omega)⟩
        · exact h3 x hx
      · right
        refine ⟨h1, ?_, h3, fun x hx hb => ?_⟩
        · rcases h2 with h2 | ⟨x, hx, hb, he⟩
          · exact .inl h2
          · exact .inr ⟨x, by simp [hx], hb, he⟩
        · rcases List.mem_cons.1 hx with rfl | hx
          · have : ¬ (m < 0 ∨ x.2 + behind n p x.1 < m) := fun h => hc ⟨hb, h⟩
            have hm0 : 0 ≤ m := by omega
            have := h3 hm0
            omega
          · exact h4 x hx hb

theorem least_spec (n : Nat) (p : List Int) (a : List (Nat × Int)) (ha : ∀ x ∈ a, 0 ≤ x.2) : PotAt n p a (least n p a) := by
  have := least_go n p a (-1) ha (.inl rfl)
  rcases this with ⟨h1, _, h3⟩ | ⟨h1, h2, _, h4⟩
  · exact .inl ⟨h1, h3⟩
  · refine .inr ⟨h1, ?_, h4⟩
    rcases h2 with h2 | h2
    · omega
    · exact h2

theorem least_congr {n : Nat} {p q : List Int} {a : List (Nat × Int)} (h : ∀ x ∈ a, behind n p x.1 = behind n q x.1) : least n p a = least n q a := by
  unfold least
  generalize (-1 : Int) = m
  induction a generalizing m with
  | nil => rfl
  | cons y a ih =>
    simp only [List.foldl_cons]
    rw [h y (by simp)]
    exact ih (fun x hx => h x (by simp [hx])) _

theorem mem_arcs {l : List Item} {width : Int} {frm to : Nat} {c : Int} : (to, c) ∈ arcs l width frm ↔ frm ≤ to ∧ to ≤ l.length ∧ arc l width frm to = some c := by
  unfold arcs
  simp only [List.mem_filterMap, List.mem_range'_1, Option.map_eq_some_iff]
  constructor
  · rintro ⟨a, ⟨h1, h2⟩, c', h3, h4⟩
    cases h4
    exact ⟨h1, by omega, h3⟩
  · rintro ⟨h1, h2, h3⟩
    exact ⟨to, ⟨h1, by omega⟩, c, h3, rfl⟩

theorem potsGo_len (l : List Item) (width : Int) (k : Nat) : (potsGo l width k).length = l.length + 1 := by
  induction k with
  | zero => simp [potsGo]
  | succ k ih => simp [potsGo, ih]

theorem potsGo_get (l : List Item) (width : Int) (k : Nat) (hk : k ≤ l.length + 1) : ∀ j, l.length + 1 - k ≤ j → j ≤ l.length → (potsGo l width k).getD j 0 = least l.length (potsGo l width k) (arcs l width j) := by
  induction k with
  | zero => intro j h1 h2; omega
  | succ k ih =>
    intro j h1 h2
    have hl := potsGo_len l width k
    have same : ∀ i, l.length - k < i → (potsGo l width (k + 1)).getD i 0 = (potsGo l width k).getD i 0 := by
      intro i hi
      simp only [potsGo, List.getD_eq_getElem?_getD]
      rw [List.getElem?_set_ne (by omega)]
    have hb : ∀ x ∈ arcs l width j, behind l.length (potsGo l width (k + 1)) x.1 = behind l.length (potsGo l width k) x.1 := by
      rintro ⟨to, c⟩ hx
      obtain ⟨h3, h4, _⟩ := mem_arcs.1 hx
      simp only [behind]
      split
      · rfl
      · exact same _ (by omega)
    rw [least_congr hb]
    by_cases e : j = l.length - k
    · subst e
      simp only [potsGo, List.getD_eq_getElem?_getD]
      rw [List.getElem?_set_self (by omega)]
      rfl
    · rw [same j (by omega)]
      exact ih (by omega) j (by omega) h2

theorem pots_len (l : List Item) (width : Int) : (pots l width).length = l.length + 1 := potsGo_len l width _
theorem pots_get (l : List Item) (width : Int) (j : Nat) (hj : j ≤ l.length) : (pots l width).getD j 0 = least l.length (pots l width) (arcs l width j) :=
  potsGo_get l width _ (Nat.le_refl _) j (by omega) hj

theorem checkGo_ok : ∀ {l : List Item} {s : Int}, checkGo l s = 0 → ∀ x ∈ l, checkItem x = 0 := by
  intro l
  induction l with
  | nil => intro s _ x hx; simp at hx
  | cons y l ih =>
    intro s h x hx
    simp only [checkGo] at h
    split at h
    · rcases List.mem_cons.1 hx with rfl | hx
      · assumption
      · exact ih h x hx
    · contradiction
theorem check_ok {l : List Item} (h : check l = 0) : ∀ x ∈ l, checkItem x = 0 := by
  unfold check at h
  split at h
  · omega
  · exact checkGo_ok h

structure ItemOk (x : Item) : Prop where
  k1 : 1 ≤ x.kind
  k3 : x.kind ≤ 3
  w0 : 0 ≤ x.width
  w1 : x.width ≤ 1073741824
  s0 : 0 ≤ x.stretch
  s1 : x.stretch ≤ 1073741824
  h0 : 0 ≤ x.shrink
  h1 : x.shrink ≤ 1073741824
  p : x.penalty = -10000 ∨ (0 ≤ x.penalty ∧ x.penalty ≤ 10000)
  sz : x.kind ≠ 2 → x.stretch = 0 ∧ x.shrink = 0
  pz : x.kind ≠ 3 → x.penalty = 0
  tz : x.kind = 2 → x.text = []

theorem checkItem_iff {x : Item} : checkItem x = 0 ↔ ItemOk x := by
  unfold checkItem isLen
  constructor
  · intro h
    split at h
    · omega
    · split at h
      · omega
      · split at h
        · omega
        · split at h
          · omega
          · rename_i h1 h2 h3 h4
            simp only [Bool.and_eq_true, decide_eq_true_eq, Decidable.not_not] at h2
            simp only [not_or, not_and, Decidable.not_not] at h4
            refine ⟨by omega, by omega, by omega, by omega, by omega, by omega, by omega, by omega, by omega, fun h => ?_, fun h => h4.2.1 h, fun h => h4.2.2 h⟩
            have := h4.1 h
            omega
  · intro h
    obtain ⟨a1, a2, a3, a4, a5, a6, a7, a8, a9, b1, b2, b3⟩ := h
    rw [if_neg (by omega), if_neg (by simp only [Bool.and_eq_true, decide_eq_true_eq]; omega), if_neg (by omega), if_neg]
    rintro (⟨h, h'⟩ | ⟨h, h'⟩ | ⟨h, h'⟩)
    · have := b1 h; omega
    · exact h' (b2 h)
    · exact h' (b3 h)

theorem items_ok {l : List Item} (h : check l = 0) {i : Nat} (hi : i < l.length) : ItemOk (it l i) := checkItem_iff.1 (check_ok h _ (it_mem hi))

theorem badness_nonneg (c t : Int) : 0 ≤ badness c t ∧ badness c t ≤ 10000 := by
  unfold badness
  split
  · omega
  · split
    · omega
    · refine ⟨?_, Int.min_le_left _ _⟩
      rename_i h1 h2
      have h3 : 0 ≤ min (max c (-c)) 1073741824 := by omega
      have h4 : 0 ≤ min t 1073741824 := by omega
      have := Int.ediv_nonneg (Int.mul_nonneg (by omega : (0:Int) ≤ 100) (@Int.pow_nonneg _ 3 h3)) (@Int.pow_nonneg _ 3 h4)
      omega

theorem fit_nonneg (l : List Item) (width n st sh : Int) (to : Nat) : 0 ≤ (fit l width n st sh to).1 ∧ (fit l width n st sh to).1 ≤ 10000 := by
  unfold fit
  simp only
  generalize (width - (if atBreak l to then n + (it l to).width else n)) = d
  have h1 := badness_nonneg d st
  have h2 := badness_nonneg (-d) sh
  by_cases c1 : 0 ≤ d
  · rw [if_pos c1]
    split
    · simp
    · exact h1
  · rw [if_neg c1]
    split
    · exact h2
    · simp

theorem penalty_nonneg {l : List Item} (h : check l = 0) (to : Nat) : 0 ≤ penalty l to ∧ penalty l to ≤ 10000 := by
  unfold penalty atBreak forced
  split
  · rename_i hc
    simp only [Bool.and_eq_true, decide_eq_true_eq, Bool.not_eq_true', Bool.and_eq_false_iff, decide_eq_false_iff_not] at hc
    have := (items_ok h hc.1.1).p
    omega
  · omega

theorem arc_nonneg {l : List Item} {width : Int} (h : check l = 0) {a b : Nat} {c : Int} (hc : arc l width a b = some c) : 0 ≤ c ∧ c ≤ 20000 := by
  unfold arc cost at hc
  split at hc
  · split at hc
    · cases hc
      have h1 := fit_nonneg l width (sumOf Item.width l (begin_ l a b) b) (sumOf Item.stretch l (begin_ l a b) b) (sumOf Item.shrink l (begin_ l a b) b) b
      have h2 := penalty_nonneg h b
      unfold lineOf
      omega
    · cases hc
  · cases hc

theorem arcs_nonneg {l : List Item} {width : Int} (h : check l = 0) (j : Nat) : ∀ x ∈ arcs l width j, 0 ≤ x.2 := by
  rintro ⟨to, c⟩ hx
  exact (arc_nonneg h (mem_arcs.1 hx).2.2).1

theorem pots_at {l : List Item} {width : Int} (h : check l = 0) (j : Nat) (hj : j ≤ l.length) : PotAt l.length (pots l width) (arcs l width j) ((pots l width).getD j 0) := by
  rw [pots_get l width j hj]
  exact least_spec _ _ _ (arcs_nonneg h j)
end P48
end

section
/-! the text PgM2 -/
/-
  PgM2: lists of breaks and what they cost.
-/
namespace P48

/-- What breaks cost from an index on, if all their lines are feasible, and each forced item is a break. -/
def path (l : List Item) (width : Int) : Nat → List Nat → Option Int
  | _, [] => none
  | frm, b :: r => if b = l.length then (if r = [] ∧ frm ≤ b then arc l width frm b else none)
    else if frm ≤ b ∧ b < l.length then (arc l width frm b).bind fun c => (path l width (b + 1) r).map (c + ·) else none

theorem path_last {l : List Item} {width : Int} : ∀ {bs : List Nat} {frm : Nat} {c : Int}, path l width frm bs = some c → frm ≤ l.length ∧ bs ≠ [] ∧ ∀ b ∈ bs, frm ≤ b ∧ b ≤ l.length := by
  intro bs
  induction bs with
  | nil => intro frm c h; cases h
  | cons b r ih =>
    intro frm c h
    unfold path at h
    split at h
    · split at h
      · rename_i e h2
        obtain ⟨rfl, h3⟩ := h2
        refine ⟨by omega, by simp, fun x hx => ?_⟩
        simp at hx; omega
      · cases h
    · split at h
      · rename_i h1 h2
        rw [Option.bind_eq_some_iff] at h
        obtain ⟨c1, h3, h4⟩ := h
        rw [Option.map_eq_some_iff] at h4
        obtain ⟨c2, h4, _⟩ := h4
        obtain ⟨g1, g2, g3⟩ := ih h4
        refine ⟨by omega, by simp, fun x hx => ?_⟩
        rcases List.mem_cons.1 hx with rfl | hx
        · omega
        · have := g3 x hx; omega
      · cases h

theorem path_ge {l : List Item} {width : Int} (hc : check l = 0) : ∀ {bs : List Nat} {frm : Nat} {c : Int}, path l width frm bs = some c → 0 ≤ (pots l width).getD frm 0 ∧ (pots l width).getD frm 0 ≤ c := by
  intro bs
  induction bs with
  | nil => intro frm c h; cases h
  | cons b r ih =>
    intro frm c h
    have hl := path_last h
    have pa := pots_at (width := width) hc frm hl.1
    unfold path at h
    split at h
    · rename_i e
      split at h
      · rename_i h2
        have hm : (b, c) ∈ arcs l width frm := mem_arcs.2 ⟨h2.2, by omega, h⟩
        have hb : behind l.length (pots l width) b = 0 := by simp [behind, e]
        rcases pa with ⟨_, a2⟩ | ⟨a1, _, a3⟩
        · have := a2 _ hm; simp only at this; omega
        · have := a3 _ hm (by simp only; omega)
          simp only at this
          omega
      · cases h
    · rename_i e
      split at h
      · rename_i h2
        rw [Option.bind_eq_some_iff] at h
        obtain ⟨c1, h3, h4⟩ := h
        rw [Option.map_eq_some_iff] at h4
        obtain ⟨c2, h4, h5⟩ := h4
        have ⟨i1, i2⟩ := ih h4
        have hm : (b, c1) ∈ arcs l width frm := mem_arcs.2 ⟨h2.1, by omega, h3⟩
        have hb : behind l.length (pots l width) b = (pots l width).getD (b + 1) 0 := by simp [behind, e]
        rcases pa with ⟨_, a2⟩ | ⟨a1, _, a3⟩
        · have := a2 _ hm; simp only at this; omega
        · have := a3 _ hm (by simp only; omega)
          simp only at this
          omega
      · cases h

theorem pick_some {l : List Item} {width : Int} (hc : check l = 0) {frm : Nat} (hf : frm ≤ l.length) (hp : 0 ≤ (pots l width).getD frm 0) : ∃ to c, pick l (pots l width) frm (arcs l width frm) = some to ∧ frm ≤ to ∧ to ≤ l.length ∧ arc l width frm to = some c ∧
    0 ≤ behind l.length (pots l width) to ∧ c + behind l.length (pots l width) to = (pots l width).getD frm 0 := by
  have pa := pots_at (width := width) hc frm hf
  rcases pa with ⟨a1, _⟩ | ⟨_, ⟨x, a2, a3, a4⟩, _⟩
  · omega
  · unfold pick
    cases hx : (arcs l width frm).find? (fun x => decide (0 ≤ behind l.length (pots l width) x.1 ∧ x.2 + behind l.length (pots l width) x.1 = (pots l width).getD frm 0)) with
    | none =>
      rw [List.find?_eq_none] at hx
      have := hx x a2
      simp only [decide_eq_true_eq] at this
      exact absurd ⟨a3, a4.symm⟩ this
    | some y =>
      obtain ⟨to, c⟩ := y
      have h1 := List.find?_some hx
      have h2 := List.mem_of_find?_eq_some hx
      simp only [decide_eq_true_eq] at h1
      obtain ⟨g1, g2, g3⟩ := mem_arcs.1 h2
      exact ⟨to, c, rfl, g1, g2, g3, h1.1, h1.2⟩

theorem brk_path {l : List Item} {width : Int} (hc : check l = 0) : ∀ (k frm : Nat), l.length + 1 - frm ≤ k → frm ≤ l.length → 0 ≤ (pots l width).getD frm 0 → path l width frm (brkGo l width (pots l width) k frm) = some ((pots l width).getD frm 0) := by
  intro k
  induction k with
  | zero => intro frm h1 h2; omega
  | succ k ih =>
    intro frm h1 h2 hp
    obtain ⟨to, c, e1, g1, g2, g3, g4, g5⟩ := pick_some hc h2 hp
    unfold brkGo
    rw [e1]
    simp only
    split
    · rename_i hlt
      have hb : behind l.length (pots l width) to = (pots l width).getD (to + 1) 0 := by simp [behind]; intro h; omega
      rw [hb] at g4 g5
      have := ih (to + 1) (by omega) (by omega) g4
      unfold path
      rw [if_neg (by omega), if_pos ⟨g1, hlt⟩, g3, this]
      simp only [Option.bind_some, Option.map_some]
      rw [g5]
    · have e : to = l.length := by omega
      have hb : behind l.length (pots l width) to = 0 := by simp [behind, e]
      unfold path
      rw [if_pos e, if_pos ⟨rfl, g1⟩, g3]
      congr 1
      omega

/-- Is the first list before the second one, or the same? -/
def lexLe : List Nat → List Nat → Bool
  | [], _ => true
  | _ :: _, [] => false
  | a :: l, b :: m => decide (a < b) || (decide (a = b) && lexLe l m)

theorem pick_first {l : List Item} {width : Int} {frm to : Nat} (h : pick l (pots l width) frm (arcs l width frm) = some to) : ∀ b c, frm ≤ b → b ≤ l.length → arc l width frm b = some c →
    0 ≤ behind l.length (pots l width) b → c + behind l.length (pots l width) b = (pots l width).getD frm 0 → to ≤ b := by
  intro b c h1 h2 h3 h4 h5
  unfold pick at h
  rw [Option.map_eq_some_iff] at h
  obtain ⟨⟨t, c'⟩, h, e⟩ := h
  simp only at e
  subst e
  unfold arcs at h
  rw [List.find?_filterMap, Option.bind_eq_some_iff] at h
  obtain ⟨t', h, e⟩ := h
  rw [Option.map_eq_some_iff] at e
  obtain ⟨c'', e1, e2⟩ := e
  cases e2
  rw [List.find?_range'_eq_some] at h
  obtain ⟨g1, g2, g3⟩ := h
  rcases Nat.lt_or_ge b t with hlt | hge
  · have := g3 b (by omega) (by omega)
    simp only [h3, Option.map_some, Option.any_some, Bool.not_eq_true', decide_eq_false_iff_not] at this
    exact absurd ⟨h4, h5⟩ this
  · exact hge

theorem brk_first {l : List Item} {width : Int} (hc : check l = 0) : ∀ (k frm : Nat) (bs : List Nat), l.length + 1 - frm ≤ k → frm ≤ l.length → path l width frm bs = some ((pots l width).getD frm 0) → lexLe (brkGo l width (pots l width) k frm) bs = true := by
  intro k
  induction k with
  | zero => intro frm bs h1 h2; omega
  | succ k ih =>
    intro frm bs h1 h2 hb
    have hge := path_ge hc hb
    obtain ⟨to, c, e1, g1, g2, g3, g4, g5⟩ := pick_some hc h2 hge.1
    unfold brkGo
    rw [e1]
    cases bs with
    | nil => cases hb
    | cons b r =>
      have key : to ≤ b := by
        have hl := path_last hb
        have h3 := hl.2.2 b (by simp)
        unfold path at hb
        split at hb
        · rename_i e
          split at hb
          · exact pick_first e1 b _ h3.1 h3.2 hb (by simp [behind, e]) (by simp [behind, e])
          · cases hb
        · rename_i e
          split at hb
          · rw [Option.bind_eq_some_iff] at hb
            obtain ⟨c1, h5, h6⟩ := hb
            rw [Option.map_eq_some_iff] at h6
            obtain ⟨c2, h6, h7⟩ := h6
            have ⟨i1, i2⟩ := path_ge hc h6
            have hbb : behind l.length (pots l width) b = (pots l width).getD (b + 1) 0 := by simp [behind, e]
            have hm : (b, c1) ∈ arcs l width frm := mem_arcs.2 ⟨h3.1, h3.2, h5⟩
            rcases pots_at (width := width) hc frm h2 with ⟨a1, _⟩ | ⟨_, _, a3⟩
            · omega
            · have := a3 _ hm (by simp only; omega)
              simp only at this
              exact pick_first e1 b c1 h3.1 h3.2 h5 (by omega) (by omega)
          · cases hb
      simp only
      by_cases e : to = b
      · subst e
        split
        · rename_i hlt
          simp only [lexLe, decide_true, Bool.true_and, Bool.or_eq_true]
          right
          have hbb : behind l.length (pots l width) to = (pots l width).getD (to + 1) 0 := by simp [behind]; intro h; omega
          refine ih (to + 1) r (by omega) (by omega) ?_
          unfold path at hb
          rw [if_neg (by omega), if_pos ⟨g1, hlt⟩, g3] at hb
          simp only [Option.bind_some, Option.map_eq_some_iff] at hb
          obtain ⟨c2, h6, h7⟩ := hb
          rw [h6]
          congr 1
          omega
        · simp only [lexLe]; simp
      · have : to < b := by omega
        split <;> simp [lexLe, this]
end P48
end

section
/-! the text PgM3 -/
/-
  PgM3: lists of breaks: the two ways to say what they are; lines.
-/
namespace P48

def asc (l : List Item) : Int → List Int → Bool
  | _, [] => true
  | p, k :: r => (decide (0 ≤ k) && (decide (k ≤ l.length) && (decide (p < k) && ends l k.toNat))) && asc l k r
def allForced (l : List Item) (bs : List Int) : Bool := (List.range l.length).all fun i => !forced l i || bs.contains (i : Int)
def lastIs (l : List Item) (bs : List Int) : Bool := decide (bs.getLast? = some (l.length : Int))
def brokenS (l : List Item) (bs : List Int) : Bool := lastIs l bs && (asc l (-1) bs && allForced l bs)

def listGo (l : List Item) : Nat → List Int → Bool
  | _, [] => true
  | frm, b :: r => (decide ((frm : Int) ≤ b) && (decide (b ≤ l.length) && (ends l b.toNat && free l frm b.toNat))) && listGo l (b.toNat + 1) r
def listS (l : List Item) (bs : List Int) : Bool := listGo l 0 bs && lastIs l bs

structure Line where
  frm : Int
  to : Int
  badness : Int
  change : Int
  text : List UInt8
  deriving DecidableEq, Inhabited

/-- The text of the items from an index on. -/
def textGo (l : List Item) : Nat → Nat → List UInt8
  | 0, _ => []
  | k + 1, i => (if (it l i).kind = 1 then (it l i).text else if (it l i).kind = 2 then [32] else []) ++ textGo l k (i + 1)
def textOf (l : List Item) (a b : Nat) : List UInt8 := textGo l (b - a) a ++ (if atBreak l b then (it l b).text else [])
def mkLine (l : List Item) (width : Int) (frm to : Nat) : Line :=
  ⟨begin_ l frm to, to, (lineOf l width frm to).1, (lineOf l width frm to).2.1, textOf l (begin_ l frm to) to⟩
def linesGo (l : List Item) (width : Int) : Nat → List Nat → Option (List Line)
  | _, [] => some []
  | frm, b :: r => if (lineOf l width frm b).2.2 then (linesGo l width (b + 1) r).map (mkLine l width frm b :: ·) else none
def natsOf (bs : List Int) : List Nat := bs.map Int.toNat
def linesS (l : List Item) (width : Int) (bs : List Int) : List Line × Int :=
  if checkW l width = 0 then (if brokenS l bs then (match linesGo l width 0 (natsOf bs) with
    | some ls => (ls, 0)
    | none => ([], 21)) else ([], 23)) else ([], checkW l width)
def sumCost (l : List Item) : List Line → Int
  | [] => 0
  | x :: r => x.badness + penalty l x.to.toNat + sumCost l r
def costS (l : List Item) (width : Int) (bs : List Int) : Int × Int :=
  if (linesS l width bs).2 = 0 then (sumCost l (linesS l width bs).1, 0) else (0, (linesS l width bs).2)

theorem asc_gt {l : List Item} : ∀ {bs : List Int} {p : Int}, asc l p bs = true → ∀ b ∈ bs, p < b ∧ 0 ≤ b ∧ b ≤ l.length := by
  intro bs
  induction bs with
  | nil => intro p _ b hb; simp at hb
  | cons k r ih =>
    intro p h b hb
    simp only [asc, Bool.and_eq_true, decide_eq_true_eq] at h
    rcases List.mem_cons.1 hb with rfl | hb
    · omega
    · have := ih h.2 b hb
      omega

theorem free_iff {l : List Item} {a b : Nat} : free l a b = true ↔ ∀ i, a ≤ i → i < b → forced l i = false := by
  unfold free
  simp only [List.all_eq_true, List.mem_range'_1, Bool.not_eq_true']
  constructor
  · intro h i h1 h2; exact h i ⟨h1, by omega⟩
  · intro h i hi; exact h i hi.1 (by omega)

theorem list_asc {l : List Item} : ∀ {bs : List Int} {frm : Nat}, (asc l ((frm : Int) - 1) bs = true ∧ lastIs l bs = true ∧ (∀ i, frm ≤ i → i < l.length → forced l i = true → (i : Int) ∈ bs)) ↔ (listGo l frm bs = true ∧ lastIs l bs = true) := by
  intro bs
  induction bs with
  | nil => intro frm; simp [lastIs]
  | cons b r ih =>
    intro frm
    have last : r ≠ [] → lastIs l (b :: r) = lastIs l r := by
      intro hr
      cases r with
      | nil => exact absurd rfl hr
      | cons c r => simp [lastIs]
    simp only [asc, listGo, Bool.and_eq_true, decide_eq_true_eq]
    constructor
    · rintro ⟨⟨⟨h1, h2, h3, h4⟩, h5⟩, h6, h7⟩
      have hb : ((b.toNat : Nat) : Int) = b := Int.toNat_of_nonneg h1
      have hf : free l frm b.toNat = true := by
        rw [free_iff]
        intro i i1 i2
        cases hfi : forced l i with
        | false => rfl
        | true =>
          have hlt : i < l.length := by unfold forced at hfi; simp only [Bool.and_eq_true, decide_eq_true_eq] at hfi; exact hfi.1
          rcases List.mem_cons.1 (h7 i i1 hlt hfi) with e | hm
          · omega
          · have := asc_gt h5 _ hm; omega
      refine ⟨⟨⟨by omega, h2, h4, hf⟩, ?_⟩, h6⟩
      by_cases hr : r = []
      · subst hr; rfl
      · refine (ih.1 ⟨by rw [show ((b.toNat + 1 : Nat) : Int) - 1 = b by omega]; exact h5, by rw [← last hr]; exact h6, fun i i1 i2 i3 => ?_⟩).1
        rcases List.mem_cons.1 (h7 i (by omega) i2 i3) with e | hm
        · omega
        · exact hm
    · rintro ⟨⟨⟨h1, h2, h4, hf⟩, h5⟩, h6⟩
      have hb : ((b.toNat : Nat) : Int) = b := Int.toNat_of_nonneg (by omega)
      rw [free_iff] at hf
      by_cases hr : r = []
      · subst hr
        have e : b = l.length := by simpa [lastIs] using h6
        refine ⟨⟨⟨by omega, h2, by omega, h4⟩, rfl⟩, h6, fun i i1 i2 i3 => ?_⟩
        have := hf i i1 (by omega)
        rw [i3] at this
        cases this
      · have := ih.2 ⟨h5, by rw [← last hr]; exact h6⟩
        rw [show ((b.toNat + 1 : Nat) : Int) - 1 = b by omega] at this
        refine ⟨⟨⟨by omega, h2, by omega, h4⟩, this.1⟩, h6, fun i i1 i2 i3 => ?_⟩
        rcases Nat.lt_trichotomy i b.toNat with h | h | h
        · have := hf i i1 h
          rw [i3] at this
          cases this
        · rw [h, hb]; exact List.mem_cons_self
        · exact List.mem_cons_of_mem _ (this.2.2 i (by omega) i2 i3)

theorem broken_list (l : List Item) (bs : List Int) : brokenS l bs = listS l bs := by
  rw [Bool.eq_iff_iff]
  unfold brokenS listS
  simp only [Bool.and_eq_true]
  have := @list_asc l bs 0
  simp only [Int.natCast_zero, Int.zero_sub] at this
  rw [← this]
  unfold allForced
  simp only [List.all_eq_true, List.mem_range, Bool.or_eq_true, Bool.not_eq_true', List.contains_iff_mem]
  constructor
  · rintro ⟨h1, h2, h3⟩
    refine ⟨h2, h1, fun i _ i1 i2 => ?_⟩
    rcases h3 i i1 with h | h
    · rw [i2] at h; cases h
    · exact h
  · rintro ⟨h1, h2, h3⟩
    refine ⟨h2, h1, fun i i1 => ?_⟩
    cases hf : forced l i with
    | false => exact .inl rfl
    | true => exact .inr (h3 i (by omega) i1 hf)

/-- The cost of breaks, found by the lines. -/
theorem path_lines {l : List Item} {width : Int} : ∀ {bs : List Nat} {frm : Nat} {c : Int}, path l width frm bs = some c ↔
    (listGo l frm (bs.map Int.ofNat) = true ∧ lastIs l (bs.map Int.ofNat) = true ∧ ∃ ls, linesGo l width frm bs = some ls ∧ sumCost l ls = c) := by
  intro bs
  induction bs with
  | nil => intro frm c; simp [path, lastIs]
  | cons b r ih =>
    intro frm c
    have last : r ≠ [] → lastIs l ((b :: r).map Int.ofNat) = lastIs l (r.map Int.ofNat) := by
      intro hr
      cases r with
      | nil => exact absurd rfl hr
      | cons c r => simp [lastIs]
    simp only [List.map_cons, listGo, linesGo, path, Bool.and_eq_true, decide_eq_true_eq, Int.ofNat_eq_natCast, Int.toNat_natCast]
    by_cases hr : r = []
    · subst hr
      simp only [List.map_nil, listGo, linesGo, Option.map_some, lastIs, List.getLast?_singleton, Option.some.injEq, decide_eq_true_eq, true_and, and_true]
      by_cases e : b = l.length
      · subst e
        rw [if_pos rfl]
        by_cases hfb : frm ≤ l.length
        · rw [if_pos hfb]
          unfold arc cost
          have e1 : ends l l.length = true := by simp [ends]
          simp only [e1, Bool.true_and, true_and]
          by_cases h1 : free l frm l.length = true
          · rw [if_pos h1]
            by_cases h2 : (lineOf l width frm l.length).2.2 = true
            · rw [if_pos h2, if_pos h2]
              constructor
              · intro h; cases h; exact ⟨⟨by omega, by omega, h1⟩, _, rfl, by simp [sumCost, mkLine]⟩
              · rintro ⟨_, ls, h3, h4⟩; cases h3; simp [sumCost, mkLine] at h4; rw [h4]
            · rw [if_neg h2, if_neg h2]
              simp
          · rw [if_neg h1]
            constructor
            · intro h; cases h
            · rintro ⟨h, _⟩; exact absurd h.2.2 h1
        · rw [if_neg hfb]
          constructor
          · intro h; cases h
          · rintro ⟨h, _⟩; omega
      · rw [if_neg e]
        constructor
        · intro h
          split at h
          · simp [path] at h
          · cases h
        · rintro ⟨_, h, _⟩; exact absurd (by omega) e
    · have hlast := last hr
      simp only [List.map_cons, Int.ofNat_eq_natCast] at hlast
      rw [hlast]
      by_cases e : b = l.length
      · subst e
        rw [if_pos rfl, if_neg (fun h => hr h.1)]
        constructor
        · intro h; cases h
        · rintro ⟨⟨_, h⟩, h1, ls, h2, _⟩
          obtain ⟨a, r', rfl⟩ := List.exists_cons_of_ne_nil hr
          simp only [List.map_cons, listGo, Bool.and_eq_true, decide_eq_true_eq, Int.ofNat_eq_natCast] at h
          omega
      · rw [if_neg e]
        by_cases hc : frm ≤ b ∧ b < l.length
        · rw [if_pos hc]
          unfold arc cost
          simp only [Bool.and_eq_true]
          by_cases h1 : ends l b = true ∧ free l frm b = true
          · rw [if_pos h1]
            by_cases h2 : (lineOf l width frm b).2.2 = true
            · rw [if_pos h2, if_pos h2]
              simp only [Option.bind_some, Option.map_eq_some_iff]
              constructor
              · rintro ⟨c2, h3, h4⟩
                obtain ⟨g1, g2, ls, g3, g4⟩ := ih.1 h3
                exact ⟨⟨⟨by omega, by omega, h1.1, h1.2⟩, g1⟩, g2, _, ⟨ls, g3, rfl⟩, by simp [sumCost, mkLine, g4]; omega⟩
              · rintro ⟨⟨_, g1⟩, g2, ls, ⟨ls', g3, rfl⟩, g4⟩
                refine ⟨_, ih.2 ⟨g1, g2, ls', g3, rfl⟩, ?_⟩
                simp [sumCost, mkLine] at g4; omega
            · rw [if_neg h2, if_neg h2]
              simp
          · rw [if_neg h1]
            simp only [Option.bind_none]
            constructor
            · intro h; cases h
            · rintro ⟨⟨h, _⟩, _⟩; exact absurd ⟨h.2.2.1, h.2.2.2⟩ h1
        · rw [if_neg hc]
          constructor
          · intro h; cases h
          · rintro ⟨⟨h, _⟩, _⟩; omega

theorem natsOf_map (bs : List Nat) : natsOf (bs.map Int.ofNat) = bs := by simp [natsOf, Function.comp_def]

/-- The cost of breaks by the function Cost. -/
theorem cost_path {l : List Item} {width : Int} (hc : checkW l width = 0) (bs : List Nat) {c : Int} : path l width 0 bs = some c ↔ costS l width (bs.map Int.ofNat) = (c, 0) := by
  unfold costS linesS
  rw [if_pos hc, broken_list, path_lines, natsOf_map]
  unfold listS
  simp only [Bool.and_eq_true]
  cases hl : linesGo l width 0 bs with
  | none =>
    simp only [reduceCtorEq, false_and, exists_false, and_false, false_iff]
    intro h
    by_cases hh : listGo l 0 (bs.map Int.ofNat) = true ∧ lastIs l (bs.map Int.ofNat) = true
    · rw [if_pos hh] at h
      simp at h
    · rw [if_neg hh] at h
      simp at h
  | some ls =>
    by_cases hh : listGo l 0 (bs.map Int.ofNat) = true ∧ lastIs l (bs.map Int.ofNat) = true
    · rw [if_pos hh]
      simp [hh.1, hh.2]
    · rw [if_neg hh]
      simp
      intro h1 h2
      exact absurd ⟨h1, h2⟩ hh

theorem cost_err {l : List Item} {width : Int} (hc : checkW l width = 0) (bs : List Nat) (h : path l width 0 bs = none) : (costS l width (bs.map Int.ofNat)).2 ≠ 0 := by
  intro h2
  have : costS l width (bs.map Int.ofNat) = ((costS l width (bs.map Int.ofNat)).1, 0) := by rw [← h2]
  rw [← cost_path hc] at this
  rw [h] at this
  cases this
end P48
end

section
/-! the text PgM4 -/
/-
  PgM4: where a line begins; the sums of a line.
-/
namespace P48
theorem beginGo_le (l : List Item) (k i : Nat) : i ≤ beginGo l k i ∧ beginGo l k i ≤ i + k := by
  induction k generalizing i with
  | zero => simp [beginGo]
  | succ k ih =>
    unfold beginGo
    split
    · have := ih (i + 1); omega
    · omega
theorem beginGo_min (l : List Item) (k m i : Nat) : beginGo l k i = min (beginGo l (k + m) i) (i + k) := by
  induction k generalizing i with
  | zero => have := beginGo_le l (0 + m) i; simp only [beginGo]; omega
  | succ k ih =>
    rw [show k + 1 + m = k + m + 1 by omega]
    unfold beginGo
    split
    · rw [ih (i + 1)]; omega
    · omega
theorem begin_min (l : List Item) {a b n : Nat} (h1 : a ≤ b) (h2 : b ≤ n) : begin_ l a b = min (begin_ l a n) b := by
  unfold begin_
  have := beginGo_min l (b - a) (n - b) a
  rw [show b - a + (n - b) = n - a by omega] at this
  omega
theorem begin_le (l : List Item) {a b : Nat} (h : a ≤ b) : a ≤ begin_ l a b ∧ begin_ l a b ≤ b := by
  unfold begin_
  have := beginGo_le l (b - a) a
  omega
theorem sumGo_snoc (f : Item → Int) (l : List Item) (k i : Nat) : sumGo f l (k + 1) i = sumGo f l k i + (if (it l (i + k)).kind = 3 then 0 else f (it l (i + k))) := by
  induction k generalizing i with
  | zero => simp [sumGo]
  | succ k ih =>
    rw [sumGo, ih (i + 1), show i + 1 + k = i + (k + 1) by omega]
    conv => rhs; rw [sumGo]
    omega
theorem sumOf_snoc (f : Item → Int) (l : List Item) {a b : Nat} (h : a ≤ b) : sumOf f l a (b + 1) = sumOf f l a b + (if (it l b).kind = 3 then 0 else f (it l b)) := by
  unfold sumOf
  rw [show b + 1 - a = b - a + 1 by omega, sumGo_snoc, show a + (b - a) = b by omega]
theorem sumOf_self (f : Item → Int) (l : List Item) (a : Nat) : sumOf f l a a = 0 := by unfold sumOf; simp [sumGo]
theorem sumGo_bound (f : Item → Int) (l : List Item) (hf : ∀ i, 0 ≤ f (it l i) ∧ f (it l i) ≤ 1073741824) (k i : Nat) : 0 ≤ sumGo f l k i ∧ sumGo f l k i ≤ k * 1073741824 := by
  induction k generalizing i with
  | zero => simp [sumGo]
  | succ k ih =>
    have h1 := ih (i + 1)
    have h2 := hf i
    unfold sumGo
    split <;> omega
theorem sumOf_bound (f : Item → Int) (l : List Item) (hf : ∀ i, 0 ≤ f (it l i) ∧ f (it l i) ≤ 1073741824) (a b : Nat) (h : b ≤ 300) : 0 ≤ sumOf f l a b ∧ sumOf f l a b ≤ 400000000000 := by
  have := sumGo_bound f l hf (b - a) a
  unfold sumOf
  omega
end P48
namespace P48
theorem least_bound {n : Nat} {p : List Int} {a : List (Nat × Int)} {B : Int} (ha : ∀ x ∈ a, 0 ≤ x.2) (hB : -1 ≤ B) (hb : ∀ x ∈ a, x.2 + behind n p x.1 ≤ B) : -1 ≤ least n p a ∧ least n p a ≤ B := by
  rcases least_spec n p a ha with ⟨h1, _⟩ | ⟨h1, ⟨x, h2, h3, h4⟩, _⟩
  · omega
  · have := hb x h2; omega
theorem arc_bound {l : List Item} {width : Int} (hv : ∀ i, i < l.length → ItemOk (it l i)) {a b : Nat} {c : Int} (hc : arc l width a b = some c) : 0 ≤ c ∧ c ≤ 20000 := by
  have h2 : 0 ≤ penalty l b ∧ penalty l b ≤ 10000 := by
    unfold penalty atBreak forced
    split
    · rename_i hc
      simp only [Bool.and_eq_true, decide_eq_true_eq, Bool.not_eq_true', Bool.and_eq_false_iff, decide_eq_false_iff_not] at hc
      have := (hv b hc.1.1).p
      omega
    · omega
  unfold arc cost at hc
  split at hc
  · split at hc
    · cases hc
      have h1 := fit_nonneg l width (sumOf Item.width l (begin_ l a b) b) (sumOf Item.stretch l (begin_ l a b) b) (sumOf Item.shrink l (begin_ l a b) b) b
      unfold lineOf
      omega
    · cases hc
  · cases hc
theorem behind_bound {n : Nat} {p : List Int} {B : Int} (h : ∀ j, -1 ≤ p.getD j 0 ∧ p.getD j 0 ≤ B) (hB : 0 ≤ B) (to : Nat) : -1 ≤ behind n p to ∧ behind n p to ≤ B := by
  unfold behind
  split
  · omega
  · exact h _
theorem potsGo_bound {l : List Item} (hv : ∀ i, i < l.length → ItemOk (it l i)) (width : Int) (k : Nat) : ∀ j, -1 ≤ (potsGo l width k).getD j 0 ∧ (potsGo l width k).getD j 0 ≤ 20000 * k := by
  induction k with
  | zero =>
    intro j
    simp only [potsGo, List.getD_eq_getElem?_getD, List.getElem?_replicate]
    split <;> simp
  | succ k ih =>
    intro j
    simp only [potsGo, List.getD_eq_getElem?_getD, List.getElem?_set]
    split
    · split
      · simp only [Option.getD_some]
        refine least_bound (fun x hx => ?_) (by omega) (fun x hx => ?_)
        · obtain ⟨to, c⟩ := x
          exact (arc_bound hv (mem_arcs.1 hx).2.2).1
        · obtain ⟨to, c⟩ := x
          have h1 := (arc_bound hv (mem_arcs.1 hx).2.2).2
          have h2 := (behind_bound (n := l.length) ih (by omega) to).2
          simp only
          omega
      · simp; omega
    · have := ih j
      simp only [List.getD_eq_getElem?_getD] at this
      omega
end P48
end

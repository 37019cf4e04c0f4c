import Derived.Test.YtjijgafefdolkaaGreatDoorK8
import Derived.Test.YtjijgafefdolkaaGreatDoorK7
import Derived.Test.YtjijgafefdolkaaGreatDoorK2
import Derived.Test.YtjijgafefdolkaaGreatDoorK3
set_option linter.all false
set_option linter.unusedSimpArgs false
set_option linter.unusedVariables false
set_option linter.unusedSectionVars false
section
namespace P48
def asc (l : List Item) : Int → List Int → Bool
 | _, [] => true
 | p, k :: r => (decide (0 ≤ k) && (decide (k ≤ l.length) && (decide (p < k) && qdh l k.toNat))) && asc l k r
def jy (l : List Item) (bs : List Int) : Bool := (List.range l.length).all fun i => !zF l i || bs.contains (i : Int)
def jD (l : List Item) (bs : List Int) : Bool := decide (bs.getLast? = some (l.length : Int))
def ju (l : List Item) (bs : List Int) : Bool := jD l bs && (asc l (-1) bs && jy l bs)
def qcy (l : List Item) : Nat → List Int → Bool
 | _, [] => true
 | frm, b :: r => (decide ((frm : Int) ≤ b) && (decide (b ≤ l.length) && (qdh l b.toNat && qdQ l frm b.toNat))) && qcy l (b.toNat + 1) r
def qqm (l : List Item) (bs : List Int) : Bool := qcy l 0 bs && jD l bs
structure Line where
 frm : Int
 to : Int
 badness : Int
 change : Int
 text : List UInt8
 deriving DecidableEq, Inhabited
def zN (l : List Item) : Nat → Nat → List UInt8
 | 0, _ => []
 | k + 1, i => (if (it l i).kind = 1 then (it l i).text else if (it l i).kind = 2 then [32] else []) ++ zN l k (i + 1)
def qaG (l : List Item) (a b : Nat) : List UInt8 := zN l (b - a) a ++ (if zG l b then (it l b).text else [])
def jJ (l : List Item) (width : Int) (frm to : Nat) : Line :=
 ⟨qI l frm to, to, (jZ l width frm to).1, (jZ l width frm to).2.1, qaG l (qI l frm to) to⟩
def zk (l : List Item) (width : Int) : Nat → List Nat → Option (List Line)
 | _, [] => some []
 | frm, b :: r => if (jZ l width frm b).2.2 then (zk l width (b + 1) r).map (jJ l width frm b :: ·) else none
def ki (bs : List Int) : List Nat := bs.map Int.toNat
def jn (l : List Item) (width : Int) (bs : List Int) : List Line × Int :=
 if jb l width = 0 then (if ju l bs then (match zk l width 0 (ki bs) with
  | some ls => (ls, 0)
  | none => ([], 21)) else ([], 23)) else ([], jb l width)
def qck (l : List Item) : List Line → Int
 | [] => 0
 | x :: r => x.badness + penalty l x.to.toNat + qck l r
theorem quF {l : List Item} : ∀ {bs : List Int} {p : Int}, asc l p bs = true → ∀ b ∈ bs, p < b ∧ 0 ≤ b ∧ b ≤ l.length := by
 intro bs
 induction bs with
 | nil => intro p _ b hb; simp at hb
 | cons k r ih =>
  intro p h b hb
  simp only [asc, Bool.and_eq_true, decide_eq_true_eq] at h
  rcases List.mem_cons.1 hb with rfl | hb
  ·omega
  ·have := ih h.2 b hb
   omega
theorem qad {l : List Item} {a b : Nat} : qdQ l a b = true ↔ ∀ i, a ≤ i → i < b → zF l i = false := by
 unfold qdQ
 simp only [List.all_eq_true, List.mem_range'_1, Bool.not_eq_true']
 constructor
 ·intro h i h1 h2; exact h i ⟨h1, by omega⟩
 ·intro h i hi; exact h i hi.1 (by omega)
theorem qqn {l : List Item} : ∀ {bs : List Int} {frm : Nat}, (asc l ((frm : Int) - 1) bs = true ∧ jD l bs = true ∧ (∀ i, frm ≤ i → i < l.length → zF l i = true → (i : Int) ∈ bs)) ↔ (qcy l frm bs = true ∧ jD l bs = true) := by
 intro bs
 induction bs with
 | nil => intro frm; simp [jD]
 | cons b r ih =>
  intro frm
  have last : r ≠ [] → jD l (b :: r) = jD l r := by
   intro hr
   cases r with
   | nil => exact absurd rfl hr
   | cons c r => simp [jD]
  simp only [asc, qcy, Bool.and_eq_true, decide_eq_true_eq]
  constructor
  ·rintro ⟨⟨⟨h1, h2, h3, h4⟩, h5⟩, h6, h7⟩
   have hb : ((b.toNat : Nat) : Int) = b := Int.toNat_of_nonneg h1
   have hf : qdQ l frm b.toNat = true := by
    rw [qad]
    intro i i1 i2
    cases hfi : zF l i with
    | false => rfl
    | true =>
     have hlt : i < l.length := by unfold zF at hfi; simp only [Bool.and_eq_true, decide_eq_true_eq] at hfi; exact hfi.1
     rcases List.mem_cons.1 (h7 i i1 hlt hfi) with e | hm
     ·omega
     ·have := quF h5 _ hm; omega
   refine ⟨⟨⟨by omega, h2, h4, hf⟩, ?_⟩, h6⟩
   by_cases hr : r = []
   ·subst hr; rfl
   ·refine (ih.1 ⟨by rw [show ((b.toNat + 1 : Nat) : Int) - 1 = b by omega]; exact h5, by rw [← last hr]; exact h6, fun i i1 i2 i3 => ?_⟩).1
    rcases List.mem_cons.1 (h7 i (by omega) i2 i3) with e | hm
    ·omega
    ·exact hm
  ·rintro ⟨⟨⟨h1, h2, h4, hf⟩, h5⟩, h6⟩
   have hb : ((b.toNat : Nat) : Int) = b := Int.toNat_of_nonneg (by omega)
   rw [qad] at hf
   by_cases hr : r = []
   ·subst hr
    have e : b = l.length := by simpa [jD] using h6
    refine ⟨⟨⟨by omega, h2, by omega, h4⟩, rfl⟩, h6, fun i i1 i2 i3 => ?_⟩
    have := hf i i1 (by omega)
    rw [i3] at this
    cases this
   ·have := ih.2 ⟨h5, by rw [← last hr]; exact h6⟩
    rw [show ((b.toNat + 1 : Nat) : Int) - 1 = b by omega] at this
    refine ⟨⟨⟨by omega, h2, by omega, h4⟩, this.1⟩, h6, fun i i1 i2 i3 => ?_⟩
    rcases Nat.lt_trichotomy i b.toNat with h | h | h
    ·have := hf i i1 h
     rw [i3] at this
     cases this
    ·rw [h, hb]; exact List.mem_cons_self
    ·exact List.mem_cons_of_mem _ (this.2.2 i (by omega) i2 i3)
theorem qgK (l : List Item) (bs : List Int) : ju l bs = qqm l bs := by
 rw [Bool.eq_iff_iff]
 unfold ju qqm
 simp only [Bool.and_eq_true]
 have := @qqn l bs 0
 simp only [Int.natCast_zero, Int.zero_sub] at this
 rw [← this]
 unfold jy
 simp only [List.all_eq_true, List.mem_range, Bool.or_eq_true, Bool.not_eq_true', List.contains_iff_mem]
 constructor
 ·rintro ⟨h1, h2, h3⟩
  refine ⟨h2, h1, fun i _ i1 i2 => ?_⟩
  rcases h3 i i1 with h | h
  ·rw [i2] at h; cases h
  ·exact h
 ·rintro ⟨h1, h2, h3⟩
  refine ⟨h2, h1, fun i i1 => ?_⟩
  cases hf : zF l i with
  | false => exact .inl rfl
  | true => exact .inr (h3 i (by omega) i1 hf)
theorem qjC {l : List Item} {width : Int} : ∀ {bs : List Nat} {frm : Nat} {c : Int}, qr2 l width frm bs = some c ↔
  (qcy l frm (bs.map Int.ofNat) = true ∧ jD l (bs.map Int.ofNat) = true ∧ ∃ ls, zk l width frm bs = some ls ∧ qck l ls = c) := by
 intro bs
 induction bs with
 | nil => intro frm c; simp [qr2, jD]
 | cons b r ih =>
  intro frm c
  have last : r ≠ [] → jD l ((b :: r).map Int.ofNat) = jD l (r.map Int.ofNat) := by
   intro hr
   cases r with
   | nil => exact absurd rfl hr
   | cons c r => simp [jD]
  simp only [List.map_cons, qcy, zk, qr2, Bool.and_eq_true, decide_eq_true_eq, Int.ofNat_eq_natCast, Int.toNat_natCast]
  by_cases hr : r = []
  ·subst hr
   simp only [List.map_nil, qcy, zk, Option.map_some, jD, List.getLast?_singleton, Option.some.injEq, decide_eq_true_eq, true_and, and_true]
   by_cases e : b = l.length
   ·subst e
    rw [if_pos rfl]
    by_cases hfb : frm ≤ l.length
    ·rw [if_pos hfb]
     unfold arc qsz
     have e1 : qdh l l.length = true := by simp [qdh]
     simp only [e1, Bool.true_and, true_and]
     by_cases h1 : qdQ l frm l.length = true
     ·rw [if_pos h1]
      by_cases h2 : (jZ l width frm l.length).2.2 = true
      ·rw [if_pos h2, if_pos h2]
       constructor
       ·intro h; cases h; exact ⟨⟨by omega, by omega, h1⟩, _, rfl, by simp [qck, jJ]⟩
       ·rintro ⟨_, ls, h3, h4⟩; cases h3; simp [qck, jJ] at h4; rw [h4]
      ·rw [if_neg h2, if_neg h2]
       simp
     ·rw [if_neg h1]
      constructor
      ·intro h; cases h
      ·rintro ⟨h, _⟩; exact absurd h.2.2 h1
    ·rw [if_neg hfb]
     constructor
     ·intro h; cases h
     ·rintro ⟨h, _⟩; omega
   ·rw [if_neg e]
    constructor
    ·intro h
     split at h
     ·simp [qr2] at h
     ·cases h
    ·rintro ⟨_, h, _⟩; exact absurd (by omega) e
  ·have hlast := last hr
   simp only [List.map_cons, Int.ofNat_eq_natCast] at hlast
   rw [hlast]
   by_cases e : b = l.length
   ·subst e
    rw [if_pos rfl, if_neg (fun h => hr h.1)]
    constructor
    ·intro h; cases h
    ·rintro ⟨⟨_, h⟩, h1, ls, h2, _⟩
     obtain ⟨a, r', rfl⟩ := List.exists_cons_of_ne_nil hr
     simp only [List.map_cons, qcy, Bool.and_eq_true, decide_eq_true_eq, Int.ofNat_eq_natCast] at h
     omega
   ·rw [if_neg e]
    by_cases hc : frm ≤ b ∧ b < l.length
    ·rw [if_pos hc]
     unfold arc qsz
     simp only [Bool.and_eq_true]
     by_cases h1 : qdh l b = true ∧ qdQ l frm b = true
     ·rw [if_pos h1]
      by_cases h2 : (jZ l width frm b).2.2 = true
      ·rw [if_pos h2, if_pos h2]
       simp only [Option.bind_some, Option.map_eq_some_iff]
       constructor
       ·rintro ⟨c2, h3, h4⟩
        obtain ⟨g1, g2, ls, g3, g4⟩ := ih.1 h3
        exact ⟨⟨⟨by omega, by omega, h1.1, h1.2⟩, g1⟩, g2, _, ⟨ls, g3, rfl⟩, by simp [qck, jJ, g4]; omega⟩
       ·rintro ⟨⟨_, g1⟩, g2, ls, ⟨ls', g3, rfl⟩, g4⟩
        refine ⟨_, ih.2 ⟨g1, g2, ls', g3, rfl⟩, ?_⟩
        simp [qck, jJ] at g4; omega
      ·rw [if_neg h2, if_neg h2]
       simp
     ·rw [if_neg h1]
      simp only [Option.bind_none]
      constructor
      ·intro h; cases h
      ·rintro ⟨⟨h, _⟩, _⟩; exact absurd ⟨h.2.2.1, h.2.2.2⟩ h1
    ·rw [if_neg hc]
     constructor
     ·intro h; cases h
     ·rintro ⟨⟨h, _⟩, _⟩; omega
theorem qb5 (bs : List Nat) : ki (bs.map Int.ofNat) = bs := by simp [ki, Function.comp_def]
end P48
end
section
open Go Go.Proofs AF HY P48
namespace LN
set_option maxRecDepth 100000
def kU (x : P48.Line) : Ln := ⟨x.frm, x.to, x.badness, x.change, x.text⟩
def zd (k : Nat) : List Nat → Nat
 | [] => 0
 | b :: r => if k < b then 0 else zd k r + 1
theorem qbd {j k : Nat} (h : j ≤ k) : ∀ bs, zd j bs ≤ zd k bs := by
 intro bs
 induction bs with
 | nil => exact Nat.le_refl _
 | cons b r ih =>
  rw [zd, zd]
  split
  ·exact Nat.zero_le _
  ·rw [if_neg (by omega)]
   omega
theorem qmM {k : Nat} : ∀ {bs : List Nat}, (∃ b ∈ bs, k < b) → zd k bs < bs.length := by
 intro bs
 induction bs with
 | nil => rintro ⟨b, hb, _⟩; simp at hb
 | cons b r ih =>
  rintro ⟨b', hb', hk⟩
  rw [zd]
  split
  ·simp
  ·rename_i hn
   have := ih ⟨b', by rcases List.mem_cons.1 hb' with rfl | h; (· exact absurd hk hn); exact h, hk⟩
   rw [List.length_cons]
   omega
theorem qey (l : List It) : ∀ (n a : Nat), a ≤ zp l n a ∧ ∀ k, a ≤ k → (it l k).kind = 1 → zp l n a ≤ k := by
 intro n
 induction n with
 | zero => intro a; exact ⟨Nat.le_refl _, fun k hk _ => by simpa [zp] using hk⟩
 | succ n ih =>
  intro a
  rw [zp]
  split
  ·rename_i hg
   obtain ⟨h1, h2⟩ := ih (a + 1)
   refine ⟨by omega, fun k hk hb => h2 k ?_ hb⟩
   rcases Nat.eq_or_lt_of_le hk with rfl | h
   ·rw [hg] at hb; cases hb
   ·exact h
  ·exact ⟨Nat.le_refl _, fun k hk _ => hk⟩
theorem qcR (l : List It) : ∀ (n a : Nat), zp l n a ≤ a + n := by
 intro n
 induction n with
 | zero => intro a; exact Nat.le_refl _
 | succ n ih =>
  intro a
  rw [zp]
  split
  ·have := ih (a + 1); omega
  ·omega
theorem qjN {l : List It} {width : Int} {k : Nat} : ∀ (bs : List Nat) (frm n : Nat) (c : Int) (ls : List P48.Line), zk l width frm bs = some ls → k < frm → (∀ b ∈ bs, k < b) → qjM k (ls.map kU) n c = some c := by
 intro bs
 induction bs with
 | nil => intro frm n c ls h _ _; cases h; rfl
 | cons b r ih =>
  intro frm n c ls h hk hall
  rw [zk] at h
  split at h
  ·obtain ⟨ls', h', rfl⟩ := Option.map_eq_some_iff.1 h
   rw [List.map_cons, qjM]
   have hb : (k : Int) < (kU (jJ l width frm b)).frm := by
    show (k : Int) < ((qI l frm b : Nat) : Int)
    have := (qey l (b - frm) frm).1
    unfold qI
    omega
   rw [if_pos (.inl hb)]
   have hkb := hall b (by simp)
   exact ih (b + 1) (n + 1) c ls' h' (by omega) (fun b' hb' => hall b' (by simp [hb']))
  ·cases h
theorem qgh {l : List It} {width : Int} {k : Nat} (hbx : (it l k).kind = 1) : ∀ (bs : List Nat) (frm n : Nat) (ls : List P48.Line), zk l width frm bs = some ls → frm ≤ k → bs.Pairwise (· < ·) → (∀ b ∈ bs, frm ≤ b ∧ b ≠ k) → (∃ b ∈ bs, k < b) →
  qjM k (ls.map kU) n 0 = some ((n + zd k bs + 1 : Nat) : Int) := by
 intro bs
 induction bs with
 | nil => intro frm n ls _ _ _ _ ⟨b, hb, _⟩; simp at hb
 | cons b r ih =>
  intro frm n ls h hk hp hne hex
  rw [zk] at h
  split at h
  ·obtain ⟨ls', h', rfl⟩ := Option.map_eq_some_iff.1 h
   rw [List.map_cons, qjM, zd]
   obtain ⟨hfb, hbk⟩ := hne b (by simp)
   have ht : (kU (jJ l width frm b)).to = (b : Int) := rfl
   have hf : (kU (jJ l width frm b)).frm = ((qI l frm b : Nat) : Int) := rfl
   rw [ht, hf]
   by_cases g : k < b
   ·have := (qey l (b - frm) frm).2 k hk hbx
    rw [if_neg (by unfold qI; omega), if_neg (by omega), if_pos g, qjN r (b + 1) (n + 1) _ ls' h' (by omega) (fun b' hb' => by have := (List.pairwise_cons.1 hp).1 b' hb'; omega)]
    simp
   ·rw [if_pos (.inr (by omega)), if_neg g]
    have hp' := List.pairwise_cons.1 hp
    rw [ih (b + 1) (n + 1) ls' h' (by omega) hp'.2 (fun b' hb' => ⟨hp'.1 b' hb', (hne b' (by simp [hb'])).2⟩) (by
     obtain ⟨b', hb', hkb'⟩ := hex
     rcases List.mem_cons.1 hb' with rfl | hb'
     ·omega
     ·exact ⟨b', hb', hkb'⟩)]
    congr 2
    omega
  ·cases h
theorem qnD (ls : List Ln) (f : Nat → Nat) (hf : ∀ i j, i ≤ j → f i ≤ f j) {l : List It} (hs : ∀ k, k < l.length → (it l k).kind = 1 → qjM k ls 0 0 = some ((f k + 1 : Nat) : Int)) :
  ∀ (m k : Nat) (last : Int) (out : List Int), k + m = l.length → out.length = l.length → (∀ j, k ≤ j → last ≤ (f j + 1 : Nat)) → (∀ j, j < k → (it l j).kind = 1 → out.getD j 0 = (f j + 1 : Nat)) →
   ∃ R, jE ls (l.drop k) k last out = some R ∧ R.length = l.length ∧ ∀ j, j < l.length → (it l j).kind = 1 → R.getD j 0 = (f j + 1 : Nat) := by
 intro m
 induction m with
 | zero =>
  intro k last out hk ho _ hd
  have e : k = l.length := by omega
  subst e
  rw [List.drop_length, jE]
  exact ⟨out, rfl, ho, hd⟩
 | succ m ih =>
  intro k last out hk ho hl hd
  have hkl : k < l.length := by omega
  rw [qbY hkl, jE]
  by_cases hb : (it l k).kind = 1
  ·rw [if_neg (fun hc => hc hb), hs k hkl hb]
   simp only
   have := hl k (Nat.le_refl _)
   rw [if_neg (by omega)]
   refine ih (k + 1) _ _ (by omega) (by simp [ho]) (fun j hj => ?_) (fun j hj hbj => ?_)
   ·have := hf k j (by omega); omega
   ·rw [qcW]
    by_cases e : k = j
    ·subst e; rw [if_pos ⟨rfl, by omega⟩]
    ·rw [if_neg (by rintro ⟨h, _⟩; omega)]
     exact hd j (by omega) hbj
  ·rw [if_pos hb]
   exact ih (k + 1) last out (by omega) ho (fun j hj => hl j (by omega)) (fun j hj hbj => by
    by_cases e : j = k
    ·subst e; exact absurd hbj hb
    ·exact hd j (by omega) hbj)
theorem qo0 (l : List It) : ∀ i, (∀ p ∈ (qB l i).1, (∃ a b : Nat, p = ((a : Int), (b : Int)) ∧ a ≤ b ∧ b < i ∧ (it l a).kind = 1 ∧ (it l b).kind = 1)) ∧
  (0 ≤ (qB l i).2.1 → ∃ a b : Nat, (qB l i).2 = ((a : Int), (b : Int)) ∧ a ≤ b ∧ b < i ∧ (it l a).kind = 1 ∧ (it l b).kind = 1 ∧ ∀ p ∈ (qB l i).1, p.2 < (a : Int)) ∧
  (qB l i).1.Pairwise (fun p q => p.2 < q.1) := by
 intro i
 induction i with
 | zero => exact ⟨by simp [qB], by simp [qB], by simp [qB]⟩
 | succ i ih =>
  obtain ⟨h1, h2, h3⟩ := ih
  rw [qB]
  by_cases hk : (it l i).kind = 1
  ·rw [if_neg (fun hc => hc hk)]
   by_cases hc : qa1 l i = true
   ·rw [if_pos hc]
    have hc2 := hc
    unfold qa1 at hc2
    simp only [Bool.and_eq_true, decide_eq_true_eq] at hc2
    refine ⟨fun p hp => ?_, fun h0 => ?_, h3⟩
    ·obtain ⟨a, b, e, g1, g2, g3, g4⟩ := h1 p hp
     exact ⟨a, b, e, g1, by omega, g3, g4⟩
    ·obtain ⟨a, b, e, g1, g2, g3, g4, g5⟩ := h2 h0
     simp only
     have e1 : (qB l i).2.1 = (a : Int) := by rw [e]
     exact ⟨a, i, by rw [e1], by omega, by omega, g3, hk, g5⟩
   ·rw [if_neg hc]
    by_cases h0 : 0 ≤ (qB l i).2.1
    ·simp only
     rw [if_pos h0]
     obtain ⟨a, b, e, g1, g2, g3, g4, g5⟩ := h2 h0
     refine ⟨fun p hp => ?_, fun _ => ⟨i, i, rfl, Nat.le_refl _, by omega, hk, hk, fun p hp => ?_⟩, ?_⟩
     ·rcases List.mem_append.1 hp with hp | hp
      ·obtain ⟨a', b', e', k1, k2, k3, k4⟩ := h1 p hp
       exact ⟨a', b', e', k1, by omega, k3, k4⟩
      ·rw [List.mem_singleton] at hp
       exact ⟨a, b, by rw [hp, e], g1, by omega, g3, g4⟩
     ·rcases List.mem_append.1 hp with hp | hp
      ·obtain ⟨a', b', e', k1, k2, k3, k4⟩ := h1 p hp
       rw [e']; simp only; omega
      ·rw [List.mem_singleton] at hp
       rw [hp, e]; simp only; omega
     ·rw [List.pairwise_append]
      refine ⟨h3, by simp, fun p hp q hq => ?_⟩
      rw [List.mem_singleton] at hq
      rw [hq, e]
      exact g5 p hp
    ·simp only
     rw [if_neg h0]
     refine ⟨fun p hp => ?_, fun _ => ⟨i, i, rfl, Nat.le_refl _, by omega, hk, hk, fun p hp => ?_⟩, h3⟩
     ·obtain ⟨a', b', e', k1, k2, k3, k4⟩ := h1 p hp
      exact ⟨a', b', e', k1, by omega, k3, k4⟩
     ·obtain ⟨a', b', e', k1, k2, k3, k4⟩ := h1 p hp
      rw [e']; simp only; omega
  ·rw [if_pos hk]
   refine ⟨fun p hp => ?_, fun h0 => ?_, h3⟩
   ·obtain ⟨a, b, e, g1, g2, g3, g4⟩ := h1 p hp
    exact ⟨a, b, e, g1, by omega, g3, g4⟩
   ·obtain ⟨a, b, e, g1, g2, g3, g4, g5⟩ := h2 h0
    exact ⟨a, b, e, g1, by omega, g3, g4, g5⟩
theorem qkq (l : List It) : (∀ p ∈ zg l, ∃ a b : Nat, p = ((a : Int), (b : Int)) ∧ a ≤ b ∧ b < l.length ∧ (it l a).kind = 1 ∧ (it l b).kind = 1) ∧ (zg l).Pairwise (fun p q => p.2 < q.1) := by
 obtain ⟨h1, h2, h3⟩ := qo0 l l.length
 unfold zg
 split
 ·rename_i h0
  obtain ⟨a, b, e, g1, g2, g3, g4, g5⟩ := h2 h0
  refine ⟨fun p hp => ?_, ?_⟩
  ·rcases List.mem_append.1 hp with hp | hp
   ·exact h1 p hp
   ·rw [List.mem_singleton] at hp
    exact ⟨a, b, by rw [hp, e], g1, g2, g3, g4⟩
  ·rw [List.pairwise_append]
   refine ⟨h3, by simp, fun p hp q hq => ?_⟩
   rw [List.mem_singleton] at hq
   rw [hq, e]
   exact g5 p hp
 ·exact ⟨h1, h3⟩
end LN
end
section
open Go Go.Proofs AF HY
namespace HY
set_option maxRecDepth 100000
theorem v48 (kb vb kj v : Nat) (A : AV) (s : List UInt8) (u : UInt8) (h : List AObj) (hne : kj ≠ kb) (hk : qL kb h = some (.mem vb 122 [A, .osl kj v 1 0 s.length])) (hA : A = .nilp ∨ A = .op kb vb 0) (hj : qL kj h = some (bufO v s)) (hl : s.length + 1 ≤ 140737488355328) :
  qs Tryz.prog 79 [.op kb vb 0, .int .u8 u.toNat] h .nilif (qO kj (qO kb h (.mem vb 122 [.op kb vb 0, .osl kj (v + 1) 1 0 (s.length + 1)])) (bufO (v + 1) (s ++ [u]))) := by
 have hkl := zX hk
 have hjl := zX hj
 have hne' : kb ≠ kj := fun e => hne e.symm
 have hj0 : kj ≠ h.length := by omega
 have hj1 : kj ≠ h.length + 1 := by omega
 have hk1 : ∀ l, qL kb (h ++ l) = some (.mem vb 122 [A, .osl kj v 1 0 s.length]) := fun l => by rw [zV hkl, hk]
 refine qo qyw (by simp) ?_
 simp only [lcP, lnP, Nat.reduceAdd, Nat.reduceSub, List.replicate, caP, naP, List.append_nil]
 simp (disch := omega) only [qzI, go_sem, qc, dvP, mdP]
 refine qX (v81 kb vb A _ _ (hk1 _) hA) ⟨rfl, trivial⟩ ?_
 by_cases hs : s = []
 ·subst hs
  rw [bufO_nil] at hj
  simp (disch := omega) only [jR, jQ, kz, qeF, qeG, qeU, qeV, kX, qbC, kW, qaP, qaO, hj, qM, go_sem]
  repeat' first
   | (with_reducible refine And.intro ?_ ?_)
  all_goals first
   | omega
   | (rw [bne_iff_ne]; exact hj0)
   | (simp; done)
   | skip
  rw [bld_set hne', show AObj.mem (v + 1) 5 [AV.int IntKind.u8 u.toNat] = bufO (v + 1) [u] from (bufO_ne (s := [u]) (by simp) _).symm]
  exact qac ⟨trivial, trivial⟩ (by simp only [zl]) (bld_low hkl hjl) ⟨rfl, rfl⟩ (VLe.refl _)
 ·rw [bufO_ne hs] at hj
  simp (disch := omega) only [jR, jQ, kz, qeF, qeG, qeU, qeV, kX, qbC, kW, qaP, qaO, hj, jx, qM, go_sem]
  repeat' first
   | (with_reducible refine And.intro ?_ ?_)
  all_goals first
   | omega
   | (rw [bne_iff_ne]; exact hj0)
   | (simp [jx]; done)
   | skip
  rw [bld_set hne', List.take_of_length_le (by simp [jx]), show qT s ++ [AV.int IntKind.u8 u.toNat] = qT (s ++ [u]) from (bytesA_app s [u]).symm, ← bufO_ne (s := s ++ [u]) (by simp)]
  exact qac ⟨trivial, trivial⟩ (by simp only [zl]) (bld_low hkl hjl) ⟨rfl, rfl⟩ (VLe.refl _)
end HY
end
section
open Go Go.Proofs AF HY
theorem t78 (kb vb kj v : Nat) (A : AV) (s u : List UInt8) (h : List AObj) (hne : kj ≠ kb) (hk : qL kb h = some (.mem vb 122 [A, .osl kj v 1 0 s.length])) (hA : A = .nilp ∨ A = .op kb vb 0) (hj : qL kj h = some (bufO v s)) (hl : s.length + u.length ≤ 140737488355328) :
  qs Tryz.prog 78 [.op kb vb 0, .str u] h (.tup [.int .i64 u.length, .nilif]) (qO kj (qO kb h (.mem vb 122 [.op kb vb 0, .osl kj (v + 1) 1 0 (s.length + u.length)])) (bufO (v + 1) (s ++ u))) := v50 kb vb kj v A s u h hne hk hA hj hl
theorem t79 (kb vb kj v : Nat) (A : AV) (s : List UInt8) (u : UInt8) (h : List AObj) (hne : kj ≠ kb) (hk : qL kb h = some (.mem vb 122 [A, .osl kj v 1 0 s.length])) (hA : A = .nilp ∨ A = .op kb vb 0) (hj : qL kj h = some (bufO v s)) (hl : s.length + 1 ≤ 140737488355328) :
  qs Tryz.prog 79 [.op kb vb 0, .int .u8 u.toNat] h .nilif (qO kj (qO kb h (.mem vb 122 [.op kb vb 0, .osl kj (v + 1) 1 0 (s.length + 1)])) (bufO (v + 1) (s ++ [u]))) := v48 kb vb kj v A s u h hne hk hA hj hl
theorem t80 (kb vb kj v : Nat) (A : AV) (s : List UInt8) (h : List AObj) (hne : kj ≠ kb) (hk : qL kb h = some (.mem vb 122 [A, .osl kj v 1 0 s.length])) (hj : qL kj h = some (bufO v s)) :
  qs Tryz.prog 80 [.op kb vb 0] h (.str s) (qO kj h (.emp (v + 1))) := v52 kb vb kj v A s h hne hk hj
end
section
open Go Go.Proofs AF P48
set_option maxRecDepth 100000
abbrev It := P48.Item
def qH (x : It) : List AV := [.int .i64 x.kind, .int .i64 x.width, .int .i64 x.stretch, .int .i64 x.shrink, .int .i64 x.penalty, .str x.text]
def qu (l : List It) : AV := .sl l.length fun i => qH (it l i)
def zK (l : List Int) : AV := .sl l.length fun i => [.int .i64 (l.getD i 0)]
theorem qb0 (l : List It) : (qu l).flag = true := rfl
theorem qbk (l : List It) : (qu l).strip = qu l := rfl
theorem qdl (l : List Int) : (zK l).flag = true := rfl
theorem qcj (l : List Int) : (zK l).strip = zK l := rfl
attribute [go_sem] qb0 qbk qdl qcj
theorem t63 (n : Int) (h : List AObj) : qs Tryz.prog 35 [.int .i64 n] h (.bool (qbb n)) h := by
 refine qo qvX (by simp) ?_
 simp only [lcP, lnP, Nat.reduceAdd, Nat.reduceSub, List.replicate, caP, naP, List.append_nil]
 simp (disch := omega) only [qxJ, go_sem, qc, dvP, mdP]
 repeat' first
  | ((first | refine qe ?_ ?_ | refine qg ?_ ?_); (next => exact rvk); simp only [go_sem]; (first | exact VLe.refl _ | refine qh ?_ | refine qd ?_ | refine ql ?_ | skip))
  | with_reducible first | refine And.intro ?_ ?_ | intro _
theorem t72 (x : It) (h : List AObj) : qs Tryz.prog 69 [.agg (qH x)] h (.int .i64 (zw x)) h := by
 refine qo qv6 (by simp) ?_
 simp only [lcP, lnP, Nat.reduceAdd, Nat.reduceSub, List.replicate, caP, naP, List.append_nil]
 simp (disch := omega) only [qxN, qH, go_sem, qc, dvP, mdP]
 repeat' first
  | ((first | refine qj (t63 _ _) ?_ ?_); (next => exact flk); simp (disch := omega) only [go_sem, qc, dvP, mdP])
  | ((first | refine qn (fun _ => t63 _ _) ?_ ?_); (next => exact flk); simp (disch := omega) only [go_sem, qc, dvP, mdP])
  | ((first | refine qk (fun e => ⟨?_, t63 _ _⟩) ?_); (next => exact flk); simp (disch := omega) only [go_sem, qc, dvP, mdP])
  | ((first | refine qe ?_ ?_ | refine qg ?_ ?_); (next => exact rvk); simp only [go_sem]; (first | exact VLe.refl _ | refine qh ?_ | refine qd ?_ | refine ql ?_ | skip))
  | with_reducible first | refine And.intro ?_ ?_ | intro _
 all_goals first
  | omega
  | grind [zw]
theorem t43 (l : List It) (i : Nat) (h : List AObj) : qs Tryz.prog 75 [qu l, .int .i64 i] h (.bool (zF l i)) h := by
 refine qo qys (by simp) ?_
 simp only [lcP, lnP, Nat.reduceAdd, Nat.reduceSub, List.replicate, caP, naP, List.append_nil]
 simp (disch := omega) only [qzE, qu, qH, go_sem, qc, dvP, mdP]
 repeat' first
  | ((first | refine qe ?_ ?_ | refine qg ?_ ?_); (next => exact rvk); simp only [go_sem]; (first | exact VLe.refl _ | refine qh ?_ | refine qd ?_ | refine ql ?_ | skip))
  | with_reducible first | refine And.intro ?_ ?_ | intro _
 all_goals first
  | omega
  | grind [zF]
theorem t42 (l : List It) (i : Nat) (h : List AObj) (hi : i ≤ l.length) (hl : l.length ≤ 100000) : qs Tryz.prog 72 [qu l, .int .i64 i] h (.bool (qdh l i)) h := by
 refine qo qyp (by simp) ?_
 simp only [lcP, lnP, Nat.reduceAdd, Nat.reduceSub, List.replicate, caP, naP, List.append_nil]
 simp (disch := omega) only [qzB, qu, qH, go_sem, qc, dvP, mdP]
 repeat' first
  | ((first | refine qe ?_ ?_ | refine qg ?_ ?_); (next => exact rvk); simp only [go_sem]; (first | exact VLe.refl _ | refine qh ?_ | refine qd ?_ | refine ql ?_ | skip))
  | with_reducible first | refine And.intro ?_ ?_ | intro _
 all_goals try simp only [show ((i : Int) - 1).toNat = i - 1 by omega] at *
 all_goals first
  | omega
  | grind [qdh]
theorem t45 (l : List It) (i : Nat) (h : List AObj) : qs Tryz.prog 74 [qu l, .int .i64 i] h (.int .i64 (penalty l i)) h := by
 refine qo qyr (by simp) ?_
 simp only [lcP, lnP, Nat.reduceAdd, Nat.reduceSub, List.replicate, caP, naP, List.append_nil]
 simp (disch := omega) only [qzD, qu, qH, go_sem, qc, dvP, mdP]
 repeat' first
  | ((first | refine qj (t43 l i _) ?_ ?_); (next => exact flk); simp (disch := omega) only [go_sem, qc, dvP, mdP])
  | ((first | refine qn (fun _ => t43 l i _) ?_ ?_); (next => exact flk); simp (disch := omega) only [go_sem, qc, dvP, mdP])
  | ((first | refine qk (fun e => ⟨?_, t43 l i _⟩) ?_); (next => exact flk); simp (disch := omega) only [go_sem, qc, dvP, mdP])
  | ((first | refine qe ?_ ?_ | refine qg ?_ ?_); (next => exact rvk); simp only [go_sem]; (first | exact VLe.refl _ | refine qh ?_ | refine qd ?_ | refine ql ?_ | skip))
  | with_reducible first | refine And.intro ?_ ?_ | intro _
 all_goals first
  | omega
  | grind [penalty, zG, zF]
theorem t41 (n : Nat) (p : List Int) (i : Nat) (h : List AObj) (hp : p.length = n + 1) (hi : i ≤ n) (hn : n ≤ 1000000) : qs Tryz.prog 44 [zK p, .int .i64 i] h (.int .i64 (qS n p i)) h := by
 refine qo qyc (by simp) ?_
 simp only [lcP, lnP, Nat.reduceAdd, Nat.reduceSub, List.replicate, caP, naP, List.append_nil]
 simp (disch := omega) only [qzp, zK, go_sem, qc, dvP, mdP]
 repeat' first
  | ((first | refine qe ?_ ?_ | refine qg ?_ ?_); (next => exact rvk); simp only [go_sem]; (first | exact VLe.refl _ | refine qh ?_ | refine qd ?_ | refine ql ?_ | skip))
  | with_reducible first | refine And.intro ?_ ?_ | intro _
 all_goals try simp only [show ((i : Int) + 1).toNat = i + 1 by omega] at *
 all_goals first
  | omega
  | grind [qS]
theorem t75 (l : List It) (a b : Nat) (h : List AObj) (hab : a ≤ b) (hb : b ≤ l.length) (hl : l.length ≤ 100000) : qs Tryz.prog 71 [qu l, .int .i64 a, .int .i64 b] h (.int .i64 (qI l a b)) h := by
 refine qo qyo (by simp) ?_
 simp only [lcP, lnP, Nat.reduceAdd, Nat.reduceSub, List.replicate, caP, naP, List.append_nil]
 simp (disch := omega) only [qzA, qu, qH, go_sem, qc, dvP, mdP]
 refine qJ (T := fun i : Nat => qv 21 [(0, qu l), (1, .int .i64 i), (2, .int .i64 b)]) (H := fun _ => h) (inv := fun i => i ≤ b ∧ zp l (b - i) i = qI l a b) (m := fun i => b - i) a ⟨hab, rfl⟩ (Wk.temps ?_) ?_
 ·simp only [qu, qH, qv, List.foldl, List.replicate, go_sem, qr, qp, qm, qq]
  try (repeat' first | (with_reducible refine And.intro ?_ ?_) | (refine qh ?_; omega) | (refine qd ?_; rfl))
 ·rintro i ⟨hi1, hi⟩ K hK
  simp (disch := omega) only [qv, qu, qH, List.foldl, List.replicate, go_sem, qc, dvP, mdP]
  repeat' first
   | ((first | refine qe ?_ ?_ | refine qg ?_ ?_); (next => exact rvk); simp only [go_sem]; (first | exact VLe.refl _ | refine qh ?_ | refine qd ?_ | refine ql ?_ | skip))
   | with_reducible first | refine And.intro ?_ ?_ | intro _
  all_goals first
   | omega
   | skip
  ·rename_i h1
   refine hK _ _ (i + 1) ⟨by omega, ?_⟩ (by omega) (Wk.temps ?_)
   ·rw [show b - i = b - (i + 1) + 1 by omega] at hi
    simpa [zp, h1.2] using hi
   ·simp only [qu, qH, qv, List.foldl, List.replicate, go_sem, qr, qp, qm, qq]
    try (repeat' first | (with_reducible refine And.intro ?_ ?_) | (refine qh ?_; omega) | (refine qd ?_; rfl))
  ·rename_i h1
   rw [← hi]
   by_cases e : i < b
   ·rw [show b - i = b - (i + 1) + 1 by omega]
    simp [zp, h1 (by omega)]
   ·rw [show b - i = 0 by omega]; rfl
end
section
open Go Go.Proofs AF P48
set_option maxRecDepth 100000
theorem jG {n : Int} (h0 : 0 ≤ n) (h1 : n < 18446744073709551616) : IntKind.u64.wrap n = n := by
 have e1 : (2 : Int) ^ IntKind.bits IntKind.u64 = 18446744073709551616 := rfl
 have e3 : IntKind.signed IntKind.u64 = false := rfl
 unfold IntKind.wrap
 rw [e1, e3]
 simp only [Bool.false_and, Bool.false_eq_true, if_false]
 omega
theorem qo4 (n : Int) : IntKind.u64.wrap n = n % 18446744073709551616 := by
 have e1 : (2 : Int) ^ IntKind.bits IntKind.u64 = 18446744073709551616 := rfl
 have e3 : IntKind.signed IntKind.u64 = false := rfl
 unfold IntKind.wrap
 rw [e1, e3]
 simp only [Bool.false_and, Bool.false_eq_true, if_false]
theorem qpf {a : Int} (h0 : 0 ≤ a) (h1 : a < 18446744073709551616) : qxF .u64 a 4294967295 = a % 4294967296 := by
 obtain ⟨n, rfl⟩ := Int.eq_ofNat_of_zero_le h0
 have e : IntKind.u64.bits = 64 := rfl
 unfold qxF
 rw [e, BitVec.toNat_and, BitVec.toNat_ofInt, BitVec.toNat_ofInt]
 have e2 : ((n : Int) % ((2 ^ 64 : Nat) : Int)).toNat = n := by
  rw [show ((2 ^ 64 : Nat) : Int) = 18446744073709551616 by rfl]; omega
 have e3 : ((4294967295 : Int) % ((2 ^ 64 : Nat) : Int)).toNat = 2 ^ 32 - 1 := by rfl
 rw [e2, e3, Nat.and_two_pow_sub_one_eq_mod, jG (by omega) (by omega)]
 omega
theorem qwY {a : Int} : qyN .u64 a 32 = a / 4294967296 := by
 have e : (2 : Int) ^ (min (32 : Int).toNat IntKind.u64.bits) = 4294967296 := rfl
 unfold qyN
 rw [e, Int.fdiv_eq_ediv_of_nonneg _ (by omega)]
theorem qaz {a b : Int} (h0 : 0 ≤ a) (h1 : a < 4294967296) (h2 : 0 ≤ b) (h3 : b < 4294967296) : 0 ≤ a * b ∧ a * b ≤ 18446744065119617025 := by
 refine ⟨Int.mul_nonneg h0 h2, ?_⟩
 have := Int.mul_le_mul (show a ≤ 4294967295 by omega) (show b ≤ 4294967295 by omega) h2 (by omega)
 omega
theorem qvd {a b : Int} (h0 : 0 ≤ b) (h1 : b < 4294967296) : (a * 4294967296 + b) / 4294967296 = a := by omega
theorem qwu {a b : Int} (h0 : 0 ≤ b) (h1 : b < 4294967296) : (a * 4294967296 + b) % 4294967296 = b := by omega
theorem qyP (a b c d : Int) (h : List AObj) (a0 : 0 ≤ a) (a1 : a < 4294967296) (b0 : 0 ≤ b) (b1 : b < 4294967296) (c0 : 0 ≤ c) (c1 : c < 4294967296) (d0 : 0 ≤ d) (d1 : d < 4294967296) :
  qs Tryz.prog 142 [.int .u64 (a * 4294967296 + b), .int .u64 (c * 4294967296 + d)] h (.tup [.int .u64 (a * c + (a * d + b * d / 4294967296) / 4294967296 + ((a * d + b * d / 4294967296) % 4294967296 + b * c) / 4294967296), .int .u64 (IntKind.u64.wrap ((a * 4294967296 + b) * (c * 4294967296 + d)))]) h := by
 have p00 := qaz b0 b1 d0 d1
 have p10 := qaz a0 a1 d0 d1
 have p01 := qaz b0 b1 c0 c1
 have p11 := qaz a0 a1 c0 c1
 refine qo qvR (by simp) ?_
 simp only [lcP, lnP, Nat.reduceAdd, Nat.reduceSub, List.replicate, caP, naP, List.append_nil]
 simp only [qu1, go_sem]
 repeat' first
  | ((first | refine qe ?_ ?_ | refine qg ?_ ?_); (next => exact rvk); simp only [go_sem]; (first | exact VLe.refl _ | refine qh ?_ | refine qd ?_ | refine ql ?_ | skip))
  | with_reducible first | refine And.intro ?_ ?_ | intro _
 all_goals first
  | omega
  | skip
 simp (disch := omega) only [qpf, qwY, qvd, qwu, jG]
 exact VLe.refl _
theorem qAA (x y : Int) (h : List AObj) (hx0 : 0 ≤ x) (hx1 : x < 18446744073709551616) (hy0 : 0 ≤ y) (hy1 : y < 18446744073709551616) :
  qs Tryz.prog 142 [.int .u64 x, .int .u64 y] h (.tup [.int .u64 (x * y / 18446744073709551616), .int .u64 (x * y % 18446744073709551616)]) h := by
 have := qyP (x / 4294967296) (x % 4294967296) (y / 4294967296) (y % 4294967296) h (by omega) (by omega) (by omega) (by omega) (by omega) (by omega) (by omega) (by omega)
 rw [show x / 4294967296 * 4294967296 + x % 4294967296 = x by omega, show y / 4294967296 * 4294967296 + y % 4294967296 = y by omega, qo4] at this
 have e : x * y = (x / 4294967296) * (y / 4294967296) * 18446744073709551616 + ((x / 4294967296) * (y % 4294967296) + (x % 4294967296) * (y / 4294967296)) * 4294967296 + (x % 4294967296) * (y % 4294967296) := by
  have ex : x = x / 4294967296 * 4294967296 + x % 4294967296 := by omega
  have ey : y = y / 4294967296 * 4294967296 + y % 4294967296 := by omega
  generalize x / 4294967296 = a at *
  generalize x % 4294967296 = b at *
  generalize y / 4294967296 = c at *
  generalize y % 4294967296 = d at *
  subst ex ey
  grind
 have p00 := qaz (a := x % 4294967296) (b := y % 4294967296) (by omega) (by omega) (by omega) (by omega)
 have e2 : x * y / 18446744073709551616 = (x / 4294967296) * (y / 4294967296) + ((x / 4294967296) * (y % 4294967296) + (x % 4294967296) * (y % 4294967296) / 4294967296) / 4294967296 + (((x / 4294967296) * (y % 4294967296) + (x % 4294967296) * (y % 4294967296) / 4294967296) % 4294967296 + (x % 4294967296) * (y / 4294967296)) / 4294967296 := by
  generalize (x / 4294967296) * (y / 4294967296) = q11 at *
  generalize (x / 4294967296) * (y % 4294967296) = q10 at *
  generalize (x % 4294967296) * (y / 4294967296) = q01 at *
  generalize (x % 4294967296) * (y % 4294967296) = q00 at *
  clear this
  omega
 rw [e2]
 exact this
def wide (v : Int) : AV := .agg [.int .u64 (v / 18446744073709551616), .int .u64 (v % 18446744073709551616)]
theorem quA (v n : Int) (h : List AObj) (h0 : 0 ≤ v) (h1 : v * n < 340282366920938463463374607431768211456) (hn0 : 0 ≤ n) (hn1 : n < 18446744073709551616) (hv : v < 340282366920938463463374607431768211456) :
  qs Tryz.prog 132 [wide v, .int .u64 n] h (wide (v * n)) h := by
 have p0 : 0 ≤ v / 18446744073709551616 * n := Int.mul_nonneg (by omega) hn0
 have p1 : 0 ≤ v % 18446744073709551616 * n := Int.mul_nonneg (by omega) hn0
 have e : v * n = v / 18446744073709551616 * n * 18446744073709551616 + v % 18446744073709551616 * n := by
  have ev : v = v / 18446744073709551616 * 18446744073709551616 + v % 18446744073709551616 := by omega
  generalize v / 18446744073709551616 = a at *
  generalize v % 18446744073709551616 = b at *
  subst ev
  grind
 refine qo qvK (by simp) ?_
 simp only [lcP, lnP, Nat.reduceAdd, Nat.reduceSub, List.replicate, caP, naP, List.append_nil]
 simp only [quX, wide, go_sem]
 repeat' first
  | (refine qj (qAA _ _ _ (by omega) (by omega) hn0 hn1) ⟨rfl, rfl, trivial⟩ ?_; simp (disch := omega) only [go_sem, jG])
  | (with_reducible refine And.intro ?_ ?_)
  | (with_reducible intro _)
 all_goals first
  | omega
  | skip
 ·repeat' first
   | ((first | refine qe ?_ ?_ | refine qg ?_ ?_); (next => exact rvk); simp only [go_sem]; (first | exact VLe.refl _ | refine qh ?_ | refine qd ?_ | refine ql ?_ | skip))
   | with_reducible first | refine And.intro ?_ ?_ | intro _
  refine qsd (zU (qh ?_) (zU (qh ?_) j4.nil)) <;> omega
theorem qzZ (v u : Int) (h : List AObj) (h0 : 0 ≤ v) (h1 : 0 ≤ u) : qs Tryz.prog 133 [wide v, wide u] h (.bool (decide (u < v))) h := by
 refine qo qvL (by simp) ?_
 simp only [lcP, lnP, Nat.reduceAdd, Nat.reduceSub, List.replicate, caP, naP, List.append_nil]
 simp (disch := omega) only [quY, wide, go_sem, qc, dvP, mdP]
 repeat' first
  | ((first | refine qe ?_ ?_ | refine qg ?_ ?_); (next => exact rvk); simp only [go_sem]; (first | exact VLe.refl _ | refine qh ?_ | refine qd ?_ | refine ql ?_ | skip))
  | with_reducible first | refine And.intro ?_ ?_ | intro _
 all_goals first
  | omega
  | (rw [decide_eq_decide]; omega)
  | (rw [Bool.eq_iff_iff]; simp only [Bool.and_eq_true, Bool.or_eq_true, Bool.not_eq_true', decide_eq_true_eq, decide_eq_false_iff_not, Bool.and_eq_false_imp]; omega)
theorem qsk {c t lo hi : Int} (ht : 0 < t) (h0 : 0 ≤ lo) (h1 : hi ≤ 10001) (h2 : hi = lo + 1) (h3 : lo * t ≤ c) (h4 : hi = 10001 ∨ c < hi * t) : min 10000 (c / t) = lo := by
 subst h2
 have h5 : lo ≤ c / t := (Int.le_ediv_iff_mul_le ht).2 h3
 rcases h4 with h4 | h4
 ·omega
 ·have : c / t < lo + 1 := (Int.ediv_lt_iff_lt_mul ht).2 h4
  omega
theorem qd8 {c : Int} (h0 : 0 ≤ c) (h1 : c ≤ 1073741824) : 0 ≤ c * c ∧ c * c ≤ 1152921504606846976 ∧ 0 ≤ c * c * c ∧ c * c * c ≤ 1237940039285380274899124224 := by
 have a1 := Int.mul_nonneg h0 h0
 have a2 := Int.mul_le_mul h1 h1 h0 (by omega)
 have a3 := Int.mul_nonneg a1 h0
 have a4 := Int.mul_le_mul (show c * c ≤ 1152921504606846976 by omega) h1 h0 (by omega)
 omega
theorem t96 (c t : Int) (h : List AObj) (hc0 : 0 ≤ c) (hc1 : c ≤ 1000000000000) (ht0 : -1000000000000 ≤ t) (ht1 : t ≤ 1000000000000) : qs Tryz.prog 111 [.int .i64 c, .int .i64 t] h (.int .i64 (badness c t)) h := by
 have ew : ∀ n : Int, 0 ≤ n → n < 18446744073709551616 → (AV.agg [.int .u64 0, .int .u64 n]) = wide n := by
  intro n h0 h1; unfold wide; rw [Int.ediv_eq_zero_of_lt h0 h1, Int.emod_eq_of_lt h0 h1]
 obtain ⟨C, hC⟩ : ∃ C, C = min c 1073741824 := ⟨_, rfl⟩
 obtain ⟨T, hT⟩ : ∃ T, T = min t 1073741824 := ⟨_, rfl⟩
 obtain ⟨b1, b2, b3, b4⟩ := qd8 (c := C) (by omega) (by omega)
 by_cases c0 : c = 0
 ·refine qo qmp (by simp) ?_
  simp only [lcP, lnP, Nat.reduceAdd, Nat.reduceSub, List.replicate, caP, naP, List.append_nil]
  simp (disch := omega) only [qpp, jG, go_sem, qc, dvP, mdP]
  repeat' first
   | (with_reducible refine And.intro ?_ ?_)
   | (with_reducible intro _; first | (exfalso; omega) | skip)
  repeat' first
   | ((first | refine qe ?_ ?_ | refine qg ?_ ?_); (next => exact rvk); simp only [go_sem]; (first | exact VLe.refl _ | refine qh ?_ | refine qd ?_ | refine ql ?_ | skip))
   | with_reducible first | refine And.intro ?_ ?_ | intro _
  ·simp [badness, c0]
 by_cases t0 : t ≤ 0
 ·refine qo qmp (by simp) ?_
  simp only [lcP, lnP, Nat.reduceAdd, Nat.reduceSub, List.replicate, caP, naP, List.append_nil]
  simp (disch := omega) only [qpp, jG, go_sem, qc, dvP, mdP]
  repeat' first
   | (with_reducible refine And.intro ?_ ?_)
   | (with_reducible intro _; first | (exfalso; omega) | skip)
  repeat' first
   | ((first | refine qe ?_ ?_ | refine qg ?_ ?_); (next => exact rvk); simp only [go_sem]; (first | exact VLe.refl _ | refine qh ?_ | refine qd ?_ | refine ql ?_ | skip))
   | with_reducible first | refine And.intro ?_ ?_ | intro _
  ·simp [badness, c0, t0]
 obtain ⟨d1, d2, d3, d4⟩ := qd8 (c := T) (by omega) (by omega)
 have cpos : 0 < C := by omega
 have tpos : 0 < T * T * T := Int.mul_pos (Int.mul_pos (by omega) (by omega)) (by omega)
 have hb : badness c t = min 10000 (C * C * C * 100 / (T * T * T)) := by
  unfold badness
  rw [if_neg c0, if_neg t0, show max c (-c) = c by omega, ← hC, ← hT]
  congr 2 <;> grind
 rw [hb]
 refine qo qmp (by simp) ?_
 simp only [lcP, lnP, Nat.reduceAdd, Nat.reduceSub, List.replicate, caP, naP, List.append_nil]
 simp (disch := omega) only [qpp, jG, go_sem, qc, dvP, mdP]
 repeat' first
  | (with_reducible refine And.intro ?_ ?_)
  | (with_reducible intro _; first | (exfalso; omega) | skip)
 rw [← hC, ← hT]
 simp (disch := omega) only [jG, ew, wide]
 repeat' first
  | ((first | refine qj (quA _ _ _ (by omega) (by omega) (by omega) (by omega) (by omega)) ?_ ?_); (next => exact flk); simp (disch := omega) only [wide, go_sem, qc, dvP, mdP])
  | ((first | refine qk (fun e => ⟨?_, quA _ _ _ (by omega) (by omega) (by omega) (by omega) (by omega)⟩) ?_); (next => exact flk); simp (disch := omega) only [wide, go_sem, qc, dvP, mdP])
  | ((first | refine qe ?_ ?_ | refine qg ?_ ?_); (next => exact rvk); simp only [go_sem]; (first | exact VLe.refl _ | refine qh ?_ | refine qd ?_ | refine ql ?_ | skip))
  | with_reducible first | refine And.intro ?_ ?_ | intro _
 simp (disch := omega) only [jG, ew, wide]
 repeat' first
  | ((first | refine qj (quA _ _ _ (by omega) (by omega) (by omega) (by omega) (by omega)) ?_ ?_); (next => exact flk); simp (disch := omega) only [wide, go_sem, qc, dvP, mdP])
  | ((first | refine qk (fun e => ⟨?_, quA _ _ _ (by omega) (by omega) (by omega) (by omega) (by omega)⟩) ?_); (next => exact flk); simp (disch := omega) only [wide, go_sem, qc, dvP, mdP])
  | ((first | refine qe ?_ ?_ | refine qg ?_ ?_); (next => exact rvk); simp only [go_sem]; (first | exact VLe.refl _ | refine qh ?_ | refine qd ?_ | refine ql ?_ | skip))
  | with_reducible first | refine And.intro ?_ ?_ | intro _
 have hq : T * T * T * 10001 < 340282366920938463463374607431768211456 := by omega
 refine qJ (T := fun i : Int × Int => qv 57 [(7, .op h.length 1 0), (8, .op (h.length + 1) 1 0), (9, .int .i64 i.1), (10, .int .i64 i.2)])
  (H := fun _ => h ++ [.mem 1 172 [.int .u64 (T * T * T / 18446744073709551616), .int .u64 (T * T * T % 18446744073709551616)], .mem 1 172 [.int .u64 (C * C * C * 100 / 18446744073709551616), .int .u64 (C * C * C * 100 % 18446744073709551616)]])
  (inv := fun i => 0 ≤ i.1 ∧ i.1 < i.2 ∧ i.2 ≤ 10001 ∧ T * T * T * i.1 ≤ C * C * C * 100 ∧ (i.2 = 10001 ∨ C * C * C * 100 < T * T * T * i.2)) (m := fun i => (i.2 - i.1).toNat) (0, 10001)
  ⟨by omega, by omega, by omega, by omega, .inl rfl⟩ (Wk.temps ?_) ?_
 ·simp only [qv, List.foldl, List.replicate, go_sem, qr, qp, qm, qq]
  try (repeat' first | (with_reducible refine And.intro ?_ ?_) | (refine qh ?_; omega) | (refine qd ?_; rfl))
 ·rintro ⟨lo, hi⟩ ⟨i1, i2, i3, i4, i5⟩ K hK
  simp only at i1 i2 i3 i4 i5 hK
  obtain ⟨M, hM⟩ : ∃ M, M = (lo + hi) / 2 := ⟨_, rfl⟩
  have im : 0 ≤ M ∧ M ≤ 10000 ∧ lo ≤ M ∧ M < hi := by omega
  have q0 : 0 ≤ T * T * T * M ∧ T * T * T * M ≤ T * T * T * 10001 := ⟨Int.mul_nonneg (by omega) (by omega), Int.mul_le_mul_of_nonneg_left (by omega) (by omega)⟩
  simp (disch := omega) only [qv, List.foldl, List.replicate, jG, go_sem, qc, dvP, mdP]
  rw [← hM]
  repeat' first
   | ((first | refine qj (quA _ _ _ (by omega) (by omega) (by omega) (by omega) (by omega)) ?_ ?_ | refine qj (qzZ _ _ _ (by omega) (by omega)) ?_ ?_); (next => exact flk); simp (disch := omega) only [wide, jG, go_sem, qc, dvP, mdP])
   | ((first | refine qk (fun e => ⟨?_, quA _ _ _ (by omega) (by omega) (by omega) (by omega) (by omega)⟩) ?_ | refine qk (fun e => ⟨?_, qzZ _ _ _ (by omega) (by omega)⟩) ?_); (next => exact flk); simp (disch := omega) only [wide, jG, go_sem, qc, dvP, mdP])
   | ((first | refine qe ?_ ?_ | refine qg ?_ ?_); (next => exact rvk); simp only [go_sem]; (first | exact VLe.refl _ | refine qh ?_ | refine qd ?_ | refine ql ?_ | skip))
   | with_reducible first | refine And.intro ?_ ?_ | intro _
  all_goals first
   | omega
   | skip
  ·rename_i h1 h2
   refine hK _ _ (lo, M) ⟨i1, by simp only; omega, by simp only; omega, i4, .inr h2⟩ (by simp only; omega) (Wk.temps ?_)
   simp only [qv, List.foldl, List.replicate, go_sem, qr, qp, qm, qq]
   try (repeat' first | (with_reducible refine And.intro ?_ ?_) | (refine qh ?_; omega) | (refine qd ?_; rfl))
  ·rename_i h1 h2
   refine hK _ _ (M, hi) ⟨by simp only; omega, by simp only; omega, i3, by simp only; omega, i5⟩ (by simp only; omega) (Wk.temps ?_)
   simp only [qv, List.foldl, List.replicate, go_sem, qr, qp, qm, qq]
   try (repeat' first | (with_reducible refine And.intro ?_ ?_) | (refine qh ?_; omega) | (refine qd ?_; rfl))
  ·rename_i h1
   refine (qsk tpos i1 i3 (by omega) ?_ ?_).symm
   ·rw [Int.mul_comm lo]; exact i4
   ·rw [Int.mul_comm hi]; exact i5
end
section
open Go Go.Proofs AF P48
set_option maxRecDepth 100000
theorem qds (x : It) : (qH x).length = 6 := rfl
theorem qj7 (x : It) : List.take 6 (qH x) = qH x := rfl
attribute [go_sem] qds qj7
def qb4 (n st sh : Int) : List AV := [.int .i64 n, .int .i64 st, .int .i64 sh]
def sel (x : It) (f : It → Int) : Int := if x.kind = 3 then 0 else f x
theorem t77 (k v : Nat) (n st sh : Int) (x : It) (h : List AObj) (hk : qL k h = some (.mem v 111 (qb4 n st sh))) (hx : qdY x) (n0 : 0 ≤ n) (n1 : n ≤ 400000000000) (s0 : 0 ≤ st) (s1 : st ≤ 400000000000) (h0 : 0 ≤ sh) (h1 : sh ≤ 400000000000) :
  qs Tryz.prog 76 [.op k v 0, .agg (qH x)] h (.tup []) (qO k h (.mem v 111 (qb4 (n + sel x Item.width) (st + sel x Item.stretch) (sh + sel x Item.shrink)))) := by
 have hlt := zX hk
 obtain ⟨a1, a2, a3, a4, a5, a6, a7, a8, a9, b1, b2, b3⟩ := hx
 have hc := jK hk
 unfold qb4 at hk hc
 refine qo qyt (by simp) ?_
 simp only [lcP, lnP, Nat.reduceAdd, Nat.reduceSub, List.replicate, caP, naP, List.append_nil]
 simp (disch := omega) only [qzF, qH, zV, jR, qco, hk, hc, qhZ, qgP, qq1, go_sem, qc, dvP, mdP]
 repeat' first
  | (with_reducible refine And.intro ?_ ?_)
  | (with_reducible intro _)
 all_goals first
  | omega
  | skip
 ·rename_i h3
  refine qaL trivial zl (fun o ho => ?_) ⟨rfl, ?_⟩ (VLe.refl _)
  ·rcases qbF ho with h4 | rfl
   ·exact .inl h4
   ·right
    intro c hc
    simp at hc
    rcases hc with rfl | rfl | rfl <;> rfl
  ·simp [sel, h3, qb4]
 ·rename_i h3
  refine qaL trivial rfl (fun o ho => .inl ho) ⟨rfl, ?_⟩ (VLe.refl _)
  rw [qgj]
  rw [hk]; simp [sel, h3, qb4]
def qmh (r : Int × Int × Bool) : AV := .tup [.int .i64 r.1, .int .i64 r.2.1, .bool r.2.2]
structure Valid (l : List It) : Prop where
 len : l.length ≤ 300
 ok : ∀ i, i < l.length → qdY (it l i)
theorem Valid.num {l : List It} (hv : Valid l) (i : Nat) : (0 ≤ (it l i).width ∧ (it l i).width ≤ 1073741824) ∧ (0 ≤ (it l i).stretch ∧ (it l i).stretch ≤ 1073741824) ∧ (0 ≤ (it l i).shrink ∧ (it l i).shrink ≤ 1073741824) ∧ -10000 ≤ (it l i).penalty ∧ (it l i).penalty ≤ 10000 := by
 by_cases h : i < l.length
 ·obtain ⟨a1, a2, a3, a4, a5, a6, a7, a8, a9, b1, b2, b3⟩ := hv.ok i h
  omega
 ·unfold it
  rw [List.getD_eq_getElem?_getD, List.getElem?_eq_none (by omega)]
  decide
theorem Valid.of {l : List It} (hl : l.length ≤ 300) (hc : jk l = 0) : Valid l := ⟨hl, fun _ h => qh3 hc h⟩
theorem qse {a b : Int} {c : Bool} {r : Int × Int × Bool} (h : (a, b, c) = r) : VLe (.tup [.int .i64 a, .int .i64 b, .bool c]) (qmh r) := by subst h; exact VLe.refl _
theorem t76 (l : List It) (width n st sh : Int) (to : Nat) (h : List AObj) (hv : Valid l) (w0 : 0 ≤ width) (w1 : width ≤ 1073741824)
    (n0 : 0 ≤ n) (n1 : n ≤ 400000000000) (s0 : 0 ≤ st) (s1 : st ≤ 400000000000) (h0 : 0 ≤ sh) (h1 : sh ≤ 400000000000) :
    qs Tryz.prog 73 [qu l, .int .i64 width, .agg (qb4 n st sh), .int .i64 to] h (qmh (fit l width n st sh to)) h := by
  obtain ⟨⟨w2, w3⟩, _⟩ := hv.num to
  have hl := hv.len
  refine qo qyq (by simp) ?_
  simp only [lcP, lnP, Nat.reduceAdd, Nat.reduceSub, List.replicate, caP, naP, List.append_nil]
  simp (disch := omega) only [qzC, qu, qH, qb4, go_sem, qc, dvP, mdP]
  repeat' first
    | ((first | refine qj (t43 l to _) ?_ ?_ | refine qj (t96 _ _ _ (by omega) (by omega) (by omega) (by omega)) ?_ ?_); (next => exact flk); simp (disch := omega) only [go_sem, qc, dvP, mdP])
    | ((first | refine qn (fun _ => t43 l to _) ?_ ?_); (next => exact flk); simp (disch := omega) only [go_sem, qc, dvP, mdP])
    | ((first | refine qk (fun e => ⟨?_, t43 l to _⟩) ?_ | refine qk (fun e => ⟨?_, t96 _ _ _ (by omega) (by omega) (by omega) (by omega)⟩) ?_); (next => exact flk); simp (disch := omega) only [go_sem, qc, dvP, mdP])
    | ((first | refine qe ?_ ?_ | refine qg ?_ ?_); (next => exact rvk); simp only [go_sem]; (first | exact VLe.refl _ | refine qh ?_ | refine qd ?_ | refine ql ?_ | skip))
    | with_reducible first | refine And.intro ?_ ?_ | intro _
  all_goals first
    | omega
    | skip
  all_goals refine qse ?_
  all_goals try simp only [Int.zero_sub] at *
  all_goals first
    | grind [fit, zG]
    | (have hb : zG l to = false := by
        cases hx : zG l to with
        | false => rfl
        | true => simp [zG] at hx; omega
       unfold fit
       simp only [hb, Bool.false_eq_true, if_false]
       first
         | (rw [if_neg (by omega), if_neg (by omega)])
         | trace_state)
end
section
namespace P48
theorem qd4 (l : List Item) (k i : Nat) : i ≤ zp l k i ∧ zp l k i ≤ i + k := by
 induction k generalizing i with
 | zero => simp [zp]
 | succ k ih =>
  unfold zp
  split
  ·have := ih (i + 1); omega
  ·omega
theorem qgJ (l : List Item) (k m i : Nat) : zp l k i = min (zp l (k + m) i) (i + k) := by
 induction k generalizing i with
 | zero => have := qd4 l (0 + m) i; simp only [zp]; omega
 | succ k ih =>
  rw [show k + 1 + m = k + m + 1 by omega]
  unfold zp
  split
  ·rw [ih (i + 1)]; omega
  ·omega
theorem jz (l : List Item) {a b n : Nat} (h1 : a ≤ b) (h2 : b ≤ n) : qI l a b = min (qI l a n) b := by
 unfold qI
 have := qgJ l (b - a) (n - b) a
 rw [show b - a + (n - b) = n - a by omega] at this
 omega
theorem qcR (l : List Item) {a b : Nat} (h : a ≤ b) : a ≤ qI l a b ∧ qI l a b ≤ b := by
 unfold qI
 have := qd4 l (b - a) a
 omega
theorem qet (f : Item → Int) (l : List Item) (k i : Nat) : qaj f l (k + 1) i = qaj f l k i + (if (it l (i + k)).kind = 3 then 0 else f (it l (i + k))) := by
 induction k generalizing i with
 | zero => simp [qaj]
 | succ k ih =>
  rw [qaj, ih (i + 1), show i + 1 + k = i + (k + 1) by omega]
  conv => rhs; rw [qaj]
  omega
theorem qcl (f : Item → Int) (l : List Item) {a b : Nat} (h : a ≤ b) : zT f l a (b + 1) = zT f l a b + (if (it l b).kind = 3 then 0 else f (it l b)) := by
 unfold zT
 rw [show b + 1 - a = b - a + 1 by omega, qet, show a + (b - a) = b by omega]
theorem jO (f : Item → Int) (l : List Item) (a : Nat) : zT f l a a = 0 := by unfold zT; simp [qaj]
theorem qak (f : Item → Int) (l : List Item) (hf : ∀ i, 0 ≤ f (it l i) ∧ f (it l i) ≤ 1073741824) (k i : Nat) : 0 ≤ qaj f l k i ∧ qaj f l k i ≤ k * 1073741824 := by
 induction k generalizing i with
 | zero => simp [qaj]
 | succ k ih =>
  have h1 := ih (i + 1)
  have h2 := hf i
  unfold qaj
  split <;> omega
theorem qbl (f : Item → Int) (l : List Item) (hf : ∀ i, 0 ≤ f (it l i) ∧ f (it l i) ≤ 1073741824) (a b : Nat) (h : b ≤ 300) : 0 ≤ zT f l a b ∧ zT f l a b ≤ 400000000000 := by
 have := qak f l hf (b - a) a
 unfold zT
 omega
end P48
namespace P48
theorem qg4 {n : Nat} {p : List Int} {a : List (Nat × Int)} {B : Int} (ha : ∀ x ∈ a, 0 ≤ x.2) (hB : -1 ≤ B) (hb : ∀ x ∈ a, x.2 + qS n p x.1 ≤ B) : -1 ≤ qaq n p a ∧ qaq n p a ≤ B := by
 rcases qeg n p a ha with ⟨h1, _⟩ | ⟨h1, ⟨x, h2, h3, h4⟩, _⟩
 ·omega
 ·have := hb x h2; omega
theorem qav {l : List Item} {width : Int} (hv : ∀ i, i < l.length → qdY (it l i)) {a b : Nat} {c : Int} (hc : arc l width a b = some c) : 0 ≤ c ∧ c ≤ 20000 := by
 have h2 : 0 ≤ penalty l b ∧ penalty l b ≤ 10000 := by
  unfold penalty zG zF
  split
  ·rename_i hc
   simp only [Bool.and_eq_true, decide_eq_true_eq, Bool.not_eq_true', Bool.and_eq_false_iff, decide_eq_false_iff_not] at hc
   have := (hv b hc.1.1).p
   omega
  ·omega
 unfold arc qsz at hc
 split at hc
 ·split at hc
  ·cases hc
   have h1 := qbZ l width (zT Item.width l (qI l a b) b) (zT Item.stretch l (qI l a b) b) (zT Item.shrink l (qI l a b) b) b
   unfold jZ
   omega
  ·cases hc
 ·cases hc
theorem kw {n : Nat} {p : List Int} {B : Int} (h : ∀ j, -1 ≤ p.getD j 0 ∧ p.getD j 0 ≤ B) (hB : 0 ≤ B) (to : Nat) : -1 ≤ qS n p to ∧ qS n p to ≤ B := by
 unfold qS
 split
 ·omega
 ·exact h _
theorem qaD {l : List Item} (hv : ∀ i, i < l.length → qdY (it l i)) (width : Int) (k : Nat) : ∀ j, -1 ≤ (jp l width k).getD j 0 ∧ (jp l width k).getD j 0 ≤ 20000 * k := by
 induction k with
 | zero =>
  intro j
  simp only [jp, List.getD_eq_getElem?_getD, List.getElem?_replicate]
  split <;> simp
 | succ k ih =>
  intro j
  simp only [jp, List.getD_eq_getElem?_getD, List.getElem?_set]
  split
  ·split
   ·simp only [Option.getD_some]
    refine qg4 (fun x hx => ?_) (by omega) (fun x hx => ?_)
    ·obtain ⟨to, c⟩ := x
     exact (qav hv (qaR.1 hx).2.2).1
    ·obtain ⟨to, c⟩ := x
     have h1 := (qav hv (qaR.1 hx).2.2).2
     have h2 := (kw (n := l.length) ih (by omega) to).2
     simp only
     omega
   ·simp; omega
  ·have := ih j
   simp only [List.getD_eq_getElem?_getD] at this
   omega
end P48
end
section
open Go Go.Proofs AF P48
set_option maxRecDepth 100000
def qeh (l : List It) (width : Int) (frm : Nat) : AV := .fn (.func 70) [] [.ip [qu l], .ip [.int .i64 frm], .ip [.int .i64 width]]
theorem t40 (l : List It) (width : Int) (frm : Nat) (h : List AObj) : qs Tryz.prog 43 [qu l, .int .i64 width, .int .i64 frm] h (qeh l width frm) h := by
 refine qo qyb (by simp) ?_
 simp only [lcP, lnP, Nat.reduceAdd, Nat.reduceSub, List.replicate, caP, naP, List.append_nil]
 simp (disch := omega) only [qzo, qeh, qu, go_sem, qc, dvP, mdP]
 repeat' first
  | ((first | refine qe ?_ ?_ | refine qg ?_ ?_); (next => exact rvk); simp only [go_sem]; (first | exact VLe.refl _ | refine qh ?_ | refine qd ?_ | refine ql ?_ | skip))
  | with_reducible first | refine And.intro ?_ ?_ | intro _
 all_goals first
  | omega
  | trace_state
def Low (h hh : List AObj) : Prop := hh.length = h.length ∧ ∀ o ∈ hh, o ∈ h ∨ (qdu h.length o ∧ qdu (h.length + 1) o)
theorem kM {l : List It} {a b : Nat} (h : a ≤ b) : qdQ l a (b + 1) = (qdQ l a b && !zF l b) := by
 rw [Bool.eq_iff_iff, Bool.and_eq_true, qad, qad]
 simp only [Bool.not_eq_true']
 constructor
 ·intro g; exact ⟨fun i h1 h2 => g i h1 (by omega), g b h (by omega)⟩
 ·rintro ⟨g1, g2⟩ i h1 h2
  by_cases e : i = b
  ·subst e; exact g2
  ·exact g1 i h1 (by omega)
theorem qmu {l : List It} {a b c : Nat} (h : b ≤ c) (hf : qdQ l a b = false) : qdQ l a c = false := by
 cases hx : qdQ l a c with
 | false => rfl
 | true =>
  have : qdQ l a b = true := qad.2 fun i h1 h2 => qad.1 hx i h1 (by omega)
  rw [hf] at this; cases this
theorem qiy (l : List It) (a : Nat) : qI l a a = a := by have := qcR l (Nat.le_refl a); omega
theorem Low.ret {h hh : List AObj} {ts : List AV} {L : LInfo} (s : LS) (hl : Low h hh) (hts : ∀ c ∈ ts, jf (h.length + 1) c = true) :
  (hh ++ [AObj.lp s ts L]).length = (h ++ [AObj.lp .ready ts L]).length ∧ ∀ o ∈ hh ++ [AObj.lp s ts L], o ∈ h ++ [AObj.lp .ready ts L] ∨ qdu (h ++ [AObj.lp .ready ts L]).length o := by
 refine ⟨by simp [hl.1], fun o ho => ?_⟩
 rw [List.length_append, List.length_singleton]
 rcases List.mem_append.1 ho with ho | ho
 ·rcases hl.2 o ho with h1 | h1
  ·exact .inl (List.mem_append_left _ h1)
  ·exact .inr h1.2
 ·rw [List.mem_singleton] at ho
  subst ho
  exact .inr hts
section
variable {l : List It} {width : Int} {frm : Nat} (hv : Valid l) (w0 : 0 ≤ width) (w1 : width ≤ 1073741824) (hf : frm ≤ l.length)
 {h : List AObj} {ts : List AV} {L : LInfo} {S : Nat → List AObj → Prop} {E : LS → List AObj → Prop}
 (hS : ∀ i hh, S i hh → Low h hh) (hE : ∀ s hh, E s hh → Low h hh)
 (body : ∀ to c hh tl, frm ≤ to → to ≤ l.length → arc l width frm to = some c → S to hh →
  kq Tryz.prog h.length [.int .i64 to, .int .i64 c] (hh ++ .lp .ready ts L :: tl) (fun r h' => ∃ hh', (r = .bool true ∧ S (to + 1) hh' ∧ h' = hh' ++ .lp .ready ts L :: tl) ∨ (∃ s, r = .bool false ∧ E s hh' ∧ h' = hh' ++ .lp s ts L :: tl)))
 (skip : ∀ to hh, frm ≤ to → to ≤ l.length → arc l width frm to = none → S to hh → S (to + 1) hh)
 (start : S frm h) (hts : ∀ c ∈ ts, jf (h.length + 1) c = true)
include hv w0 w1 hf hS hE body skip start hts
theorem qtS {to : Nat} (h0 : frm ≤ to) (hfree : qdQ l frm to = false) : ∀ (k : Nat) {hh : List AObj} {i : Nat}, l.length + 1 - i = k → to ≤ i → i ≤ l.length + 1 → S i hh → S (l.length + 1) hh := by
 intro k
 induction k with
 | zero => intro hh i h1 h2 h3 h4; rwa [show l.length + 1 = i by omega]
 | succ k ih =>
  intro hh i h1 h2 h3 h4
  refine ih (i := i + 1) (by omega) (by omega) (by omega) (skip i hh (by omega) (by omega) ?_ h4)
  unfold arc
  rw [qmu h2 hfree]
  simp
theorem t74 : jS Tryz.prog 70 [.yld h.length, .ip [qu l], .ip [.int .i64 frm], .ip [.int .i64 width]] (h ++ [.lp .ready ts L])
  (fun _ h' => ∃ hh, (S (l.length + 1) hh ∧ h' = hh ++ [.lp .ready ts L]) ∨ ∃ s, E s hh ∧ h' = hh ++ [.lp s ts L]) := by
 have hl := hv.len
 have b0 := qcR l hf
 refine kI qyn (by simp) ?_
 simp only [lcP, lnP, Nat.reduceAdd, Nat.reduceSub, List.replicate, caP, naP, List.append_nil]
 simp (disch := omega) only [qzz, qu, go_sem, qc, dvP, mdP]
 repeat' first
  | ((first | refine qj (t75 l frm l.length _ hf (by omega) (by omega)) ?_ ?_); (next => exact flk); simp (disch := omega) only [go_sem, qc, dvP, mdP])
  | ((first | refine qk (fun e => ⟨?_, t75 l frm l.length _ hf (by omega) (by omega)⟩) ?_); (next => exact flk); simp (disch := omega) only [go_sem, qc, dvP, mdP])
  | ((first | refine qe ?_ ?_ | refine qg ?_ ?_); (next => exact rvk); simp only [go_sem]; (first | exact VLe.refl _ | refine qh ?_ | refine qd ?_ | refine ql ?_ | skip))
  | with_reducible first | refine And.intro ?_ ?_ | intro _
 all_goals first
  | omega
  | skip
 refine qJ (T := fun i : Nat × List AObj => qv 64 [(0, .yld h.length), (1, .ip [qu l]), (2, .ip [.int .i64 frm]), (3, .ip [.int .i64 width]), (5, .op (h ++ [AObj.lp .ready ts L]).length 1 0), (6, .int .i64 (qI l frm l.length)), (7, .int .i64 i.1)])
  (H := fun i => (i.2 ++ [.lp .ready ts L]) ++ [.mem 1 111 (qb4 (zT Item.width l (qI l frm (min i.1 l.length)) (min i.1 l.length)) (zT Item.stretch l (qI l frm (min i.1 l.length)) (min i.1 l.length)) (zT Item.shrink l (qI l frm (min i.1 l.length)) (min i.1 l.length)))])
  (inv := fun i => frm ≤ i.1 ∧ i.1 ≤ l.length + 1 ∧ S i.1 i.2 ∧ qdQ l frm i.1 = true) (m := fun i => l.length + 1 - i.1) (frm, h) ⟨Nat.le_refl _, by simp only; omega, start, by simp only; rw [qad]; omega⟩ ?_ ?_
 ·simp only [Nat.min_eq_left hf, qiy, jO, qb4]
  refine Wk.temps ?_
  simp only [qu, qv, List.foldl, List.replicate, go_sem, qr, qp, qm, qq]
  try (repeat' first | (with_reducible refine And.intro ?_ ?_) | (refine qh ?_; omega) | (refine qd ?_; rfl))
 ·rintro ⟨to, hh⟩ ⟨i1, i2, i3, i4⟩ K hK
  simp only at i1 i2 i3 i4 hK
  obtain ⟨hlen, hlow⟩ := hS _ _ i3
  have hB : ∀ g : List AObj, g.length = h.length → (h ++ [AObj.lp .ready ts L]).length = (g ++ [AObj.lp .ready ts L]).length := by intro g hg; simp [hg]
  rw [hB hh hlen]
  by_cases hto : to ≤ l.length
  ·have em : min to l.length = to := Nat.min_eq_left hto
   have q1 := qbl Item.width l (fun i => (hv.num i).1) (qI l frm to) to (by omega)
   have q2 := qbl Item.stretch l (fun i => (hv.num i).2.1) (qI l frm to) to (by omega)
   have q3 := qbl Item.shrink l (fun i => (hv.num i).2.2.1) (qI l frm to) to (by omega)
   simp (disch := omega) only [qv, qu, List.foldl, List.replicate, em, qb4, go_sem, qc, dvP, mdP]
   refine ⟨by omega, fun _ => ⟨by omega, ?_⟩, fun hc => absurd (by omega) hc⟩
   refine qj (t42 l to _ hto (by omega)) ⟨rfl, rfl, trivial⟩ ?_
   cases he : qdh l to with
   | false =>
    have harc : arc l width frm to = none := by unfold arc; simp [he]
    have hn := skip to hh i1 hto harc i3
    simp (disch := omega) only [he, qb4, go_sem, qc, dvP, mdP]
    refine ⟨by omega, ?_⟩
    refine qj (t43 l to _) ⟨rfl, rfl, trivial⟩ ?_
    cases hfo : zF l to with
    | true =>
     simp (disch := omega) only [hfo, go_sem, qc, dvP, mdP]
     have hfr : qdQ l frm (to + 1) = false := by rw [kM i1, hfo]; simp
     have hz := qtS hv w0 w1 hf hS hE body skip start hts (by omega) hfr _ rfl (Nat.le_refl _) (by omega) hn
     obtain ⟨r1, r2⟩ := (hS _ _ hz).ret (L := L) .ready hts
     exact qac trivial r1 r2 ⟨_, .inl ⟨hz, rfl⟩⟩ (VLe.refl _)
    | false =>
     have hfr : qdQ l frm (to + 1) = true := by rw [kM i1, hfo, i4]; rfl
     simp (disch := omega) only [hfo, go_sem, qc, dvP, mdP]
     have e1 := jz l i1 hto
     repeat' first
      | (with_reducible refine And.intro ?_ ?_)
      | (with_reducible intro _)
     all_goals first
      | omega
      | skip
     ·rename_i hadd
      refine qX (t77 _ 1 _ _ _ (it l to) _ getO_app0 (hv.ok to (by omega)) q1.1 q1.2 q2.1 q2.2 q3.1 q3.2) ⟨rfl, rfl, trivial⟩ ?_
      simp (disch := omega) only [go_sem, qc, dvP, mdP]
      have e2 := jz l (show frm ≤ to + 1 by omega) (show to + 1 ≤ l.length by omega)
      have e3 : qI l frm (to + 1) = qI l frm to := by omega
      have e4 : qI l frm to ≤ to := by omega
      refine hK _ _ (to + 1, hh) ⟨by simp only; omega, by simp only; omega, hn, hfr⟩ (by simp only; omega) ?_
      simp only [Nat.min_eq_left (show to + 1 ≤ l.length by omega), e3, qcl _ l e4, sel, qb4]
      refine Wk.temps ?_
      simp only [qu, qv, List.foldl, List.replicate, go_sem, qr, qp, qm, qq]
      try (repeat' first | (with_reducible refine And.intro ?_ ?_) | (refine qh ?_; omega) | (refine qd ?_; rfl))
      all_goals first
       | rw [hB _ hlen]
       | skip
      all_goals exact VLe.refl _
     ·rename_i hadd
      have e5 : ∀ f, zT f l (qI l frm (min (to + 1) l.length)) (min (to + 1) l.length) = zT f l (qI l frm to) to := by
       intro f
       by_cases hlt : to < l.length
       ·have e2 := jz l (show frm ≤ to + 1 by omega) (show to + 1 ≤ l.length by omega)
        rw [Nat.min_eq_left (show to + 1 ≤ l.length by omega), show qI l frm (to + 1) = to + 1 by omega, show qI l frm to = to by omega, jO, jO]
       ·rw [show min (to + 1) l.length = to by omega]
      refine hK _ _ (to + 1, hh) ⟨by simp only; omega, by simp only; omega, hn, hfr⟩ (by simp only; omega) ?_
      simp only [e5, qb4]
      refine Wk.temps ?_
      simp only [qu, qv, List.foldl, List.replicate, go_sem, qr, qp, qm, qq]
      try (repeat' first | (with_reducible refine And.intro ?_ ?_) | (refine qh ?_; omega) | (refine qd ?_; rfl))
      all_goals first
       | rw [hB _ hlen]
       | skip
      all_goals exact VLe.refl _
   | true =>
    simp (disch := omega) only [he, qb4, go_sem, qc, dvP, mdP]
    repeat' first
     | ((first | refine qj (t76 l width _ _ _ to _ hv w0 w1 q1.1 q1.2 q2.1 q2.2 q3.1 q3.2) ?_ ?_); (next => exact flk); simp (disch := omega) only [qb4, qmh, go_sem, qc, dvP, mdP])
     | ((first | refine qk (fun e => ⟨?_, t76 l width _ _ _ to _ hv w0 w1 q1.1 q1.2 q2.1 q2.2 q3.1 q3.2⟩) ?_); (next => exact flk); simp (disch := omega) only [qb4, qmh, go_sem, qc, dvP, mdP])
     | ((first | refine qe ?_ ?_ | refine qg ?_ ?_); (next => exact rvk); simp only [go_sem]; (first | exact VLe.refl _ | refine qh ?_ | refine qd ?_ | refine ql ?_ | skip))
     | with_reducible first | refine And.intro ?_ ?_ | intro _
    all_goals first
     | omega
     | skip
    obtain ⟨r, hr⟩ : ∃ r, r = jZ l width frm to := ⟨_, rfl⟩
    have hr1 := qbZ l width (zT Item.width l (qI l frm to) to) (zT Item.stretch l (qI l frm to) to) (zT Item.shrink l (qI l frm to) to) to
    rw [show fit l width (zT Item.width l (qI l frm to) to) (zT Item.stretch l (qI l frm to) to) (zT Item.shrink l (qI l frm to) to) to = r from hr.symm] at hr1 ⊢
    have hp1 : -10000 ≤ penalty l to ∧ penalty l to ≤ 10000 := by
     have := (hv.num to).2.2.2
     unfold penalty; split <;> omega
    cases hi : r.2.2 with
    | false =>
     have harc : arc l width frm to = none := by unfold arc qsz; rw [← hr]; simp [hi]
     have hn := skip to hh i1 hto harc i3
     repeat' first
      | ((first | refine qj (t45 l to _) ?_ ?_); (next => exact flk); simp (disch := omega) only [hi, go_sem, qc, dvP, mdP])
      | ((first | refine qn (fun _ => t45 l to _) ?_ ?_); (next => exact flk); simp (disch := omega) only [hi, go_sem, qc, dvP, mdP])
      | ((first | refine qk (fun e => ⟨?_, t45 l to _⟩) ?_); (next => exact flk); simp (disch := omega) only [hi, go_sem, qc, dvP, mdP])
      | ((first | refine qe ?_ ?_ | refine qg ?_ ?_); (next => exact rvk); simp only [go_sem]; (first | exact VLe.refl _ | refine qh ?_ | refine qd ?_ | refine ql ?_ | skip))
      | with_reducible first | refine And.intro ?_ ?_ | intro _
     all_goals first
      | omega
      | skip
     refine qj (t43 l to _) ⟨rfl, rfl, trivial⟩ ?_
     cases hfo : zF l to with
     | true =>
      simp (disch := omega) only [hfo, go_sem, qc, dvP, mdP]
      have hfr : qdQ l frm (to + 1) = false := by rw [kM i1, hfo]; simp
      have hz := qtS hv w0 w1 hf hS hE body skip start hts (by omega) hfr _ rfl (Nat.le_refl _) (by omega) hn
      obtain ⟨r1, r2⟩ := (hS _ _ hz).ret (L := L) .ready hts
      exact qac trivial r1 r2 ⟨_, .inl ⟨hz, rfl⟩⟩ (VLe.refl _)
     | false =>
      have hfr : qdQ l frm (to + 1) = true := by rw [kM i1, hfo, i4]; rfl
      simp (disch := omega) only [hfo, go_sem, qc, dvP, mdP]
      have e1 := jz l i1 hto
      repeat' first
       | (with_reducible refine And.intro ?_ ?_)
       | (with_reducible intro _)
      all_goals first
       | omega
       | skip
      ·rename_i hadd
       refine qX (t77 _ 1 _ _ _ (it l to) _ getO_app0 (hv.ok to (by omega)) q1.1 q1.2 q2.1 q2.2 q3.1 q3.2) ⟨rfl, rfl, trivial⟩ ?_
       simp (disch := omega) only [go_sem, qc, dvP, mdP]
       have e2 := jz l (show frm ≤ to + 1 by omega) (show to + 1 ≤ l.length by omega)
       have e3 : qI l frm (to + 1) = qI l frm to := by omega
       have e4 : qI l frm to ≤ to := by omega
       refine hK _ _ (to + 1, hh) ⟨by simp only; omega, by simp only; omega, hn, hfr⟩ (by simp only; omega) ?_
       simp only [Nat.min_eq_left (show to + 1 ≤ l.length by omega), e3, qcl _ l e4, sel, qb4]
       refine Wk.temps ?_
       simp only [qu, qv, List.foldl, List.replicate, go_sem, qr, qp, qm, qq]
       try (repeat' first | (with_reducible refine And.intro ?_ ?_) | (refine qh ?_; omega) | (refine qd ?_; rfl))
       all_goals first
        | rw [hB _ hlen]
        | skip
       all_goals exact VLe.refl _
      ·rename_i hadd
       have e5 : ∀ f, zT f l (qI l frm (min (to + 1) l.length)) (min (to + 1) l.length) = zT f l (qI l frm to) to := by
        intro f
        by_cases hlt : to < l.length
        ·have e2 := jz l (show frm ≤ to + 1 by omega) (show to + 1 ≤ l.length by omega)
         rw [Nat.min_eq_left (show to + 1 ≤ l.length by omega), show qI l frm (to + 1) = to + 1 by omega, show qI l frm to = to by omega, jO, jO]
        ·rw [show min (to + 1) l.length = to by omega]
       refine hK _ _ (to + 1, hh) ⟨by simp only; omega, by simp only; omega, hn, hfr⟩ (by simp only; omega) ?_
       simp only [e5, qb4]
       refine Wk.temps ?_
       simp only [qu, qv, List.foldl, List.replicate, go_sem, qr, qp, qm, qq]
       try (repeat' first | (with_reducible refine And.intro ?_ ?_) | (refine qh ?_; omega) | (refine qd ?_; rfl))
       all_goals first
        | rw [hB _ hlen]
        | skip
       all_goals exact VLe.refl _
    | true =>
     have harc : arc l width frm to = some (r.1 + penalty l to) := by unfold arc qsz; rw [← hr]; simp [hi, he, i4]
     repeat' first
      | ((first | refine qj (t45 l to _) ?_ ?_); (next => exact flk); simp (disch := omega) only [hi, go_sem, qc, dvP, mdP])
      | ((first | refine qn (fun _ => t45 l to _) ?_ ?_); (next => exact flk); simp (disch := omega) only [hi, go_sem, qc, dvP, mdP])
      | ((first | refine qk (fun e => ⟨?_, t45 l to _⟩) ?_); (next => exact flk); simp (disch := omega) only [hi, go_sem, qc, dvP, mdP])
      | ((first | refine qe ?_ ?_ | refine qg ?_ ?_); (next => exact rvk); simp only [go_sem]; (first | exact VLe.refl _ | refine qh ?_ | refine qd ?_ | refine ql ?_ | skip))
      | with_reducible first | refine And.intro ?_ ?_ | intro _
     all_goals first
      | omega
      | skip
     ·exact ⟨.ready, ts, L, by rw [List.append_assoc, ← hlen]; exact getO_app0⟩
     ·have hbody := body to _ hh [.mem 1 111 (qb4 (zT Item.width l (qI l frm to) to) (zT Item.stretch l (qI l frm to) to) (zT Item.shrink l (qI l frm to) to))] i1 hto harc i3
      rw [List.append_cons] at hbody
      refine kq.mono ?_ hbody
      rintro v h' ⟨hh', ⟨rfl, hn, rfl⟩ | ⟨s, rfl, hs, rfl⟩⟩
      ·obtain ⟨hlen', hlow'⟩ := hS _ _ hn
       rw [← hB hh hlen, hB hh' hlen', List.append_cons hh' (AObj.lp .ready ts L) [AObj.mem _ _ _]]
       simp (disch := omega) only [hi, qb4, go_sem, qc, dvP, mdP]
       refine ⟨by omega, ?_⟩
       refine qj (t43 l to _) ⟨rfl, rfl, trivial⟩ ?_
       cases hfo : zF l to with
       | true =>
        simp (disch := omega) only [hfo, go_sem, qc, dvP, mdP]
        have hfr : qdQ l frm (to + 1) = false := by rw [kM i1, hfo]; simp
        have hz := qtS hv w0 w1 hf hS hE body skip start hts (by omega) hfr _ rfl (Nat.le_refl _) (by omega) hn
        obtain ⟨r1, r2⟩ := (hS _ _ hz).ret (L := L) .ready hts
        exact qac trivial r1 r2 ⟨_, .inl ⟨hz, rfl⟩⟩ (VLe.refl _)
       | false =>
        have hfr : qdQ l frm (to + 1) = true := by rw [kM i1, hfo, i4]; rfl
        simp (disch := omega) only [hfo, go_sem, qc, dvP, mdP]
        have e1 := jz l i1 hto
        repeat' first
         | (with_reducible refine And.intro ?_ ?_)
         | (with_reducible intro _)
        all_goals first
         | omega
         | skip
        ·rename_i hadd
         refine qX (t77 _ 1 _ _ _ (it l to) _ getO_app0 (hv.ok to (by omega)) q1.1 q1.2 q2.1 q2.2 q3.1 q3.2) ⟨rfl, rfl, trivial⟩ ?_
         simp (disch := omega) only [go_sem, qc, dvP, mdP]
         have e2 := jz l (show frm ≤ to + 1 by omega) (show to + 1 ≤ l.length by omega)
         have e3 : qI l frm (to + 1) = qI l frm to := by omega
         have e4 : qI l frm to ≤ to := by omega
         refine hK _ _ (to + 1, hh') ⟨by simp only; omega, by simp only; omega, hn, hfr⟩ (by simp only; omega) ?_
         simp only [Nat.min_eq_left (show to + 1 ≤ l.length by omega), e3, qcl _ l e4, sel, qb4]
         refine Wk.temps ?_
         simp only [qu, qv, List.foldl, List.replicate, go_sem, qr, qp, qm, qq]
         try (repeat' first | (with_reducible refine And.intro ?_ ?_) | (refine qh ?_; omega) | (refine qd ?_; rfl))
         all_goals first
          | rw [hB _ hlen']
          | skip
         all_goals exact VLe.refl _
        ·rename_i hadd
         have e5 : ∀ f, zT f l (qI l frm (min (to + 1) l.length)) (min (to + 1) l.length) = zT f l (qI l frm to) to := by
          intro f
          by_cases hlt : to < l.length
          ·have e2 := jz l (show frm ≤ to + 1 by omega) (show to + 1 ≤ l.length by omega)
           rw [Nat.min_eq_left (show to + 1 ≤ l.length by omega), show qI l frm (to + 1) = to + 1 by omega, show qI l frm to = to by omega, jO, jO]
          ·rw [show min (to + 1) l.length = to by omega]
         refine hK _ _ (to + 1, hh') ⟨by simp only; omega, by simp only; omega, hn, hfr⟩ (by simp only; omega) ?_
         simp only [e5, qb4]
         refine Wk.temps ?_
         simp only [qu, qv, List.foldl, List.replicate, go_sem, qr, qp, qm, qq]
         try (repeat' first | (with_reducible refine And.intro ?_ ?_) | (refine qh ?_; omega) | (refine qd ?_; rfl))
         all_goals first
          | rw [hB _ hlen']
          | skip
         all_goals exact VLe.refl _
      ·rw [← hB hh hlen, hB hh' (hE _ _ hs).1, List.append_cons hh' (AObj.lp s ts L) [AObj.mem _ _ _]]
       simp (disch := omega) only [hi, qb4, go_sem, qc, dvP, mdP]
       obtain ⟨r1, r2⟩ := (hE _ _ hs).ret (L := L) s hts
       exact qac trivial r1 r2 ⟨_, .inr ⟨s, hs, rfl⟩⟩ (VLe.refl _)
  ·simp (disch := omega) only [qv, qu, List.foldl, List.replicate, qb4, go_sem, qc, dvP, mdP]
   refine ⟨by omega, fun hc => absurd hc (by omega), fun _ => ?_⟩
   have e : to = l.length + 1 := by omega
   subst e
   obtain ⟨r1, r2⟩ := (hS _ _ i3).ret (L := L) .ready hts
   exact qaL trivial r1 r2 ⟨_, .inl ⟨i3, rfl⟩⟩ (VLe.refl _)
end
end
section
open Go Go.Proofs AF P48
set_option maxRecDepth 100000
theorem qcX {hh tl : List AObj} {o : AObj} {k : Nat} (h : hh.length = k) : qL k (hh ++ o :: tl) = some o := by subst h; exact getO_app0
theorem qc3 {hh tl : List AObj} {o o' : AObj} {k : Nat} (h : hh.length = k) : qO k (hh ++ o :: tl) o' = hh ++ o' :: tl := by subst h; exact setO_app0
section
variable {l : List It} {width : Int} {frm : Nat} (hv : Valid l) (w0 : 0 ≤ width) (w1 : width ≤ 1073741824) (hf : frm ≤ l.length)
 {h : List AObj} {ts : List AV} {b : Nat} {x y : C} {Q : Ex → Nx} {p1 p2 : Nat} (S : Nat → List AObj → Prop) (E : Ex → List AObj → Prop)
 (hS : ∀ i hh, S i hh → Low h hh) (hE : ∀ s hh, E s hh → Low h hh)
 (skip : ∀ to hh, frm ≤ to → to ≤ l.length → arc l width frm to = none → S to hh → S (to + 1) hh)
 (start : S frm h) (hts : ∀ c ∈ ts, jf (h.length + 1) c = true)
 (body : ∀ to c hh tl L, frm ≤ to → to ≤ l.length → arc l width frm to = some c → S to hh → hh.length = h.length →
  zx Tryz.prog b x (fun e t2 h2 => e = .normal ∧ h2 = hh ++ .lp .ready ts L :: tl ∧
   zx Tryz.prog b y (fun e t3 h3 => ∃ hh', h3 = hh' ++ .lp .busy ts L :: tl ∧ hh'.length = h.length ∧ match e with
    | .normal => S (to + 1) hh'
    | e => E e hh') t2 (hh ++ .lp .busy ts L :: tl)) (qbi ts [p1, p2] [.int .i64 to, .int .i64 c]) (hh ++ .lp .ready ts L :: tl))
 (done : ∀ hh, S (l.length + 1) hh → Q .normal ts hh) (doneE : ∀ e hh, E e hh → match e with
  | .normal => False
  | e => Q e ts hh)
include hv w0 w1 hf hS hE skip start hts body done doneE
theorem qbg : qga Tryz.prog (qeh l width frm) [p1, p2] (zx Tryz.prog b x) (zx Tryz.prog b y) Q ts h := by
 intro L hy
 show jS _ _ _ _ _
 have key := t74 (S := S) (E := fun s hh => match s with
  | .ret => E .ret hh
  | .exit id => E (.exit id) hh
  | _ => False) hv w0 w1 hf (h := h) (ts := ts) (L := L) hS
  (by
   intro s hh hs
   cases s with
   | ret => exact hE _ _ hs
   | exit id => exact hE _ _ hs
   | ready => exact hs.elim
   | busy => exact hs.elim)
  (by
   intro to c hh tl i1 i2 i3 i4
   have hlen := (hS _ _ i4).1
   refine hy h.length ts _ _ _ (qcX hlen) rfl ?_
   have hb := body to c hh tl L i1 i2 i3 i4 hlen
   refine qaJ ?_ hb
   rintro e t2 h2 ⟨rfl, rfl, h3⟩
   refine ⟨rfl, ⟨ts, qcX hlen⟩, fun ts' hts' => ?_⟩
   rw [qcX hlen] at hts'
   cases hts'
   rw [qc3 hlen]
   refine qaJ ?_ h3
   rintro e t3 h3' ⟨hh', rfl, g1, g2⟩
   refine ⟨ts, qcX g1, ?_⟩
   cases e with
   | normal => exact ⟨hh', .inl ⟨rfl, g2, qc3 g1⟩⟩
   | ret => exact ⟨hh', .inr ⟨.ret, rfl, g2, qc3 g1⟩⟩
   | exit id => exact ⟨hh', .inr ⟨.exit id, rfl, g2, qc3 g1⟩⟩)
  skip start hts
 refine key.le (j4.refl _) ?_
 rintro v h' ⟨hh, ⟨g1, rfl⟩ | ⟨s, g1, rfl⟩⟩
 ·have hl := hS _ _ g1
  exact ⟨v, VLe.refl _, hh, .ready, ts, L, rfl, hl.1, fun o ho => (hl.2 o ho).imp (fun h => h) And.left, done hh g1⟩
 ·cases s with
  | ready => exact g1.elim
  | busy => exact g1.elim
  | ret =>
   have hl := hE _ _ g1
   exact ⟨v, VLe.refl _, hh, .ret, ts, L, rfl, hl.1, fun o ho => (hl.2 o ho).imp (fun h => h) And.left, doneE _ _ g1⟩
  | exit id =>
   have hl := hE _ _ g1
   exact ⟨v, VLe.refl _, hh, .exit id, ts, L, rfl, hl.1, fun o ho => (hl.2 o ho).imp (fun h => h) And.left, doneE _ _ g1⟩
end
def cellsI (p : List Int) : List AV := p.map (AV.int .i64)
theorem j9 (p : List Int) : (cellsI p).length = p.length := by simp [cellsI]
theorem qeI {p : List Int} {fz : Nat → Bool} {h : List AObj} {n m : Nat} (e : p.length = m) : VLe (.sl m (fun i => ((List.drop i (cellsI p)).take 1).map (rei fz h (n + 1)))) (zK p) := by
 subst e
 refine qc6 rfl (fun i hi => ?_)
 unfold cellsI
 rw [List.drop_eq_getElem_cons (by simpa using hi)]
 simp [rei, hi]
theorem qz7 (n : Nat) (p : List Int) (i k v : Nat) (ty : TypeId) (h : List AObj) (hk : qL k h = some (.mem v ty (cellsI p))) (hp : p.length = n + 1) (hi : i ≤ n) (hn : n ≤ 1000000) :
  qs Tryz.prog 44 [.osl k v 1 0 (n + 1), .int .i64 i] h (.int .i64 (qS n p i)) h := by
 refine qs.borrow ?_ rfl
 refine qs.le (t41 n p i [] hp hi hn) ?_ (VLe.refl _)
 simp only [List.map_cons, List.map_nil, rei_int, rei_osl, if_true, hk, qo8]
 rw [if_pos ⟨by trivial, by rw [j9]; omega⟩]
 simp only [Nat.zero_add, Nat.mul_one]
 exact zU (qeI hp) (zU (VLe.refl _) j4.nil)
theorem qlL (p : List Int) (i : Nat) (v : Int) (hi : i < p.length) : (cellsI p).take i ++ [.int .i64 v] ++ (cellsI p).drop (i + 1) = cellsI (p.set i v) := by
 unfold cellsI
 rw [List.set_eq_take_append_cons_drop, if_pos hi]
 simp [List.map_take, List.map_drop]
theorem qmT (n : Nat) : qM [.int .i64 0] n = cellsI (List.replicate n 0) := by
 induction n with
 | zero => rfl
 | succ n ih => simp [qM, ih, cellsI, List.replicate_succ]
theorem Low.last {g : List AObj} {o : AObj} {v : Nat} {ty : TypeId} {cs : List AV} (hc : ∀ n, ∀ c ∈ cs, jf n c = true) : Low (g ++ [o]) (g ++ [.mem v ty cs]) := by
 refine ⟨by simp, fun x hx => ?_⟩
 rcases List.mem_append.1 hx with hx | hx
 ·exact .inl (List.mem_append_left _ hx)
 ·rw [List.mem_singleton] at hx
  subst hx
  exact .inr ⟨hc _, hc _⟩
def ku (l : List It) (width : Int) (frm to : Nat) : List (Nat × Int) := (List.range' frm (to - frm)).filterMap fun to => (arc l width frm to).map fun c => (to, c)
theorem qa9 (l : List It) (width : Int) (frm : Nat) : ku l width frm frm = [] := by simp [ku]
theorem qbV (l : List It) (width : Int) (frm : Nat) : ku l width frm (l.length + 1) = qcP l width frm := rfl
theorem jt (l : List It) (width : Int) {frm to : Nat} (h : frm ≤ to) : ku l width frm (to + 1) = ku l width frm to ++ (match arc l width frm to with
  | some c => [(to, c)]
  | none => []) := by
 unfold ku
 rw [show to + 1 - frm = to - frm + 1 by omega, List.range'_1_concat, List.filterMap_append, show frm + (to - frm) = to by omega]
 simp only [List.filterMap_cons, List.filterMap_nil]
 cases arc l width frm to <;> rfl
theorem qef (n : Nat) (p : List Int) (a : List (Nat × Int)) (x : Nat × Int) : qaq n p (a ++ [x]) = if 0 ≤ qS n p x.1 ∧ (qaq n p a < 0 ∨ x.2 + qS n p x.1 < qaq n p a) then x.2 + qS n p x.1 else qaq n p a := by
 unfold qaq
 rw [List.foldl_append]
 rfl
theorem t39 (l : List It) (width : Int) (hv : Valid l) (w0 : 0 ≤ width) (w1 : width ≤ 1073741824) (h : List AObj) : qs Tryz.prog 42 [qu l, .int .i64 width] h (zK (kp l width)) h := by
 have hl := hv.len
 refine qo qya (by simp) ?_
 simp only [lcP, lnP, Nat.reduceAdd, Nat.reduceSub, List.replicate, caP, naP, List.append_nil]
 simp (disch := omega) only [qzn, qu, go_sem, qc, dvP, mdP]
 repeat' first
  | ((first | refine qe ?_ ?_ | refine qg ?_ ?_); (next => exact rvk); simp only [go_sem]; (first | exact VLe.refl _ | refine qh ?_ | refine qd ?_ | refine ql ?_ | skip))
  | with_reducible first | refine And.intro ?_ ?_ | intro _
 all_goals first
  | omega
  | skip
 simp only [show ((l.length : Int) + 1).toNat = l.length + 1 by omega, qmT]
 refine qJ (T := fun i : Nat × AObj => qv 51 [(0, qu l), (1, .int .i64 width), (5, .op (h.length + 2) 1 0), (6, .int .i64 ((l.length : Int) - i.1))])
  (H := fun i => h ++ [.emp 1, .mem 1 3 (cellsI (jp l width i.1)), .mem 1 42 [.osl (h.length + 1) 1 1 0 (l.length + 1)], i.2])
  (inv := fun i => i.1 ≤ l.length + 1 ∧ zf [i.2] 0 = true) (m := fun i => l.length + 1 - i.1) (0, .emp 0) ⟨by simp only; omega, rfl⟩ (Wk.temps ?_) ?_
 ·simp only [qu, qv, List.foldl, List.replicate, go_sem, qr, qp, qm, qq]
  try (repeat' first | (with_reducible refine And.intro ?_ ?_) | (refine qh ?_; omega) | (refine qd ?_; rfl))
 ·rintro ⟨k, O⟩ ⟨i1, i2⟩ K hK
  simp only at i1 i2 hK
  by_cases hk : k ≤ l.length
  ·have plen := qaU l width k
   obtain ⟨i, hi⟩ : ∃ i, i = l.length - k := ⟨_, rfl⟩
   have hik : (l.length : Int) - k = i := by omega
   obtain ⟨V, hV⟩ : ∃ V, V = qA (some O) + 1 := ⟨_, rfl⟩
   obtain ⟨p, hp⟩ : ∃ p, p = jp l width k := ⟨_, rfl⟩
   simp only [hik, ← hp] at plen ⊢
   simp (disch := omega) only [qv, qu, List.foldl, List.replicate, i2, go_sem, qc, dvP, mdP]
   rw [← hV]
   repeat' first
    | ((first | refine qj (t40 _ _ _ _) ?_ ?_); (next => exact flk); simp (disch := omega) only [qu, go_sem, qc, dvP, mdP])
    | ((first | refine qn (fun _ => t40 _ _ _ _) ?_ ?_); (next => exact flk); simp (disch := omega) only [qu, go_sem, qc, dvP, mdP])
    | ((first | refine qk (fun e => ⟨?_, t40 _ _ _ _⟩) ?_); (next => exact flk); simp (disch := omega) only [qu, go_sem, qc, dvP, mdP])
    | ((first | refine qe ?_ ?_ | refine qg ?_ ?_); (next => exact rvk); simp only [go_sem]; (first | exact VLe.refl _ | refine qh ?_ | refine qd ?_ | refine ql ?_ | skip))
    | with_reducible first | refine And.intro ?_ ?_ | intro _
   all_goals first
    | omega
    | skip
   have eh : ∀ o : AObj, h ++ [.emp 1, .mem 1 3 (cellsI p), .mem 1 42 [.osl (h.length + 1) 1 1 0 (l.length + 1)], o] = (h ++ [.emp 1, .mem 1 3 (cellsI p), .mem 1 42 [.osl (h.length + 1) 1 1 0 (l.length + 1)]]) ++ [o] := by intro o; simp
   refine qbg hv w0 w1 (by omega) (S := fun to hh => hh = h ++ [.emp 1, .mem 1 3 (cellsI p), .mem 1 42 [.osl (h.length + 1) 1 1 0 (l.length + 1)], .mem V 3 [.int .i64 (qaq l.length p (ku l width i to))]]) (E := fun _ _ => False) ?_ (fun _ _ h => h.elim) ?_ ?_ ?_ ?_ ?_ (fun _ _ h => h.elim)
   ·rintro to hh rfl
    rw [eh, eh]
    exact Low.last (by intro n c hc; simp at hc; subst hc; rfl)
   ·rintro to hh h1 h2 h3 rfl
    rw [jt l width h1, h3, List.append_nil]
   ·rw [qa9]; rfl
   ·simp [jf, jf.lowVs, qeh, qu]
   ·rintro to c hh tl L h1 h2 h3 rfl hlen
    simp only [qbi]
    have hc := qav hv.ok h3
    have hbd := kw (n := l.length) (hp ▸ qaD hv.ok width k) (by omega) to
    simp (disch := omega) only [qu, List.append_assoc, eq_self, go_sem, qc, dvP, mdP]
    repeat' first
     | ((first | refine qj (qz7 l.length p to _ 1 3 _ (by simp only [go_sem, List.append_assoc]) (by omega) h2 (by omega)) ?_ ?_); (next => exact flk); simp (disch := omega) only [List.append_assoc, go_sem, qc, dvP, mdP])
     | ((first | refine qk (fun e => ⟨?_, qz7 l.length p to _ 1 3 _ (by simp only [go_sem, List.append_assoc]) (by omega) h2 (by omega)⟩) ?_); (next => exact flk); simp (disch := omega) only [List.append_assoc, go_sem, qc, dvP, mdP])
     | ((first | refine qe ?_ ?_ | refine qg ?_ ?_); (next => exact rvk); simp only [go_sem]; (first | exact VLe.refl _ | refine qh ?_ | refine qd ?_ | refine ql ?_ | skip))
     | with_reducible first | refine And.intro ?_ ?_ | intro _
    all_goals first
     | omega
     | skip
    ·rename_i hh1
     refine ⟨h ++ [.emp 1, .mem 1 3 (cellsI p), .mem 1 42 [.osl (h.length + 1) 1 1 0 (l.length + 1)], .mem V 3 [.int .i64 (c + qS l.length p to)]], by simp, by simp, ?_⟩
     rw [jt l width h1, h3, qef, if_pos hh1]
    ·rename_i hh1
     refine ⟨h ++ [.emp 1, .mem 1 3 (cellsI p), .mem 1 42 [.osl (h.length + 1) 1 1 0 (l.length + 1)], .mem V 3 [.int .i64 (qaq l.length p (ku l width i to))]], by simp, by simp, ?_⟩
     rw [jt l width h1, h3, qef, if_neg (by rintro ⟨g1, g2⟩; simp only at g1 g2; have := hh1 g1; omega)]
   ·rintro hh rfl
    rw [qbV]
    simp (disch := omega) only [qlL, go_sem, qc, dvP, mdP]
    repeat' first
     | (with_reducible refine And.intro ?_ ?_)
     | (with_reducible intro _)
    all_goals first
     | omega
     | (rw [j9]; omega)
     | skip
    refine hK _ _ (k + 1, .mem V 3 [.int .i64 (qaq l.length p (qcP l width i))]) ⟨by simp only; omega, rfl⟩ (by simp only; omega) ?_
    have e : jp l width (k + 1) = p.set i (qaq l.length p (qcP l width i)) := by rw [hp, hi]; rfl
    simp only [e]
    refine Wk.temps ?_
    simp only [qu, qv, List.foldl, List.replicate, go_sem, qr, qp, qm, qq]
    try (repeat' first | (with_reducible refine And.intro ?_ ?_) | (refine qh ?_; omega) | (refine qd ?_; rfl))
  ·have e : k = l.length + 1 := by omega
   subst e
   have plen := qaU l width (l.length + 1)
   simp (disch := omega) only [qv, qu, List.foldl, List.replicate, go_sem, qc, dvP, mdP]
   repeat' first
    | (with_reducible refine And.intro ?_ ?_)
    | (with_reducible intro _)
   all_goals first
    | omega
    | skip
   refine qe ⟨trivial, trivial⟩ ?_
   simp only [go_sem]
   simp only [Nat.zero_add, j9, plen, Nat.mul_one, Nat.le_refl, and_true, if_true, eq_self]
   exact qeI (p := kp l width) plen
end
section
open Go Go.Proofs AF P48
set_option maxRecDepth 100000
theorem t35 (l : List It) (h : List AObj) (hl : l.length ≤ 9223372036854775807) : qs Tryz.prog 40 [qu l] h (.int .i64 (jk l)) h := by
 refine qo qv0 (by simp) ?_
 simp only [lcP, lnP, Nat.reduceAdd, Nat.reduceSub, List.replicate, caP, naP, List.append_nil]
 simp (disch := omega) only [qpq, qu, qH, go_sem, qc, dvP, mdP]
 repeat' first
  | (with_reducible refine And.intro ?_ ?_)
  | (with_reducible intro _)
 all_goals first
  | omega
  | skip
 ·repeat' first
   | ((first | refine qe ?_ ?_ | refine qg ?_ ?_); (next => exact rvk); simp only [go_sem]; (first | exact VLe.refl _ | refine qh ?_ | refine qd ?_ | refine ql ?_ | skip))
   | with_reducible first | refine And.intro ?_ ?_ | intro _
  simp [jk]; omega
 ·rename_i hlen
  refine qJ (T := fun i : Nat × Int × AObj => qv 34 [(3, .int .i64 i.2.1), (10, qu l), (11, .int .i64 l.length), (12, .int .i64 i.1)]) (H := fun i => h ++ [i.2.2])
   (inv := fun i => i.1 ≤ l.length ∧ zf [i.2.2] 0 = true ∧ kE (l.drop i.1) i.2.1 = jk l ∧ 0 ≤ i.2.1 ∧ i.2.1 ≤ 4000000000 * i.1) (m := fun i => l.length - i.1) (0, 0, .emp 0)
   ⟨by simp only; omega, rfl, by simp only [jk, List.drop_zero]; rw [if_neg (by omega)], by simp only; omega, by simp only; omega⟩ (Wk.temps ?_) ?_
  ·simp only [qu, qH, qv, List.foldl, List.replicate, go_sem, qr, qp, qm, qq]
   try (repeat' first | (with_reducible refine And.intro ?_ ?_) | (refine qh ?_; omega) | (refine qd ?_; rfl))
  ·rintro ⟨i, s, O⟩ ⟨i1, i2, i3, i4, i5⟩ K hK
   simp only at i1 i2 i3 i4 i5 hK
   by_cases hi : i < l.length
   ·rw [qbY hi, kE] at i3
    by_cases hx : zw (it l i) = 0
    ·rw [if_pos hx] at i3
     obtain ⟨a1, a2, a3, a4, a5, a6, a7, a8, a9, b1, b2, b3⟩ := kZ.1 hx
     simp (disch := omega) only [qv, qu, qH, List.foldl, List.replicate, i2, go_sem, qc, dvP, mdP]
     repeat' first
      | ((first | refine qj (t72 (it l i) _) ?_ ?_); (next => exact flk); simp (disch := omega) only [go_sem, qc, dvP, mdP])
      | ((first | refine qn (fun _ => t72 (it l i) _) ?_ ?_); (next => exact flk); simp (disch := omega) only [go_sem, qc, dvP, mdP])
      | ((first | refine qk (fun e => ⟨?_, t72 (it l i) _⟩) ?_); (next => exact flk); simp (disch := omega) only [go_sem, qc, dvP, mdP])
      | ((first | refine qe ?_ ?_ | refine qg ?_ ?_); (next => exact rvk); simp only [go_sem]; (first | exact VLe.refl _ | refine qh ?_ | refine qd ?_ | refine ql ?_ | skip))
      | with_reducible first | refine And.intro ?_ ?_ | intro _
     all_goals first
      | omega
      | skip
     refine hK _ _ (i + 1, s + (it l i).width + (it l i).stretch + (it l i).shrink, .mem (qA (some O) + 1) 58 (qH (it l i))) ⟨by simp only; omega, rfl, i3, by simp only; omega, by simp only; omega⟩ (by simp only; omega) (Wk.temps ?_)
     simp only [qu, qH, qv, List.foldl, List.replicate, go_sem, qr, qp, qm, qq]
     try (repeat' first | (with_reducible refine And.intro ?_ ?_) | (refine qh ?_; omega) | (refine qd ?_; rfl))
    ·rw [if_neg hx] at i3
     simp (disch := omega) only [qv, qu, qH, List.foldl, List.replicate, i2, go_sem, qc, dvP, mdP]
     repeat' first
      | ((first | refine qj (t72 (it l i) _) ?_ ?_); (next => exact flk); simp (disch := omega) only [go_sem, qc, dvP, mdP])
      | ((first | refine qn (fun _ => t72 (it l i) _) ?_ ?_); (next => exact flk); simp (disch := omega) only [go_sem, qc, dvP, mdP])
      | ((first | refine qk (fun e => ⟨?_, t72 (it l i) _⟩) ?_); (next => exact flk); simp (disch := omega) only [go_sem, qc, dvP, mdP])
      | ((first | refine qe ?_ ?_ | refine qg ?_ ?_); (next => exact rvk); simp only [go_sem]; (first | exact VLe.refl _ | refine qh ?_ | refine qd ?_ | refine ql ?_ | skip))
      | with_reducible first | refine And.intro ?_ ?_ | intro _
     all_goals first
      | omega
      | exact i3
   ·have e : i = l.length := by omega
    subst e
    rw [List.drop_length, kE] at i3
    simp (disch := omega) only [qv, qu, qH, List.foldl, List.replicate, i2, go_sem, qc, dvP, mdP]
    repeat' first
     | ((first | refine qe ?_ ?_ | refine qg ?_ ?_); (next => exact rvk); simp only [go_sem]; (first | exact VLe.refl _ | refine qh ?_ | refine qd ?_ | refine ql ?_ | skip))
     | with_reducible first | refine And.intro ?_ ?_ | intro _
    all_goals first
     | omega
     | grind
theorem i2' {l : List It} (h : ∀ j, j < l.length → zw (it l j) = 0) : ∀ x ∈ l, zw x = 0 := by
 intro x hx
 obtain ⟨j, hj, rfl⟩ := List.getElem_of_mem hx
 rw [← qmK hj]
 exact h j hj
theorem t38 (l : List It) (width : Int) (h : List AObj) (hl : l.length ≤ 9223372036854775807) : qs Tryz.prog 41 [qu l, .int .i64 width] h (.int .i64 (jb l width)) h := by
 refine qo qx9 (by simp) ?_
 simp only [lcP, lnP, Nat.reduceAdd, Nat.reduceSub, List.replicate, caP, naP, List.append_nil]
 simp (disch := omega) only [qzm, go_sem, qc, dvP, mdP]
 repeat' first
  | ((first | refine qj (t35 l _ hl) ?_ ?_ | refine qj (t63 _ _) ?_ ?_); (next => exact flk); simp (disch := omega) only [go_sem, qc, dvP, mdP])
  | ((first | refine qn (fun _ => t63 _ _) ?_ ?_); (next => exact flk); simp (disch := omega) only [go_sem, qc, dvP, mdP])
  | ((first | refine qk (fun e => ⟨?_, t35 l _ hl⟩) ?_ | refine qk (fun e => ⟨?_, t63 _ _⟩) ?_); (next => exact flk); simp (disch := omega) only [go_sem, qc, dvP, mdP])
  | ((first | refine qe ?_ ?_ | refine qg ?_ ?_); (next => exact rvk); simp only [go_sem]; (first | exact VLe.refl _ | refine qh ?_ | refine qd ?_ | refine ql ?_ | skip))
  | with_reducible first | refine And.intro ?_ ?_ | intro _
 all_goals first
  | omega
  | grind [jb]
end
section
open Go Go.Proofs AF P48
set_option maxRecDepth 100000
theorem qxU {f : Nat → List AV} {sz : Nat} : ∀ {n i : Nat}, (∀ j, j < n → (f j).length = sz) → i < n → (((List.range n).flatMap f).drop (i * sz)).take sz = f i := by
 intro n
 induction n with
 | zero => intro i _ h; omega
 | succ n ih =>
  intro i h hi
  have hl : ∀ m, m ≤ n + 1 → ((List.range m).flatMap f).length = m * sz := by
   intro m
   induction m with
   | zero => simp
   | succ m ihm => intro hm; rw [List.range_succ, List.flatMap_append, List.length_append, ihm (by omega)]; simp [h m (by omega), Nat.succ_mul]
  rw [List.range_succ, List.flatMap_append]
  by_cases e : i = n
  ·subst e
   rw [List.drop_append_of_le_length (by rw [hl i (by omega)]; exact Nat.le_refl _), ← hl i (by omega), List.drop_length]
   simp [List.take_of_length_le (Nat.le_of_eq (h i (by omega)))]
  ·have hle : i * sz + sz ≤ ((List.range n).flatMap f).length := by
    rw [hl n (by omega), ← Nat.succ_mul]
    exact Nat.mul_le_mul_right sz (by omega)
   rw [List.drop_append_of_le_length (by omega), List.take_append_of_le_length (by rw [List.length_drop]; omega)]
   exact ih (fun j hj => h j (by omega)) (by omega)
def qC (l : List It) : List AV := l.flatMap qH
theorem zq (l : List It) : (qC l).length = l.length * 6 := by
 induction l with
 | nil => rfl
 | cons x l ih => unfold qC at *; rw [List.flatMap_cons, List.length_append, ih, qds, List.length_cons]; omega
theorem t28 (a b : List Int) (h : List AObj) (hl : a.length ≤ 1000000) : qs Tryz.prog 34 [zK a, zK b] h (.bool (decide (a = b))) h := by
 refine qo qs4 (by simp) ?_
 simp only [lcP, lnP, Nat.reduceAdd, Nat.reduceSub, List.replicate, caP, naP, List.append_nil]
 simp (disch := omega) only [qxx, zK, go_sem, qc, dvP, mdP]
 repeat' first
  | (with_reducible refine And.intro ?_ ?_)
  | (with_reducible intro _)
 all_goals first
  | omega
  | skip
 ·rename_i h1
  repeat' first
   | ((first | refine qe ?_ ?_ | refine qg ?_ ?_); (next => exact rvk); simp only [go_sem]; (first | exact VLe.refl _ | refine qh ?_ | refine qd ?_ | refine ql ?_ | skip))
   | with_reducible first | refine And.intro ?_ ?_ | intro _
  have : a ≠ b := by rintro rfl; exact h1 rfl
  simp [this]
 ·rename_i h1
  refine qJ (T := fun i : Nat => qv 26 [(0, zK a), (1, zK b), (12, .int .i64 a.length), (13, .int .i64 i)]) (H := fun _ => h)
   (inv := fun i => i ≤ a.length ∧ a.take i = b.take i) (m := fun i => a.length - i) 0 ⟨by omega, by simp⟩ (Wk.temps ?_) ?_
  ·simp only [zK, qv, List.foldl, List.replicate, go_sem, qr, qp, qm, qq]
   try (repeat' first | (with_reducible refine And.intro ?_ ?_) | (refine qh ?_; omega) | (refine qd ?_; rfl))
  ·rintro i ⟨i1, i2⟩ K hK
   by_cases hi : i < a.length
   ·simp (disch := omega) only [qv, zK, List.foldl, List.replicate, go_sem, qc, dvP, mdP]
    repeat' first
     | ((first | refine qe ?_ ?_ | refine qg ?_ ?_); (next => exact rvk); simp only [go_sem]; (first | exact VLe.refl _ | refine qh ?_ | refine qd ?_ | refine ql ?_ | skip))
     | with_reducible first | refine And.intro ?_ ?_ | intro _
    all_goals first
     | omega
     | skip
    ·rename_i h2 h3
     have : a ≠ b := by rintro rfl; exact h3 rfl
     simp [this]
    ·rename_i h2 h3
     refine hK _ _ (i + 1) ⟨by omega, ?_⟩ (by omega) (Wk.temps ?_)
     ·have e1 : a[i]? = b[i]? := by
       have hb : i < b.length := by omega
       simp [hi, hb] at h3
       simp [hi, hb, h3]
      rw [List.take_add_one, List.take_add_one, i2, e1]
     ·simp only [zK, qv, List.foldl, List.replicate, go_sem, qr, qp, qm, qq]
      try (repeat' first | (with_reducible refine And.intro ?_ ?_) | (refine qh ?_; omega) | (refine qd ?_; rfl))
   ·have e : i = a.length := by omega
    subst e
    simp (disch := omega) only [qv, zK, List.foldl, List.replicate, go_sem, qc, dvP, mdP]
    repeat' first
     | ((first | refine qe ?_ ?_ | refine qg ?_ ?_); (next => exact rvk); simp only [go_sem]; (first | exact VLe.refl _ | refine qh ?_ | refine qd ?_ | refine ql ?_ | skip))
     | with_reducible first | refine And.intro ?_ ?_ | intro _
    all_goals first
     | omega
     | skip
    rw [List.take_length, List.take_of_length_le (by omega)] at i2
    simp [i2]
def qaH : List It := [⟨1, 30, 0, 0, 0, [97, 98, 99]⟩, ⟨2, 10, 5, 3, 0, []⟩, ⟨1, 30, 0, 0, 0, [97, 98, 99]⟩, ⟨2, 10, 5, 3, 0, []⟩, ⟨1, 30, 0, 0, 0, [97, 98, 99]⟩]
theorem t37 (h : List AObj) : qs Tryz.prog 33 [] h (qu qaH) h := by
 refine qo qx7 (by simp) ?_
 simp only [lcP, lnP, Nat.reduceAdd, Nat.reduceSub, List.replicate, caP, naP, List.append_nil]
 simp (disch := omega) only [qzl, qM, go_sem, qc, dvP, mdP]
 repeat' first
  | (with_reducible refine And.intro ?_ ?_)
  | (with_reducible intro _)
 all_goals first
  | omega
  | rfl
  | skip
 refine qe ⟨trivial, trivial⟩ ?_
 simp only [go_sem]
 refine qc6 rfl (fun i hi => ?_)
 have : i = 0 ∨ i = 1 ∨ i = 2 ∨ i = 3 ∨ i = 4 := by have : i < 5 := hi; omega
 rcases this with rfl | rfl | rfl | rfl | rfl <;> rfl
end
section
open Go Go.Proofs AF P48
set_option maxRecDepth 100000
def hit (n : Nat) (p : List Int) (frm : Nat) (x : Nat × Int) : Bool := decide (0 ≤ qS n p x.1 ∧ x.2 + qS n p x.1 = p.getD frm 0)
theorem qiw (l : List It) (width : Int) {frm to : Nat} {c : Int} (h1 : frm ≤ to) (h2 : to ≤ l.length) (h3 : arc l width frm to = some c) : ∃ r, qcP l width frm = ku l width frm to ++ (to, c) :: r := by
 refine ⟨(List.range' (to + 1) (l.length - to)).filterMap fun to => (arc l width frm to).map fun c => (to, c), ?_⟩
 unfold qcP ku
 rw [show l.length + 1 - frm = (to - frm) + (1 + (l.length - to)) by omega, ← List.range'_append_1, ← List.range'_append_1, List.filterMap_append, List.filterMap_append]
 rw [show frm + (to - frm) = to by omega]
 congr 1
 simp [h3]
theorem qnC (l : List It) (width : Int) (p : List Int) {frm to : Nat} {c : Int} (h1 : frm ≤ to) (h2 : to ≤ l.length) (h3 : arc l width frm to = some c) (h4 : (ku l width frm to).find? (hit l.length p frm) = none) (h5 : hit l.length p frm (to, c) = true) :
  pick l p frm (qcP l width frm) = some to := by
 obtain ⟨r, hr⟩ := qiw l width h1 h2 h3
 unfold pick
 rw [hr]
 show ((ku l width frm to ++ (to, c) :: r).find? (hit l.length p frm)).map _ = _
 rw [List.find?_append, h4, List.find?_cons_of_pos h5]
 rfl
theorem qeR {l : List It} {width : Int} {p : List Int} {frm to : Nat} (h : pick l p frm (qcP l width frm) = some to) : frm ≤ to ∧ to ≤ l.length := by
 unfold pick at h
 rw [Option.map_eq_some_iff] at h
 obtain ⟨⟨t, c⟩, h1, rfl⟩ := h
 have := qaR.1 (List.mem_of_find?_eq_some h1)
 exact ⟨this.1, this.2.1⟩
theorem qiB {l : List It} {width : Int} {p : List Int} : ∀ (k k' frm : Nat), l.length + 1 - frm ≤ k → l.length + 1 - frm ≤ k' → qaX l width p k frm = qaX l width p k' frm := by
 intro k
 induction k with
 | zero =>
  intro k' frm h1 h2
  cases k' with
  | zero => rfl
  | succ k' =>
   simp only [qaX]
   cases hp : pick l p frm (qcP l width frm) with
   | none => rfl
   | some to => have := qeR hp; omega
 | succ k ih =>
  intro k' frm h1 h2
  cases k' with
  | zero =>
   simp only [qaX]
   cases hp : pick l p frm (qcP l width frm) with
   | none => rfl
   | some to => have := qeR hp; omega
  | succ k' =>
   simp only [qaX]
   cases hp : pick l p frm (qcP l width frm) with
   | none => rfl
   | some to =>
    have := qeR hp
    simp only
    split
    ·rw [ih k' (to + 1) (by omega) (by omega)]
    ·rfl
theorem qhR {l : List It} {width : Int} {p : List Int} {frm to : Nat} (hf : frm ≤ l.length) (h : pick l p frm (qcP l width frm) = some to) :
  qaX l width p (l.length + 1 - frm) frm = if to < l.length then to :: qaX l width p (l.length + 1 - (to + 1)) (to + 1) else [to] := by
 have hg := qeR h
 rw [show l.length + 1 - frm = (l.length - frm) + 1 by omega]
 rw [qaX, h]
 simp only
 split
 ·rw [qiB (l.length - frm) (l.length + 1 - (to + 1)) (to + 1) (by omega) (by omega)]
 ·rfl
def qyH (b v : Nat) (bs : List Nat) : AV := if bs = [] then .nl else .osl b v 1 0 bs.length
def qyI (v : Nat) (bs : List Nat) : AObj := if bs = [] then .emp 0 else .mem v 3 (cellsI (bs.map Int.ofNat))
theorem Low.of {h a b : List AObj} (e : b.length = a.length) (hb : ∀ o ∈ b, o ∈ a ∨ (qdu (h.length + a.length) o ∧ qdu (h.length + a.length + 1) o)) : Low (h ++ a) (h ++ b) := by
 refine ⟨by simp [e], fun o ho => ?_⟩
 rw [List.length_append]
 rcases List.mem_append.1 ho with ho | ho
 ·exact .inl (List.mem_append_left _ ho)
 ·rcases hb o ho with h1 | h1
  ·exact .inl (List.mem_append_right _ h1)
  ·exact .inr h1
theorem qmR {bs : List Nat} {to n : Nat} {c : AV} (h : c ∈ cellsI (bs.map Int.ofNat) ++ [.int .i64 to]) : jf n c = true := by
 unfold cellsI at h
 simp at h
 rcases h with ⟨a, _, rfl⟩ | rfl <;> rfl
theorem qqJ (b v : Nat) : qyH b v [] = .nl := rfl
theorem qqK (v : Nat) : qyI v [] = .emp 0 := rfl
theorem qeP {bs : List Nat} (h : bs ≠ []) (b v : Nat) : qyH b v bs = .osl b v 1 0 bs.length := if_neg h
theorem qeQ {bs : List Nat} (h : bs ≠ []) (v : Nat) : qyI v bs = .mem v 3 (cellsI (bs.map Int.ofNat)) := if_neg h
def jj (l : List It) (width : Int) : AV :=
 if jb l width = 0 then (if (kp l width).getD 0 0 < 0 then .tup [zK [], .int .i64 0, .int .i64 23] else .tup [zK ((brk l width).map Int.ofNat), .int .i64 ((kp l width).getD 0 0), .int .i64 0])
 else .tup [zK [], .int .i64 0, .int .i64 (jb l width)]
theorem qmH : VLe .nl (zK []) := kH
theorem qcp (l : List It) (width : Int) (h : jb l width = 0) : jk l = 0 ∧ 0 ≤ width ∧ width ≤ 1073741824 := by
 unfold jb qbb at h
 grind
set_option maxHeartbeats 4000000 in
theorem t13 (l : List It) (width : Int) (h : List AObj) (hl : l.length ≤ 300) : qs Tryz.prog 13 [qu l, .int .i64 width] h (jj l width) h := by
 by_cases hw : jb l width = 0
 ·obtain ⟨hc, w0, w1⟩ := qcp l width hw
  have hv := Valid.of hl hc
  have plen := qqN l width
  obtain ⟨p, hp⟩ : ∃ p, p = kp l width := ⟨_, rfl⟩
  by_cases hneg : (kp l width).getD 0 0 < 0
  ·refine qo qs2 (by simp) ?_
   simp only [lcP, lnP, Nat.reduceAdd, Nat.reduceSub, List.replicate, caP, naP, List.append_nil]
   simp (disch := omega) only [qxv, go_sem, qc, dvP, mdP]
   repeat' first
    | ((first | refine qj (t38 l width _ (by omega)) ?_ ?_ | refine qj (t39 l width hv w0 w1 _) ?_ ?_); (next => exact flk); simp (disch := omega) only [zK, hw, hneg, go_sem, qc, dvP, mdP])
    | ((first | refine qn (fun _ => t39 l width hv w0 w1 _) ?_ ?_); (next => exact flk); simp (disch := omega) only [zK, hw, hneg, go_sem, qc, dvP, mdP])
    | ((first | refine qk (fun e => ⟨?_, t38 l width _ (by omega)⟩) ?_ | refine qk (fun e => ⟨?_, t39 l width hv w0 w1 _⟩) ?_); (next => exact flk); simp (disch := omega) only [zK, hw, hneg, go_sem, qc, dvP, mdP])
    | ((first | refine qe ?_ ?_ | refine qg ?_ ?_); (next => exact rvk); simp only [go_sem]; (first | exact VLe.refl _ | refine qh ?_ | refine qd ?_ | refine ql ?_ | skip))
    | with_reducible first | refine And.intro ?_ ?_ | intro _
   all_goals first
    | omega
    | skip
   simp only [jj, hw, hneg, if_true]
   exact zo (zU qmH (zU (VLe.refl _) (zU (VLe.refl _) j4.nil)))
  ·have hfin := qhQ hc (width := width) (l.length + 1) 0 (by omega) (by omega) (by omega)
   refine qo qs2 (by simp) ?_
   simp only [lcP, lnP, Nat.reduceAdd, Nat.reduceSub, List.replicate, caP, naP, List.append_nil]
   simp (disch := omega) only [qxv, go_sem, qc, dvP, mdP]
   repeat' first
    | ((first | refine qj (t38 l width _ (by omega)) ?_ ?_ | refine qj (t39 l width hv w0 w1 _) ?_ ?_); (next => exact flk); simp (disch := omega) only [zK, hw, hneg, go_sem, qc, dvP, mdP])
    | ((first | refine qn (fun _ => t39 l width hv w0 w1 _) ?_ ?_); (next => exact flk); simp (disch := omega) only [zK, hw, hneg, go_sem, qc, dvP, mdP])
    | ((first | refine qk (fun e => ⟨?_, t38 l width _ (by omega)⟩) ?_ | refine qk (fun e => ⟨?_, t39 l width hv w0 w1 _⟩) ?_); (next => exact flk); simp (disch := omega) only [zK, hw, hneg, go_sem, qc, dvP, mdP])
    | ((first | refine qe ?_ ?_ | refine qg ?_ ?_); (next => exact rvk); simp only [go_sem]; (first | exact VLe.refl _ | refine qh ?_ | refine qd ?_ | refine ql ?_ | skip))
    | with_reducible first | refine And.intro ?_ ?_ | intro _
   all_goals first
    | omega
    | skip
   refine qJ (T := fun i : List Nat × Nat × Nat × AObj × Nat => qv 73 [(0, qu l), (1, .int .i64 width), (8, .op (h.length + 1) 1 0), (9, .op (h.length + 2) 1 0), (10, .op (h.length + 3) i.2.2.1 0)])
    (H := fun i => h ++ [.emp 1, .mem 1 42 [zK (kp l width)], .mem 1 42 [qyH (h.length + 5) i.2.2.2.2 i.1], .mem i.2.2.1 3 [.int .i64 i.2.1], i.2.2.2.1, qyI i.2.2.2.2 i.1])
    (inv := fun i => zf [i.2.2.2.1] 0 = true ∧ ((i.2.1 ≤ l.length ∧ 0 ≤ (kp l width).getD i.2.1 0 ∧ i.1 ++ qaX l width (kp l width) (l.length + 1 - i.2.1) i.2.1 = brk l width ∧ (i.1 = [] ∨ (i.1 ≠ [] ∧ i.1[i.1.length - 1]? = some (i.2.1 - 1) ∧ 0 < i.2.1 ∧ i.1.length ≤ i.2.1))) ∨
     (i.2.1 = l.length + 1 ∧ i.1 = brk l width ∧ i.1 ≠ [] ∧ i.1[i.1.length - 1]? = some l.length ∧ i.1.length ≤ i.2.1))) (m := fun i => l.length + 1 - i.2.1) ([], 0, 1, .emp 0, 0)
    ⟨rfl, .inl ⟨by simp only; omega, by simp only; omega, rfl, .inl rfl⟩⟩ (Wk.temps ?_) ?_
   ·simp only [qv, List.foldl, List.replicate, go_sem, qr, qp, qm, qq]
    try (repeat' first | (with_reducible refine And.intro ?_ ?_) | (refine qh ?_; omega) | (refine qd ?_; rfl))
   ·rintro ⟨bs, frm, V, O, v⟩ ⟨i0, i1⟩ K hK
    simp only at i0 i1 hK
    rcases i1 with ⟨j1, j2, j3, rfl | ⟨hne, hlast, hpos, hlen⟩⟩ | ⟨rfl, rfl, hne, hlast, hlen⟩
    ·have hpk := qdA hc (width := width) j1 j2
     obtain ⟨p, hp⟩ : ∃ p, p = kp l width := ⟨_, rfl⟩
     rw [← hp] at hpk j2 j3 plen
     have hbp : ∀ j, -1 ≤ p.getD j 0 ∧ p.getD j 0 ≤ 20000 * (l.length + 1 : Nat) := by rw [hp]; exact qaD hv.ok width (l.length + 1)
     have hbf := hbp frm
     have i0' : ∀ m, zf (O :: m) 0 = true := fun _ => i0
     simp only [← hp]
     simp (disch := omega) only [qv, List.foldl, List.replicate, qu, zK, qqJ, qqK, i0', go_sem, qc, dvP, mdP]
     repeat' first
      | ((first | refine qj (t40 l width frm _) ?_ ?_); (next => exact flk); simp (disch := omega) only [zK, go_sem, qc, dvP, mdP])
      | ((first | refine qn (fun _ => t40 l width frm _) ?_ ?_); (next => exact flk); simp (disch := omega) only [zK, go_sem, qc, dvP, mdP])
      | ((first | refine qk (fun e => ⟨?_, t40 l width frm _⟩) ?_); (next => exact flk); simp (disch := omega) only [zK, go_sem, qc, dvP, mdP])
      | ((first | refine qe ?_ ?_ | refine qg ?_ ?_); (next => exact rvk); simp only [go_sem]; (first | exact VLe.refl _ | refine qh ?_ | refine qd ?_ | refine ql ?_ | skip))
      | with_reducible first | refine And.intro ?_ ?_ | intro _
     all_goals first
      | omega
      | skip
     refine qbg hv w0 w1 j1 (S := fun to hh => hh = h ++ [.emp 1, .mem 1 42 [.sl p.length fun i => [.int .i64 (p.getD i 0)]], .mem 1 42 [.nl], .mem V 3 [.int .i64 frm], O, .emp 0] ∧ (ku l width frm to).find? (hit l.length p frm) = none)
      (E := fun e hh => ∃ to c, e = .exit 2 ∧ frm ≤ to ∧ to ≤ l.length ∧ pick l p frm (qcP l width frm) = some to ∧ arc l width frm to = some c ∧ hit l.length p frm (to, c) = true ∧ hh = h ++ [.emp 1, .mem 1 42 [.sl p.length fun i => [.int .i64 (p.getD i 0)]], .mem 1 42 [.osl (h.length + 5) 1 1 0 1], .mem V 3 [.int .i64 ((to : Int) + 1)], .mem (qA (some O) + 1) 3 [.int .i64 to], .mem 1 3 [.int .i64 to]]) ?_ ?_ ?_ ?_ ?_ ?_ ?_ ?_
     ·rintro to hh ⟨rfl, _⟩
      exact ⟨rfl, fun o ho => .inl ho⟩
     ·rintro e hh ⟨to, c, rfl, h1, h2, h3, h4, h5, rfl⟩
      refine Low.of rfl (fun o ho => ?_)
      simp only [List.mem_cons, List.not_mem_nil, or_false] at ho
      rcases ho with rfl | rfl | rfl | rfl | rfl | rfl <;> first | (left; simp; done) | (right; constructor <;> (intro c hc; simp at hc; subst hc; simp [jf]))
     ·rintro to hh h1 h2 h3 ⟨rfl, h4⟩
      refine ⟨rfl, ?_⟩
      rw [jt l width h1, h3, List.append_nil]
      exact h4
     ·exact ⟨rfl, by rw [qa9]; rfl⟩
     ·simp [jf, jf.lowVs, qeh, qu]
     ·rintro to c hh tl L h1 h2 h3 ⟨rfl, h4⟩ hlen
      simp only [qbi]
      have hcb := qav hv.ok h3
      have hbd := kw (n := l.length) hbp (by omega) to
      simp (disch := omega) only [List.append_assoc, eq_self, go_sem, qc, dvP, mdP]
      repeat' first
       | ((first | refine qj (t41 l.length p to _ plen h2 (by omega)) ?_ ?_); (next => exact flk); simp (disch := omega) only [List.append_assoc, qM, i0', go_sem, qc, dvP, mdP])
       | ((first | refine qk (fun e => ⟨?_, t41 l.length p to _ plen h2 (by omega)⟩) ?_); (next => exact flk); simp (disch := omega) only [List.append_assoc, qM, i0', go_sem, qc, dvP, mdP])
       | ((first | refine qe ?_ ?_ | refine qg ?_ ?_); (next => exact rvk); simp only [go_sem]; (first | exact VLe.refl _ | refine qh ?_ | refine qd ?_ | refine ql ?_ | skip))
       | with_reducible first | refine And.intro ?_ ?_ | intro _
      all_goals first
       | omega
       | skip
      ·rename_i h5
       refine ⟨h ++ [.emp 1, .mem 1 42 [.sl p.length fun i => [.int .i64 (p.getD i 0)]], .mem 1 42 [.osl (h.length + 5) 1 1 0 1], .mem V 3 [.int .i64 ((to : Int) + 1)], .mem (qA (some O) + 1) 3 [.int .i64 to], .mem 1 3 [.int .i64 to]], by simp, by simp, ?_⟩
       have hh5 : hit l.length p frm (to, c) = true := by unfold hit; simpa using h5
       exact ⟨to, c, h1, h2, qnC l width p h1 h2 h3 h4 hh5, h3, hh5, rfl⟩
      ·rename_i h5
       refine ⟨h ++ [.emp 1, .mem 1 42 [.sl p.length fun i => [.int .i64 (p.getD i 0)]], .mem 1 42 [.nl], .mem V 3 [.int .i64 frm], O, .emp 0], by simp, by simp, rfl, ?_⟩
       have hh5 : hit l.length p frm (to, c) = false := by unfold hit; simpa using h5
       rw [jt l width h1, h3, List.find?_append, h4]
       simp [hh5]
     ·rintro hh ⟨_, h4⟩
      obtain ⟨to, c, h5, _⟩ := hpk
      unfold pick at h5
      rw [qbV] at h4
      unfold hit at h4
      rw [h4] at h5
      cases h5
     ·rintro e hh ⟨to, c, rfl, h1, h2, h3, h4, h5, rfl⟩
      show Ex.inBlock 2 _ (.exit 2) _ _
      simp (disch := omega) only [i0', go_sem, qc, dvP, mdP]
      repeat' first
       | (with_reducible refine And.intro ?_ ?_)
       | (with_reducible intro _)
      all_goals first
       | omega
       | skip
      have hst := qhR (width := width) (p := p) j1 h3
      rw [hst] at j3
      unfold hit at h5
      simp only [decide_eq_true_eq] at h5
      refine hK _ _ ([to], to + 1, V + 1, .mem (qA (some O) + 1) 3 [.int .i64 to], 1) ⟨rfl, ?_⟩ (by simp only; omega) ?_
      ·simp only
       by_cases hlt : to < l.length
       ·left
        rw [if_pos hlt] at j3
        refine ⟨hlt, ?_, by rw [← hp]; simpa using j3, .inr ⟨by simp, by simp, by omega, by simp⟩⟩
        have : qS l.length p to = p.getD (to + 1) 0 := by unfold qS; rw [if_neg (by omega)]
        rw [← hp]
        omega
       ·right
        rw [if_neg hlt] at j3
        exact ⟨by omega, by simpa using j3, by simp, by simp; omega, by simp⟩
      ·rw [qeP (by simp), qeQ (by simp)]
       simp only [← hp]
       refine Wk.temps ?_
       simp only [qu, zK, qv, List.foldl, List.replicate, go_sem, qr, qp, qm, qq]
       try (repeat' first | (with_reducible refine And.intro ?_ ?_) | (refine qh ?_; omega) | (refine qd ?_; rfl))
    ·have hpk := qdA hc (width := width) j1 j2
     obtain ⟨p, hp⟩ : ∃ p, p = kp l width := ⟨_, rfl⟩
     rw [← hp] at hpk j2 j3 plen
     have hbp : ∀ j, -1 ≤ p.getD j 0 ∧ p.getD j 0 ≤ 20000 * (l.length + 1 : Nat) := by rw [hp]; exact qaD hv.ok width (l.length + 1)
     have hbf := hbp frm
     have eA := qeP hne (h.length + 5) v
     have eO := qeQ hne v
     have hbl : (cellsI (bs.map Int.ofNat)).length = bs.length := by rw [j9, List.length_map]
     have hb0 : 0 < bs.length := List.length_pos_iff.2 hne
     have eL : (cellsI (bs.map Int.ofNat))[bs.length - 1]? = some (.int .i64 ((frm - 1 : Nat) : Int)) := by simp [cellsI, hlast]
     have eT : ((bs.length : Int) - 1).toNat = bs.length - 1 := by omega
     have i0' : ∀ m, zf (O :: m) 0 = true := fun _ => i0
     simp only [← hp]
     simp (disch := omega) only [qv, List.foldl, List.replicate, qu, zK, eA, eO, i0', hbl, eL, eT, go_sem, qc, dvP, mdP]
     repeat' first
      | ((first | refine qj (t40 l width frm _) ?_ ?_); (next => exact flk); simp (disch := omega) only [zK, go_sem, qc, dvP, mdP])
      | ((first | refine qn (fun _ => t40 l width frm _) ?_ ?_); (next => exact flk); simp (disch := omega) only [zK, go_sem, qc, dvP, mdP])
      | ((first | refine qk (fun e => ⟨?_, t40 l width frm _⟩) ?_); (next => exact flk); simp (disch := omega) only [zK, go_sem, qc, dvP, mdP])
      | ((first | refine qe ?_ ?_ | refine qg ?_ ?_); (next => exact rvk); simp only [go_sem]; (first | exact VLe.refl _ | refine qh ?_ | refine qd ?_ | refine ql ?_ | skip))
      | with_reducible first | refine And.intro ?_ ?_ | intro _
     all_goals first
      | omega
      | skip
     refine qbg hv w0 w1 j1 (S := fun to hh => hh = h ++ [.emp 1, .mem 1 42 [.sl p.length fun i => [.int .i64 (p.getD i 0)]], .mem 1 42 [.osl (h.length + 5) v 1 0 bs.length], .mem V 3 [.int .i64 frm], O, .mem v 3 (cellsI (bs.map Int.ofNat))] ∧ (ku l width frm to).find? (hit l.length p frm) = none)
      (E := fun e hh => ∃ to c, e = .exit 2 ∧ frm ≤ to ∧ to ≤ l.length ∧ pick l p frm (qcP l width frm) = some to ∧ arc l width frm to = some c ∧ hit l.length p frm (to, c) = true ∧ hh = h ++ [.emp 1, .mem 1 42 [.sl p.length fun i => [.int .i64 (p.getD i 0)]], .mem 1 42 [.osl (h.length + 5) (v + 1) 1 0 (bs.length + 1)], .mem V 3 [.int .i64 ((to : Int) + 1)], .mem (qA (some O) + 1) 3 [.int .i64 to], .mem (v + 1) 3 (cellsI (bs.map Int.ofNat) ++ [.int .i64 to])]) ?_ ?_ ?_ ?_ ?_ ?_ ?_ ?_
     ·rintro to hh ⟨rfl, _⟩
      exact ⟨rfl, fun o ho => .inl ho⟩
     ·rintro e hh ⟨to, c, rfl, h1, h2, h3, h4, h5, rfl⟩
      refine Low.of rfl (fun o ho => ?_)
      simp only [List.mem_cons, List.not_mem_nil, or_false] at ho
      rcases ho with rfl | rfl | rfl | rfl | rfl | rfl <;> first | (left; simp; done) | (right; constructor <;> (intro c hc; first | (simp at hc; subst hc; simp [jf]; done) | exact qmR hc))
     ·rintro to hh h1 h2 h3 ⟨rfl, h4⟩
      refine ⟨rfl, ?_⟩
      rw [jt l width h1, h3, List.append_nil]
      exact h4
     ·exact ⟨rfl, by rw [qa9]; rfl⟩
     ·simp [jf, jf.lowVs, qeh, qu]
     ·rintro to c hh tl L h1 h2 h3 ⟨rfl, h4⟩ hlen
      simp only [qbi]
      have hcb := qav hv.ok h3
      have hbd := kw (n := l.length) hbp (by omega) to
      simp (disch := omega) only [List.append_assoc, eq_self, go_sem, qc, dvP, mdP]
      repeat' first
       | ((first | refine qj (t41 l.length p to _ plen h2 (by omega)) ?_ ?_); (next => exact flk); simp (disch := omega) only [List.append_assoc, qM, i0', hbl, go_sem, qc, dvP, mdP])
       | ((first | refine qk (fun e => ⟨?_, t41 l.length p to _ plen h2 (by omega)⟩) ?_); (next => exact flk); simp (disch := omega) only [List.append_assoc, qM, i0', hbl, go_sem, qc, dvP, mdP])
       | ((first | refine qe ?_ ?_ | refine qg ?_ ?_); (next => exact rvk); simp only [go_sem]; (first | exact VLe.refl _ | refine qh ?_ | refine qd ?_ | refine ql ?_ | skip))
       | with_reducible first | refine And.intro ?_ ?_ | intro _
      all_goals first
       | omega
       | (rw [bne_iff_ne]; omega)
       | skip
      ·rename_i h5
       refine ⟨h ++ [.emp 1, .mem 1 42 [.sl p.length fun i => [.int .i64 (p.getD i 0)]], .mem 1 42 [.osl (h.length + 5) (v + 1) 1 0 (bs.length + 1)], .mem V 3 [.int .i64 ((to : Int) + 1)], .mem (qA (some O) + 1) 3 [.int .i64 to], .mem (v + 1) 3 (cellsI (bs.map Int.ofNat) ++ [.int .i64 to])], by simp [List.take_of_length_le (Nat.le_of_eq hbl)], by simp, ?_⟩
       have hh5 : hit l.length p frm (to, c) = true := by unfold hit; simpa using h5
       exact ⟨to, c, h1, h2, qnC l width p h1 h2 h3 h4 hh5, h3, hh5, rfl⟩
      ·rename_i h5
       refine ⟨h ++ [.emp 1, .mem 1 42 [.sl p.length fun i => [.int .i64 (p.getD i 0)]], .mem 1 42 [.osl (h.length + 5) v 1 0 bs.length], .mem V 3 [.int .i64 frm], O, .mem v 3 (cellsI (bs.map Int.ofNat))], by simp, by simp, rfl, ?_⟩
       have hh5 : hit l.length p frm (to, c) = false := by unfold hit; simpa using h5
       rw [jt l width h1, h3, List.find?_append, h4]
       simp [hh5]
     ·rintro hh ⟨_, h4⟩
      obtain ⟨to, c, h5, _⟩ := hpk
      unfold pick at h5
      rw [qbV] at h4
      unfold hit at h4
      rw [h4] at h5
      cases h5
     ·rintro e hh ⟨to, c, rfl, h1, h2, h3, h4, h5, rfl⟩
      show Ex.inBlock 2 _ (.exit 2) _ _
      simp (disch := omega) only [i0', go_sem, qc, dvP, mdP]
      repeat' first
       | (with_reducible refine And.intro ?_ ?_)
       | (with_reducible intro _)
      all_goals first
       | omega
       | skip
      have hst := qhR (width := width) (p := p) j1 h3
      rw [hst] at j3
      unfold hit at h5
      simp only [decide_eq_true_eq] at h5
      refine hK _ _ (bs ++ [to], to + 1, V + 1, .mem (qA (some O) + 1) 3 [.int .i64 to], v + 1) ⟨rfl, ?_⟩ (by simp only; omega) ?_
      ·simp only
       by_cases hlt : to < l.length
       ·left
        rw [if_pos hlt] at j3
        refine ⟨hlt, ?_, by rw [← hp]; simpa using j3, .inr ⟨by simp, by simp, by omega, by simp; omega⟩⟩
        have : qS l.length p to = p.getD (to + 1) 0 := by unfold qS; rw [if_neg (by omega)]
        rw [← hp]
        omega
       ·right
        rw [if_neg hlt] at j3
        exact ⟨by omega, by simpa using j3, by simp, by simp; omega, by simp; omega⟩
      ·rw [qeP (by simp), qeQ (by simp)]
       have e1 : cellsI ((bs ++ [to]).map Int.ofNat) = cellsI (bs.map Int.ofNat) ++ [.int .i64 to] := by simp [cellsI]
       simp only [← hp, e1, List.length_append, List.length_singleton]
       refine Wk.temps ?_
       simp only [qu, zK, qv, List.foldl, List.replicate, go_sem, qr, qp, qm, qq]
       try (repeat' first | (with_reducible refine And.intro ?_ ?_) | (refine qh ?_; omega) | (refine qd ?_; rfl))
    ·have hbl : (cellsI ((brk l width).map Int.ofNat)).length = (brk l width).length := by rw [j9, List.length_map]
     have eA := qeP hne (h.length + 5) v
     have eO := qeQ hne v
     have hb0 : 0 < (brk l width).length := List.length_pos_iff.2 hne
     have eL : (cellsI ((brk l width).map Int.ofNat))[(brk l width).length - 1]? = some (.int .i64 (l.length : Int)) := by simp [cellsI, hlast]
     have eT : (((brk l width).length : Int) - 1).toNat = (brk l width).length - 1 := by omega
     simp (disch := omega) only [qv, List.foldl, List.replicate, qu, zK, eA, eO, hbl, eL, eT, go_sem, qc, dvP, mdP]
     repeat' first
      | ((first | refine qe ?_ ?_ | refine qg ?_ ?_); (next => exact rvk); simp only [go_sem]; (first | exact VLe.refl _ | refine qh ?_ | refine qd ?_ | refine ql ?_ | skip))
      | with_reducible first | refine And.intro ?_ ?_ | intro _
     all_goals first
      | omega
      | skip
     rw [if_pos (by rw [hbl]; exact Nat.le_refl _)]
     unfold jj
     rw [if_pos hw, if_neg hneg]
     exact zo (zU (qeI (by rw [List.length_map])) (zU (VLe.refl _) (zU (VLe.refl _) j4.nil)))
 ·refine qo qs2 (by simp) ?_
  simp only [lcP, lnP, Nat.reduceAdd, Nat.reduceSub, List.replicate, caP, naP, List.append_nil]
  simp (disch := omega) only [qxv, go_sem, qc, dvP, mdP]
  repeat' first
   | ((first | refine qj (t38 l width _ (by omega)) ?_ ?_); (next => exact flk); simp (disch := omega) only [hw, go_sem, qc, dvP, mdP])
   | ((first | refine qk (fun e => ⟨?_, t38 l width _ (by omega)⟩) ?_); (next => exact flk); simp (disch := omega) only [hw, go_sem, qc, dvP, mdP])
   | ((first | refine qe ?_ ?_ | refine qg ?_ ?_); (next => exact rvk); simp only [go_sem]; (first | exact VLe.refl _ | refine qh ?_ | refine qd ?_ | refine ql ?_ | skip))
   | with_reducible first | refine And.intro ?_ ?_ | intro _
  all_goals first
   | omega
   | skip
  simp only [jj, hw, if_false]
  exact zo (zU qmH (zU (VLe.refl _) (zU (VLe.refl _) j4.nil)))
end

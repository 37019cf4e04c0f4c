import Derived.Test.YtjijgafefdolkaaGreatDoorK7
set_option linter.all false
set_option linter.unusedSimpArgs false
set_option linter.unusedVariables false
set_option linter.unusedSectionVars false
section
open Go Go.Proofs AF HY
namespace LN
set_option maxRecDepth 100000
def jh (L : List (List UInt8)) : List AV := L.map fun s => .str s
theorem zJ (L : List (List UInt8)) : (jh L).length = L.length := by simp [jh]
theorem qmn (L : List (List UInt8)) : ((List.range L.length).flatMap fun i => [AV.str (L.getD i [])]) = jh L := by
 unfold jh
 apply List.ext_getElem?
 intro i
 have e : ((List.range L.length).flatMap fun i => [AV.str (L.getD i [])]) = (List.range L.length).map fun i => AV.str (L.getD i []) := by
  induction List.range L.length with
  | nil => rfl
  | cons a r ih => rw [List.flatMap_cons, List.map_cons, ih]; rfl
 rw [e, List.getElem?_map, List.getElem?_map]
 by_cases hi : i < L.length
 ·rw [List.getElem?_range hi, List.getElem?_eq_getElem hi]
  simp [List.getD_eq_getElem?_getD, hi]
 ·rw [List.getElem?_eq_none (by simpa using hi), List.getElem?_eq_none (by omega)]
  rfl
theorem qin (h : List AObj) (L : List (List UInt8)) : qz h (qF L) = some (L.length, jh L) := by
 show some (L.length, _) = _
 rw [qmn]
theorem qjj {L : List (List UInt8)} (h : L ≠ []) : valP (.isnil .slice false) [qF L] = .bool false := by
 unfold qF
 rw [qbR, if_neg (by simpa using h)]
 rfl
theorem qf3 {L : List (List UInt8)} : okP (.isnil .slice false) [qF L] = True := eq_true trivial
theorem qrh (L : List (List UInt8)) (n : Nat) : ∀ c ∈ jh L, jf n c = true := by
 intro c hc
 unfold jh at hc
 obtain ⟨x, _, rfl⟩ := List.mem_map.1 hc
 rfl
theorem qAH (h : List AObj) : qs Tryz.prog 85 [qF []] h (qF []) h := by
 have s1 := fun h => qin h []
 have z0 : valP (.isnil .slice false) [qF []] = .anyb := rfl
 have z1 : okP (.isnil .slice false) [qF []] = True := eq_true trivial
 have e0 : jh [] = [] := rfl
 refine qo qv8 (by simp) ?_
 simp only [lcP, lnP, Nat.reduceAdd, Nat.reduceSub, List.replicate, caP, naP, List.append_nil]
 simp (disch := omega) only [qxP, s1, z0, z1, e0, go_sem, qc, dvP, mdP]
 repeat' first
  | ((first | refine qe ?_ ?_ | refine qg ?_ ?_); (next => exact rvk); simp only [go_sem]; (first | exact VLe.refl _ | refine qh ?_ | refine qd ?_ | refine ql ?_ | skip))
  | with_reducible first | refine And.intro ?_ ?_ | intro _
 all_goals try exact clz
 ·exact kH
 ·rfl
 ·exact VLe.sl_eq rfl (fun i hi => absurd hi (by simp))
theorem qAG (L : List (List UInt8)) (h : List AObj) (k : Nat) (hk : zf h k = true) (h0 : L ≠ []) (hl : L.length ≤ 1000000000) :
  qs Tryz.prog 85 [qF L] h (.osl k (qA (qL k h) + 1) 1 0 L.length) (qO k h (.mem (qA (qL k h) + 1) 9 (jh L))) := by
 have s1 := fun h => qin h L
 have eP := zJ L
 have hp := List.length_pos_iff.2 h0
 have z0 := qjj h0
 have z1 := @qf3 L
 have s2 : (qF L).strip = qF L := rfl
 have s3 : (qF L).flag = true := rfl
 refine qgE qv8 k (by simp) ?_
 simp only [lcP, lnP, Nat.reduceAdd, Nat.reduceSub, List.replicate, caP, naP, List.append_nil]
 simp (disch := omega) only [qxP, s1, s2, s3, z0, z1, go_sem, qc, dvP, mdP]
 repeat' first
  | (with_reducible refine And.intro ?_ ?_)
  | (with_reducible intro _)
 all_goals first
  | omega
  | contradiction
  | skip
 ·rfl
 exact ⟨h.length + 1, 2, 1, 0, L.length, 9, jh L, _, ⟨trivial, trivial⟩, rfl, rfl, by omega, by simp only [go_sem], qrh L _, hk, rfl, rfl⟩
end LN
end
section
open Go Go.Proofs AF HY
namespace LN
set_option maxRecDepth 100000
def qda : List (List UInt8 × Int) → List (List UInt8 × Int) → Int × List (List UInt8 × Int)
 | [], m => (0, m)
 | (l, v) :: r, m => if qh2 l = false then (14, []) else if (m.lookup l).isSome = true then (7, []) else if v < 1 ∨ 4096 < v then (2, []) else qda r (m ++ [(l, v)])
def qa7 (m : List (List UInt8 × Int)) (it : Int → List UInt8) : List (List UInt8) → Int × List (List UInt8)
 | [] => (0, [])
 | t :: r => if (qdE m it t).2 ≠ 0 then ((qdE m it t).2, []) else if (qa7 m it r).1 ≠ 0 then ((qa7 m it r).1, []) else (0, (qdE m it t).1 :: (qa7 m it r).2)
def qkx (it : Int → List UInt8) (ts L : List (List UInt8)) (V : List Int) : Int × List (List UInt8) :=
 if L.length ≠ V.length then (9, []) else if 4096 < L.length ∨ 4096 < ts.length then (4, []) else if (qda (L.zip V) []).1 ≠ 0 then ((qda (L.zip V) []).1, []) else qa7 (qda (L.zip V) []).2 it ts
theorem qrN {L : List (List UInt8)} {V : List Int} {i : Nat} (h1 : i < L.length) (h2 : i < V.length) : (L.zip V).drop i = (L.getD i [], V.getD i 0) :: (L.zip V).drop (i + 1) := by
 rw [List.drop_eq_getElem_cons (by simp; omega)]
 simp [List.getD_eq_getElem?_getD, h1, h2]
theorem qjp {m : List (List UInt8 × Int)} {k : List UInt8} {n : Int} (h : m.lookup k = some n) : (k, n) ∈ m := by
 induction m with
 | nil => cases h
 | cons p m ih =>
  obtain ⟨a, b⟩ := p
  rw [List.lookup_cons] at h
  split at h
  ·rename_i e
   cases h
   rw [eq_of_beq e]
   simp
  ·exact List.mem_cons_of_mem _ (ih h)
def qlV (f : List UInt8 → List UInt8) (ts : List (List UInt8)) (i : Nat) : List (List UInt8) := (ts.take i).map f ++ ts.drop i
theorem qsA (f : List UInt8 → List UInt8) (ts : List (List UInt8)) (i : Nat) (hi : i ≤ ts.length) : (qlV f ts i).length = ts.length := by simp [qlV]; omega
theorem qsB {f : List UInt8 → List UInt8} {ts : List (List UInt8)} {i : Nat} (hi : i < ts.length) : (jh (qlV f ts i)).take i ++ AV.str (f (ts.getD i [])) :: (jh (qlV f ts i)).drop (i + 1) = jh (qlV f ts (i + 1)) := by
 have e1 : (((ts.take i).map f).map fun s => AV.str s).length = i := by simp; omega
 have e2 : ts.take (i + 1) = ts.take i ++ [ts.getD i []] := by rw [List.take_add_one, List.getD_eq_getElem?_getD, List.getElem?_eq_getElem hi]; rfl
 unfold jh qlV
 rw [e2]
 simp only [List.map_append, List.map_cons, List.map_nil]
 rw [List.take_append_of_le_length (by omega), List.take_of_length_le (by omega), List.drop_append, e1, List.drop_eq_nil_of_le (by omega), List.nil_append, show i + 1 - i = 1 by omega, ← List.map_drop, List.drop_drop]
 simp
theorem qjG {m : List (List UInt8 × Int)} {it : Int → List UInt8} : ∀ {ts : List (List UInt8)} {i : Nat}, i < ts.length → (∀ j, j < i → (qdE m it (ts.getD j [])).2 = 0) → (qdE m it (ts.getD i [])).2 ≠ 0 → qa7 m it ts = ((qdE m it (ts.getD i [])).2, []) := by
 intro ts
 induction ts with
 | nil => intro i hi; simp at hi
 | cons t r ih =>
  intro i hi hj he
  unfold qa7
  cases i with
  | zero => rw [List.getD_cons_zero] at he ⊢; rw [if_pos he]
  | succ i =>
   have h0 := hj 0 (by omega)
   rw [List.getD_cons_zero] at h0
   rw [List.getD_cons_succ] at he ⊢
   rw [if_neg (fun hc => hc h0), ih (by simpa using hi) (fun j h => by have := hj (j + 1) (by omega); rwa [List.getD_cons_succ] at this) he, if_pos he]
theorem qnP {m : List (List UInt8 × Int)} {it : Int → List UInt8} : ∀ {ts : List (List UInt8)}, (∀ j, j < ts.length → (qdE m it (ts.getD j [])).2 = 0) → qa7 m it ts = (0, ts.map fun t => (qdE m it t).1) := by
 intro ts
 induction ts with
 | nil => intro _; rfl
 | cons t r ih =>
  intro hj
  unfold qa7
  have h0 := hj 0 (by simp)
  rw [List.getD_cons_zero] at h0
  rw [if_neg (fun hc => hc h0), ih (fun j h => by have := hj (j + 1) (by simp; omega); rwa [List.getD_cons_succ] at this), if_neg (by simp)]
  rfl
theorem qaA : VLe .nl (qF []) := kH
set_option maxHeartbeats 4000000 in
theorem t21 (it : Int → List UInt8) (ts L : List (List UInt8)) (V : List Int) (h : List AObj) (h1 : ts.length ≤ 1000000000) (h2 : L.length ≤ 1000000000) (h3 : V.length ≤ 1000000000)
  (h4 : ∀ i, i < ts.length → (ts.getD i []).length ≤ 1000000000) (h5 : ∀ i, i < L.length → (L.getD i []).length ≤ 1000000000)
  (hit : ∀ n, n ∈ V → 1 ≤ n → n ≤ 4096 → (it n).length ≤ 20 ∧ ∀ l, qs Tryz.prog 120 [.int .i64 n] (h ++ l) (.str (it n)) (h ++ l)) :
  qs Tryz.prog 53 [qF ts, qF L, qy V] h (.tup [qF (qkx it ts L V).2, .int .i64 (qkx it ts L V).1]) h := by
 by_cases g1 : L.length = V.length
 ·have k1 : ((L.length : Int) = V.length) = True := eq_true (by omega)
  by_cases g2 : 4096 < L.length
  ·have k2 : (4096 < (L.length : Int)) = True := eq_true (by omega)
   have hV : qkx it ts L V = (4, []) := by unfold qkx; rw [if_neg (fun hc => hc g1), if_pos (.inl g2)]
   rw [hV]
   refine qo qp4 (by simp) ?_
   simp only [lcP, lnP, Nat.reduceAdd, Nat.reduceSub, List.replicate, caP, naP, List.append_nil]
   simp (disch := omega) only [qu6, k1, k2, qF, qy, go_sem, qc, dvP, mdP]
   repeat' first
    | ((first | refine qe ?_ ?_ | refine qg ?_ ?_); (next => exact rvk); simp only [go_sem]; (first | exact VLe.refl _ | refine qh ?_ | refine qd ?_ | refine ql ?_ | skip))
    | with_reducible first | refine And.intro ?_ ?_ | intro _
   all_goals try exact clz
   all_goals exact zo ⟨qaA, VLe.refl _, trivial⟩
  have k2 : (4096 < (L.length : Int)) = False := eq_false (by omega)
  by_cases g3 : 4096 < ts.length
  ·have k3 : (4096 < (ts.length : Int)) = True := eq_true (by omega)
   have hV : qkx it ts L V = (4, []) := by unfold qkx; rw [if_neg (fun hc => hc g1), if_pos (.inr g3)]
   rw [hV]
   refine qo qp4 (by simp) ?_
   simp only [lcP, lnP, Nat.reduceAdd, Nat.reduceSub, List.replicate, caP, naP, List.append_nil]
   simp (disch := omega) only [qu6, k1, k2, k3, qF, qy, go_sem, qc, dvP, mdP]
   repeat' first
    | ((first | refine qe ?_ ?_ | refine qg ?_ ?_); (next => exact rvk); simp only [go_sem]; (first | exact VLe.refl _ | refine qh ?_ | refine qd ?_ | refine ql ?_ | skip))
    | with_reducible first | refine And.intro ?_ ?_ | intro _
   all_goals try exact clz
   all_goals exact zo ⟨qaA, VLe.refl _, trivial⟩
  have k3 : (4096 < (ts.length : Int)) = False := eq_false (by omega)
  have hR : qkx it ts L V = if (qda (L.zip V) []).1 ≠ 0 then ((qda (L.zip V) []).1, []) else qa7 (qda (L.zip V) []).2 it ts := by
   unfold qkx; rw [if_neg (fun hc => hc g1), if_neg (by rintro (h | h) <;> omega)]
  obtain ⟨R, hRR⟩ : ∃ R, R = qkx it ts L V := ⟨_, rfl⟩
  rw [← hRR] at hR ⊢
  refine qo qp4 (by simp) ?_
  simp only [lcP, lnP, Nat.reduceAdd, Nat.reduceSub, List.replicate, caP, naP, List.append_nil]
  simp (disch := omega) only [qu6, k1, k2, k3, qF, qy, go_sem, qc, dvP, mdP]
  repeat' first
   | ((first | refine qe ?_ ?_ | refine qg ?_ ?_); (next => exact rvk); simp only [go_sem]; (first | exact VLe.refl _ | refine qh ?_ | refine qd ?_ | refine ql ?_ | skip))
   | with_reducible first | refine And.intro ?_ ?_ | intro _
  all_goals try exact clz
  refine qJ (T := fun i : Nat × List (List UInt8 × Int) => qv 92 [(0, qF ts), (2, qy V), (8, .mp (h.length + 1) 1), (32, qF L), (33, .int .i64 L.length), (34, .int .i64 i.1)])
   (H := fun i => h ++ [.emp 1, .map 1 (qgD i.2), .emp 0])
   (inv := fun i => i.1 ≤ L.length ∧ qda (L.zip V) [] = qda ((L.zip V).drop i.1) i.2 ∧ ∀ p ∈ i.2, p.2 ∈ V ∧ 1 ≤ p.2 ∧ p.2 ≤ 4096) (m := fun i => L.length - i.1) (0, []) ⟨Nat.zero_le _, rfl, by simp⟩ (Wk.temps ?_) ?_
  ·(simp only [qF, qy, qv, List.foldl, List.replicate, go_sem, qr, qp, qm, qq]; try (repeat' first | (with_reducible refine And.intro ?_ ?_) | (refine qh ?_; omega) | (refine qd ?_; rfl) | exact VLe.refl _))
  rintro ⟨i, m⟩ ⟨i1, i2, i3⟩ K hK
  simp only at i1 i2 i3 hK
  by_cases hi : i < L.length
  ·have q0 : ((i : Int) < V.length) = True := eq_true (by omega)
   rw [qrN hi (by omega)] at i2
   have c44 := fun h => t44 (L.getD i []) h (h5 i hi)
   obtain ⟨l, hl⟩ : ∃ l, l = L.getD i [] := ⟨_, rfl⟩
   obtain ⟨v, hv⟩ : ∃ v, v = V.getD i 0 := ⟨_, rfl⟩
   have hvm : v ∈ V := by rw [hv, List.getD_eq_getElem?_getD, List.getElem?_eq_getElem (show i < V.length by omega)]; exact List.getElem_mem _
   have el := hl.symm
   have ev := hv.symm
   rw [el, ev] at i2
   rw [el] at c44
   simp only [qda] at i2
   cases hn : qh2 l with
   | false =>
    rw [hn] at c44 i2
    rw [if_pos rfl] at i2
    have hV : R = (14, []) := by rw [hR, i2]; rfl
    rw [hV]
    simp (disch := omega) only [qv, List.foldl, List.replicate, qF, qy, el, ev, go_sem, qc, dvP, mdP]
    repeat' first
     | ((first | refine qj (c44 _) ?_ ?_); (next => exact flk); simp (disch := omega) only [qF, qy, el, ev, go_sem, qc, dvP, mdP])
     | ((first | refine qn (fun _ => c44 _) ?_ ?_); (next => exact flk); simp (disch := omega) only [qF, qy, el, ev, go_sem, qc, dvP, mdP])
     | ((first | refine qk (fun e => ⟨?_, c44 _⟩) ?_); (next => exact flk); simp (disch := omega) only [qF, qy, el, ev, go_sem, qc, dvP, mdP])
     | ((first | refine qe ?_ ?_ | refine qg ?_ ?_); (next => exact rvk); simp only [go_sem]; (first | exact VLe.refl _ | refine qh ?_ | refine qd ?_ | refine ql ?_ | skip))
     | with_reducible first | refine And.intro ?_ ?_ | intro _
    all_goals try exact clz
    all_goals exact zo ⟨qaA, VLe.refl _, trivial⟩
   | true =>
   rw [hn] at c44 i2
   rw [if_neg (by simp)] at i2
   cases hk : m.lookup l with
   | some u =>
    rw [hk] at i2
    rw [if_pos (show (some u).isSome = true from rfl)] at i2
    have hV : R = (7, []) := by rw [hR, i2]; rfl
    rw [hV]
    have e1 := qa5 (z := .int .i64 0) hk
    simp (disch := omega) only [qv, List.foldl, List.replicate, qF, qy, el, ev, go_sem, qc, dvP, mdP]
    repeat' first
     | ((first | refine qj (c44 _) ?_ ?_); (next => exact flk); simp (disch := omega) only [qF, qy, el, ev, e1, qK, Option.getD_some, Option.isSome_some, go_sem, qc, dvP, mdP])
     | ((first | refine qn (fun _ => c44 _) ?_ ?_); (next => exact flk); simp (disch := omega) only [qF, qy, el, ev, e1, qK, Option.getD_some, Option.isSome_some, go_sem, qc, dvP, mdP])
     | ((first | refine qk (fun e => ⟨?_, c44 _⟩) ?_); (next => exact flk); simp (disch := omega) only [qF, qy, el, ev, e1, qK, Option.getD_some, Option.isSome_some, go_sem, qc, dvP, mdP])
     | ((first | refine qe ?_ ?_ | refine qg ?_ ?_); (next => exact rvk); simp only [go_sem]; (first | exact VLe.refl _ | refine qh ?_ | refine qd ?_ | refine ql ?_ | skip))
     | with_reducible first | refine And.intro ?_ ?_ | intro _
    all_goals try exact clz
    all_goals exact zo ⟨qaA, VLe.refl _, trivial⟩
   | none =>
   rw [hk] at i2
   rw [if_neg (by simp)] at i2
   have e1 := qa4 (z := .int .i64 0) hk
   have e2 := qmY (v := v) hk
   by_cases r1 : v < 1
   ·have q1 : (v < 1) = True := eq_true r1
    rw [if_pos (.inl r1)] at i2
    have hV : R = (2, []) := by rw [hR, i2]; rfl
    rw [hV]
    simp (disch := omega) only [qv, List.foldl, List.replicate, qF, qy, el, ev, q0, q1, go_sem, qc, dvP, mdP]
    repeat' first
     | ((first | refine qj (c44 _) ?_ ?_); (next => exact flk); simp (disch := omega) only [qF, qy, el, ev, e1, q0, q1, qK, Option.getD_some, Option.isSome_some, go_sem, qc, dvP, mdP])
     | ((first | refine qn (fun _ => c44 _) ?_ ?_); (next => exact flk); simp (disch := omega) only [qF, qy, el, ev, e1, q0, q1, qK, Option.getD_some, Option.isSome_some, go_sem, qc, dvP, mdP])
     | ((first | refine qk (fun e => ⟨?_, c44 _⟩) ?_); (next => exact flk); simp (disch := omega) only [qF, qy, el, ev, e1, q0, q1, qK, Option.getD_some, Option.isSome_some, go_sem, qc, dvP, mdP])
     | ((first | refine qe ?_ ?_ | refine qg ?_ ?_); (next => exact rvk); simp only [go_sem]; (first | exact VLe.refl _ | refine qh ?_ | refine qd ?_ | refine ql ?_ | skip))
     | with_reducible first | refine And.intro ?_ ?_ | intro _
    all_goals try exact clz
    all_goals exact zo ⟨qaA, VLe.refl _, trivial⟩
   have q1 : (v < 1) = False := eq_false r1
   by_cases r2 : 4096 < v
   ·have q2 : (4096 < v) = True := eq_true r2
    rw [if_pos (.inr r2)] at i2
    have hV : R = (2, []) := by rw [hR, i2]; rfl
    rw [hV]
    simp (disch := omega) only [qv, List.foldl, List.replicate, qF, qy, el, ev, q0, q1, q2, go_sem, qc, dvP, mdP]
    repeat' first
     | ((first | refine qj (c44 _) ?_ ?_); (next => exact flk); simp (disch := omega) only [qF, qy, el, ev, e1, q0, q1, q2, qK, Option.getD_some, Option.isSome_some, go_sem, qc, dvP, mdP])
     | ((first | refine qn (fun _ => c44 _) ?_ ?_); (next => exact flk); simp (disch := omega) only [qF, qy, el, ev, e1, q0, q1, q2, qK, Option.getD_some, Option.isSome_some, go_sem, qc, dvP, mdP])
     | ((first | refine qk (fun e => ⟨?_, c44 _⟩) ?_); (next => exact flk); simp (disch := omega) only [qF, qy, el, ev, e1, q0, q1, q2, qK, Option.getD_some, Option.isSome_some, go_sem, qc, dvP, mdP])
     | ((first | refine qe ?_ ?_ | refine qg ?_ ?_); (next => exact rvk); simp only [go_sem]; (first | exact VLe.refl _ | refine qh ?_ | refine qd ?_ | refine ql ?_ | skip))
     | with_reducible first | refine And.intro ?_ ?_ | intro _
    all_goals try exact clz
    all_goals exact zo ⟨qaA, VLe.refl _, trivial⟩
   have q2 : (4096 < v) = False := eq_false r2
   rw [if_neg (by rintro (h | h) <;> contradiction)] at i2
   simp (disch := omega) only [qv, List.foldl, List.replicate, qF, qy, el, ev, q0, q1, q2, go_sem, qc, dvP, mdP]
   repeat' first
    | ((first | refine qj (c44 _) ?_ ?_); (next => exact flk); simp (disch := omega) only [qF, qy, el, ev, e1, e2, q0, q1, q2, qK, Option.getD_some, Option.isSome_some, go_sem, qc, dvP, mdP])
    | ((first | refine qn (fun _ => c44 _) ?_ ?_); (next => exact flk); simp (disch := omega) only [qF, qy, el, ev, e1, e2, q0, q1, q2, qK, Option.getD_some, Option.isSome_some, go_sem, qc, dvP, mdP])
    | ((first | refine qk (fun e => ⟨?_, c44 _⟩) ?_); (next => exact flk); simp (disch := omega) only [qF, qy, el, ev, e1, e2, q0, q1, q2, qK, Option.getD_some, Option.isSome_some, go_sem, qc, dvP, mdP])
    | ((first | refine qe ?_ ?_ | refine qg ?_ ?_); (next => exact rvk); simp only [go_sem]; (first | exact VLe.refl _ | refine qh ?_ | refine qd ?_ | refine ql ?_ | skip))
    | with_reducible first | refine And.intro ?_ ?_ | intro _
   all_goals try exact clz
   refine hK _ _ (i + 1, m ++ [(l, v)]) ⟨hi, i2, fun p hp => ?_⟩ (by simp only; omega) (Wk.temps ?_)
   ·rcases List.mem_append.1 hp with hp | hp
    ·exact i3 p hp
    ·rw [List.mem_singleton] at hp
     subst hp
     exact ⟨hvm, by simp only; omega, by simp only; omega⟩
   ·(simp only [qF, qy, qv, List.foldl, List.replicate, go_sem, qr, qp, qm, qq]; try (repeat' first | (with_reducible refine And.intro ?_ ?_) | (refine qh ?_; omega) | (refine qd ?_; rfl) | exact VLe.refl _))
  have e : i = L.length := by omega
  subst e
  rw [List.drop_eq_nil_of_le (by simp; omega)] at i2
  simp only [qda] at i2
  have hR : R = qa7 m it ts := by rw [hR, i2, if_neg (by simp)]
  by_cases ht : ts = []
  ·subst ht
   have hV : R = (0, []) := hR
   rw [hV]
   simp (disch := omega) only [qv, List.foldl, List.replicate, qF, qy, go_sem, qc, dvP, mdP]
   repeat' first
    | ((first | refine qe ?_ ?_ | refine qg ?_ ?_); (next => exact rvk); simp only [go_sem]; (first | exact VLe.refl _ | refine qh ?_ | refine qd ?_ | refine ql ?_ | skip))
    | with_reducible first | refine And.intro ?_ ?_ | intro _
   all_goals try exact clz
   refine qX (qAH _) ⟨rfl, trivial⟩ ?_
   simp (disch := omega) only [qF, go_sem, qc, dvP, mdP]
   repeat' first
    | ((first | refine qe ?_ ?_ | refine qg ?_ ?_); (next => exact rvk); simp only [go_sem]; (first | exact VLe.refl _ | refine qh ?_ | refine qd ?_ | refine ql ?_ | skip))
    | with_reducible first | refine And.intro ?_ ?_ | intro _
   all_goals try exact clz
   refine qJ (T := fun _ : Unit => qv 92 [(13, qF []), (70, qF []), (71, .int .i64 0), (72, .int .i64 0)]) (H := fun _ => h ++ [.emp 1, .map 1 (qgD m), .emp 0]) (inv := fun _ => True) (m := fun _ => 0) () trivial (Wk.temps ?_) ?_
   ·(simp only [qF, qv, List.foldl, List.replicate, go_sem, qr, qp, qm, qq]; try (repeat' first | (with_reducible refine And.intro ?_ ?_) | (refine qh ?_; omega) | (refine qd ?_; rfl) | exact VLe.refl _))
   rintro _ _ K hK
   simp (disch := omega) only [qv, List.foldl, List.replicate, qF, go_sem, qc, dvP, mdP]
   repeat' first
    | ((first | refine qe ?_ ?_ | refine qg ?_ ?_); (next => exact rvk); simp only [go_sem]; (first | exact VLe.refl _ | refine qh ?_ | refine qd ?_ | refine ql ?_ | skip))
    | with_reducible first | refine And.intro ?_ ?_ | intro _
   all_goals try exact clz
  have hit' : ∀ n, (∃ k, m.lookup k = some n) → (it n).length ≤ 20 ∧ ∀ l, qs Tryz.prog 120 [.int .i64 n] (h ++ l) (.str (it n)) (h ++ l) := by
   rintro n ⟨k, hk⟩
   have := i3 _ (qjp hk)
   exact hit n this.1 this.2.1 this.2.2
  simp (disch := omega) only [qv, List.foldl, List.replicate, qF, qy, go_sem, qc, dvP, mdP]
  repeat' first
   | ((first | refine qe ?_ ?_ | refine qg ?_ ?_); (next => exact rvk); simp only [go_sem]; (first | exact VLe.refl _ | refine qh ?_ | refine qd ?_ | refine ql ?_ | skip))
   | with_reducible first | refine And.intro ?_ ?_ | intro _
  all_goals try exact clz
  refine qX (qAG ts _ (h.length + 2) (by simp only [go_sem]) ht (by omega)) ⟨rfl, trivial⟩ ?_
  simp (disch := omega) only [qF, go_sem, qc, dvP, mdP]
  repeat' first
   | ((first | refine qe ?_ ?_ | refine qg ?_ ?_); (next => exact rvk); simp only [go_sem]; (first | exact VLe.refl _ | refine qh ?_ | refine qd ?_ | refine ql ?_ | skip))
   | with_reducible first | refine And.intro ?_ ?_ | intro _
  all_goals try exact clz
  obtain ⟨f, hf⟩ : ∃ f : List UInt8 → List UInt8, f = fun t => (qdE m it t).1 := ⟨_, rfl⟩
  refine qJ (T := fun i : Nat => qv 92 [(8, .mp (h.length + 1) 1), (13, .osl (h.length + 2) 1 1 0 ts.length), (70, qF ts), (71, .int .i64 ts.length), (72, .int .i64 i)])
   (H := fun i => h ++ [.emp 1, .map 1 (qgD m), .mem 1 9 (jh (qlV f ts i))])
   (inv := fun i => i ≤ ts.length ∧ ∀ j, j < i → (qdE m it (ts.getD j [])).2 = 0) (m := fun i => ts.length - i) 0 ⟨Nat.zero_le _, by simp⟩ (Wk.temps ?_) ?_
  ·(simp only [qF, qv, List.foldl, List.replicate, go_sem, qr, qp, qm, qq]; try (repeat' first | (with_reducible refine And.intro ?_ ?_) | (refine qh ?_; omega) | (refine qd ?_; rfl) | exact VLe.refl _))
  rintro i ⟨j1, j2⟩ K hK
  have eCl := qsA f ts i j1
  have eP := zJ (qlV f ts i)
  rw [eCl] at eP
  by_cases hi : i < ts.length
  ·have q0 : ((i : Int) < ts.length) = True := eq_true (by omega)
   have c46 := t46 m it (ts.getD i []) (h.length + 1) 1 (h ++ [.emp 1, .map 1 (qgD m), .mem 1 9 (jh (qlV f ts i))]) (by simp only [go_sem]) (fun n hn => ⟨(hit' n hn).1, fun l => by rw [List.append_assoc]; exact (hit' n hn).2 _⟩) (h4 i hi)
   have hset := qsB (f := f) hi
   obtain ⟨x, hx⟩ : ∃ x, x = ts.getD i [] := ⟨_, rfl⟩
   have ex := hx.symm
   rw [ex] at c46 hset
   have hfx : f x = (qdE m it x).1 := by rw [hf]
   obtain ⟨y, hy⟩ : ∃ y, y = (qdE m it x).1 := ⟨_, rfl⟩
   obtain ⟨ee, hee⟩ : ∃ ee, ee = (qdE m it x).2 := ⟨_, rfl⟩
   rw [← hy, ← hee] at c46
   rw [hfx, ← hy] at hset
   by_cases g : ee = 0
   ·have q1 : (ee = 0) = True := eq_true g
    simp (disch := omega) only [qv, List.foldl, List.replicate, qF, ex, q0, go_sem, qc, dvP, mdP]
    repeat' first
     | ((first | refine qj (c46) ?_ ?_); (next => exact flk); simp (disch := omega) only [qF, ex, q0, q1, eP, go_sem, qc, dvP, mdP])
     | ((first | refine qk (fun e => ⟨?_, c46⟩) ?_); (next => exact flk); simp (disch := omega) only [qF, ex, q0, q1, eP, go_sem, qc, dvP, mdP])
     | ((first | refine qe ?_ ?_ | refine qg ?_ ?_); (next => exact rvk); simp only [go_sem]; (first | exact VLe.refl _ | refine qh ?_ | refine qd ?_ | refine ql ?_ | skip))
     | with_reducible first | refine And.intro ?_ ?_ | intro _
    all_goals try exact clz
    rw [List.append_assoc, List.singleton_append, hset]
    refine hK _ _ (i + 1) ⟨hi, fun j hj => ?_⟩ (by omega) (Wk.temps ?_)
    ·by_cases e : j = i
     ·subst e; rw [ex, ← hee]; exact g
     ·exact j2 j (by omega)
    ·(simp only [qF, qv, List.foldl, List.replicate, go_sem, qr, qp, qm, qq]; try (repeat' first | (with_reducible refine And.intro ?_ ?_) | (refine qh ?_; omega) | (refine qd ?_; rfl) | exact VLe.refl _))
   ·have q1 : (ee = 0) = False := eq_false g
    have hV : R = (ee, []) := by rw [hR, qjG hi j2 (by rw [ex, ← hee]; exact g), ex, ← hee]
    rw [hV]
    simp (disch := omega) only [qv, List.foldl, List.replicate, qF, ex, q0, go_sem, qc, dvP, mdP]
    repeat' first
     | ((first | refine qj (c46) ?_ ?_); (next => exact flk); simp (disch := omega) only [qF, ex, q0, q1, eP, go_sem, qc, dvP, mdP])
     | ((first | refine qk (fun e => ⟨?_, c46⟩) ?_); (next => exact flk); simp (disch := omega) only [qF, ex, q0, q1, eP, go_sem, qc, dvP, mdP])
     | ((first | refine qe ?_ ?_ | refine qg ?_ ?_); (next => exact rvk); simp only [go_sem]; (first | exact VLe.refl _ | refine qh ?_ | refine qd ?_ | refine ql ?_ | skip))
     | with_reducible first | refine And.intro ?_ ?_ | intro _
    all_goals try exact clz
    all_goals exact zo ⟨qaA, VLe.refl _, trivial⟩
  ·have e : i = ts.length := by omega
   subst e
   have hV : R = (0, ts.map f) := by rw [hR, qnP j2, hf]
   rw [hV]
   simp (disch := omega) only [qv, List.foldl, List.replicate, qF, go_sem, qc, dvP, mdP]
   repeat' first
    | ((first | refine qe ?_ ?_ | refine qg ?_ ?_); (next => exact rvk); simp only [go_sem]; (first | exact VLe.refl _ | refine qh ?_ | refine qd ?_ | refine ql ?_ | skip))
    | with_reducible first | refine And.intro ?_ ?_ | intro _
   all_goals try exact clz
   have ec : qlV f ts ts.length = ts.map f := by unfold qlV; rw [List.take_length, List.drop_length, List.append_nil]
   rw [if_pos (by omega), ec]
   refine zo ⟨VLe.sl_eq (by simp) (fun i hi => ?_), VLe.refl _, trivial⟩
   have hi' : i < (ts.map f).length := by simpa using hi
   have hs : jh (ts.map f) = (ts.map f).map fun s => AV.str s := rfl
   rw [hs, ← List.map_drop, List.drop_eq_getElem_cons hi', List.map_cons, List.take_succ_cons, List.take_zero, List.map_cons, List.map_nil, List.getD_eq_getElem?_getD, List.getElem?_eq_getElem hi']
   rfl
 ·have k1 : ((L.length : Int) = V.length) = False := eq_false (by omega)
  have hV : qkx it ts L V = (9, []) := by unfold qkx; rw [if_pos g1]
  rw [hV]
  refine qo qp4 (by simp) ?_
  simp only [lcP, lnP, Nat.reduceAdd, Nat.reduceSub, List.replicate, caP, naP, List.append_nil]
  simp (disch := omega) only [qu6, k1, qF, qy, go_sem, qc, dvP, mdP]
  repeat' first
   | ((first | refine qe ?_ ?_ | refine qg ?_ ?_); (next => exact rvk); simp only [go_sem]; (first | exact VLe.refl _ | refine qh ?_ | refine qd ?_ | refine ql ?_ | skip))
   | with_reducible first | refine And.intro ?_ ?_ | intro _
  all_goals try exact clz
  all_goals exact zo ⟨qaA, VLe.refl _, trivial⟩
end LN
end
section
open Go Go.Proofs AF HY
namespace LN
set_option maxRecDepth 100000
end LN
end
section
namespace P48
structure Item where
 kind : Int
 width : Int
 stretch : Int
 shrink : Int
 penalty : Int
 text : List UInt8
 deriving DecidableEq, Inhabited
def it (l : List Item) (i : Nat) : Item := l.getD i default
theorem qmK {l : List Item} {i : Nat} (h : i < l.length) : it l i = l[i] := by simp [it, h]
theorem qbY {l : List Item} {i : Nat} (h : i < l.length) : l.drop i = it l i :: l.drop (i + 1) := by
 rw [qmK h]; exact List.drop_eq_getElem_cons h
theorem qwo {l : List Item} {i : Nat} (h : i < l.length) : it l i ∈ l := by rw [qmK h]; exact List.getElem_mem h
def qbb (n : Int) : Bool := decide (0 ≤ n) && decide (n ≤ 1073741824)
def zw (x : Item) : Int :=
 if x.kind < 1 ∨ 3 < x.kind then 8
 else if ¬ (qbb x.width = true ∧ qbb x.stretch = true ∧ qbb x.shrink = true) then 2
 else if x.penalty ≠ -10000 ∧ (x.penalty < 0 ∨ 10000 < x.penalty) then 2
 else if (x.kind ≠ 2 ∧ (x.stretch ≠ 0 ∨ x.shrink ≠ 0)) ∨ (x.kind ≠ 3 ∧ x.penalty ≠ 0) ∨ (x.kind = 2 ∧ x.text ≠ []) then 1
 else 0
def kE : List Item → Int → Int
 | [], s => if 1073741824 < s then 4 else 0
 | x :: r, s => if zw x = 0 then kE r (s + x.width + x.stretch + x.shrink) else zw x
def jk (l : List Item) : Int := if 4096 < l.length then 4 else kE l 0
def jb (l : List Item) (width : Int) : Int := if jk l = 0 then (if qbb width then 0 else 2) else 1
def zF (l : List Item) (i : Nat) : Bool := decide (i < l.length) && (decide ((it l i).kind = 3) && decide ((it l i).penalty = -10000))
def qdh (l : List Item) (i : Nat) : Bool :=
 decide (i = l.length) || (decide ((it l i).kind = 2) && (decide (0 < i) && decide ((it l (i - 1)).kind = 1))) || (decide ((it l i).kind = 3) && decide ((it l i).penalty ≠ 10000))
def badness (change total : Int) : Int :=
 if change = 0 then 0 else if total ≤ 0 then 10000 else
  min 10000 (100 * (min (max change (-change)) 1073741824) ^ 3 / (min total 1073741824) ^ 3)
def zG (l : List Item) (to : Nat) : Bool := decide (to < l.length) && decide ((it l to).kind = 3)
def fit (l : List Item) (width n st sh : Int) (to : Nat) : Int × Int × Bool :=
 let change := width - (if zG l to then n + (it l to).width else n)
 if 0 ≤ change then (if to = l.length ∨ zF l to = true then (0, 0, true) else (badness change st, change, true))
 else if -change ≤ sh then (badness (-change) sh, change, true) else (0, 0, false)
def penalty (l : List Item) (to : Nat) : Int := if zG l to && !zF l to then (it l to).penalty else 0
def zp (l : List Item) : Nat → Nat → Nat
 | 0, i => i
 | k + 1, i => if (it l i).kind = 2 then zp l k (i + 1) else i
def qI (l : List Item) (frm to : Nat) : Nat := zp l (to - frm) frm
def qaj (f : Item → Int) (l : List Item) : Nat → Nat → Int
 | 0, _ => 0
 | k + 1, i => (if (it l i).kind = 3 then 0 else f (it l i)) + qaj f l k (i + 1)
def zT (f : Item → Int) (l : List Item) (a b : Nat) : Int := qaj f l (b - a) a
def jZ (l : List Item) (width : Int) (frm to : Nat) : Int × Int × Bool :=
 fit l width (zT Item.width l (qI l frm to) to) (zT Item.stretch l (qI l frm to) to) (zT Item.shrink l (qI l frm to) to) to
def qdQ (l : List Item) (frm to : Nat) : Bool := (List.range' frm (to - frm)).all fun i => !zF l i
def qsz (l : List Item) (width : Int) (frm to : Nat) : Option Int :=
 if (jZ l width frm to).2.2 then some ((jZ l width frm to).1 + penalty l to) else none
def arc (l : List Item) (width : Int) (frm to : Nat) : Option Int := if qdh l to && qdQ l frm to then qsz l width frm to else none
def qcP (l : List Item) (width : Int) (frm : Nat) : List (Nat × Int) :=
 (List.range' frm (l.length + 1 - frm)).filterMap fun to => (arc l width frm to).map fun c => (to, c)
def qS (n : Nat) (p : List Int) (to : Nat) : Int := if to = n then 0 else p.getD (to + 1) 0
def qaq (n : Nat) (p : List Int) (a : List (Nat × Int)) : Int :=
 a.foldl (fun m x => if 0 ≤ qS n p x.1 ∧ (m < 0 ∨ x.2 + qS n p x.1 < m) then x.2 + qS n p x.1 else m) (-1)
def jp (l : List Item) (width : Int) : Nat → List Int
 | 0 => List.replicate (l.length + 1) 0
 | k + 1 => (jp l width k).set (l.length - k) (qaq l.length (jp l width k) (qcP l width (l.length - k)))
def kp (l : List Item) (width : Int) : List Int := jp l width (l.length + 1)
def pick (l : List Item) (p : List Int) (frm : Nat) (a : List (Nat × Int)) : Option Nat :=
 (a.find? fun x => decide (0 ≤ qS l.length p x.1 ∧ x.2 + qS l.length p x.1 = p.getD frm 0)).map (·.1)
def qaX (l : List Item) (width : Int) (p : List Int) : Nat → Nat → List Nat
 | 0, _ => []
 | k + 1, frm => match pick l p frm (qcP l width frm) with
  | none => []
  | some to => if to < l.length then to :: qaX l width p k (to + 1) else [to]
def brk (l : List Item) (width : Int) : List Nat := qaX l width (kp l width) (l.length + 1) 0
end P48
end
section
namespace P48
def quD (n : Nat) (p : List Int) (a : List (Nat × Int)) (m : Int) : Prop :=
 (m = -1 ∧ ∀ x ∈ a, qS n p x.1 < 0) ∨ (0 ≤ m ∧ (∃ x ∈ a, 0 ≤ qS n p x.1 ∧ m = x.2 + qS n p x.1) ∧ ∀ x ∈ a, 0 ≤ qS n p x.1 → m ≤ x.2 + qS n p x.1)
theorem qqk (n : Nat) (p : List Int) : ∀ (a : List (Nat × Int)) (m : Int), (∀ x ∈ a, 0 ≤ x.2) → (m = -1 ∨ 0 ≤ m) →
  let r := a.foldl (fun m x => if 0 ≤ qS n p x.1 ∧ (m < 0 ∨ x.2 + qS n p x.1 < m) then x.2 + qS n p x.1 else m) m
  (r = -1 ∧ m = -1 ∧ ∀ x ∈ a, qS n p x.1 < 0) ∨ (0 ≤ r ∧ (r = m ∨ ∃ x ∈ a, 0 ≤ qS n p x.1 ∧ r = x.2 + qS n p x.1) ∧ (0 ≤ m → r ≤ m) ∧ ∀ x ∈ a, 0 ≤ qS n p x.1 → r ≤ x.2 + qS n p x.1) := by
 intro a
 induction a with
 | nil =>
  intro m _ hm
  rcases hm with rfl | hm
  ·left; simp
  ·right; simp [hm]
 | cons y a ih =>
  intro m ha hm
  have hy : 0 ≤ y.2 := ha y (by simp)
  simp only [List.foldl_cons]
  split
  ·rename_i hc
   obtain ⟨hc1, hc2⟩ := hc
   have := ih (y.2 + qS n p y.1) (fun x hx => ha x (by simp [hx])) (.inr (by omega))
   rcases this with ⟨h1, h2, h3⟩ | ⟨h1, h2, h3, h4⟩
   ·omega
   ·right
    have h3' := h3 (by omega)
    refine ⟨h1, .inr ?_, fun hm0 => by rcases hc2 with h | h <;> omega, fun x hx hb => ?_⟩
    ·rcases h2 with h2 | ⟨x, hx, hb, he⟩
     ·exact ⟨y, by simp, hc1, h2⟩
     ·exact ⟨x, by simp [hx], hb, he⟩
    ·rcases List.mem_cons.1 hx with rfl | hx
     ·exact h3'
     ·exact h4 x hx hb
  ·rename_i hc
   have := ih m (fun x hx => ha x (by simp [hx])) hm
   rcases this with ⟨h1, h2, h3⟩ | ⟨h1, h2, h3, h4⟩
   ·left
    refine ⟨h1, h2, fun x hx => ?_⟩
    rcases List.mem_cons.1 hx with rfl | hx
    ·exact Int.not_le.1 fun hb => hc ⟨hb, .inl (by omega)⟩
    ·exact h3 x hx
   ·right
    refine ⟨h1, ?_, h3, fun x hx hb => ?_⟩
    ·rcases h2 with h2 | ⟨x, hx, hb, he⟩
     ·exact .inl h2
     ·exact .inr ⟨x, by simp [hx], hb, he⟩
    ·rcases List.mem_cons.1 hx with rfl | hx
     ·have : ¬ (m < 0 ∨ x.2 + qS n p x.1 < m) := fun h => hc ⟨hb, h⟩
      have hm0 : 0 ≤ m := by omega
      have := h3 hm0
      omega
     ·exact h4 x hx hb
theorem qeg (n : Nat) (p : List Int) (a : List (Nat × Int)) (ha : ∀ x ∈ a, 0 ≤ x.2) : quD n p a (qaq n p a) := by
 have := qqk n p a (-1) ha (.inl rfl)
 rcases this with ⟨h1, _, h3⟩ | ⟨h1, h2, _, h4⟩
 ·exact .inl ⟨h1, h3⟩
 ·refine .inr ⟨h1, ?_, h4⟩
  rcases h2 with h2 | h2
  ·omega
  ·exact h2
theorem qg5 {n : Nat} {p q : List Int} {a : List (Nat × Int)} (h : ∀ x ∈ a, qS n p x.1 = qS n q x.1) : qaq n p a = qaq n q a := by
 unfold qaq
 generalize (-1 : Int) = m
 induction a generalizing m with
 | nil => rfl
 | cons y a ih =>
  simp only [List.foldl_cons]
  rw [h y (by simp)]
  exact ih (fun x hx => h x (by simp [hx])) _
theorem qaR {l : List Item} {width : Int} {frm to : Nat} {c : Int} : (to, c) ∈ qcP l width frm ↔ frm ≤ to ∧ to ≤ l.length ∧ arc l width frm to = some c := by
 unfold qcP
 simp only [List.mem_filterMap, List.mem_range'_1, Option.map_eq_some_iff]
 constructor
 ·rintro ⟨a, ⟨h1, h2⟩, c', h3, h4⟩
  cases h4
  exact ⟨h1, by omega, h3⟩
 ·rintro ⟨h1, h2, h3⟩
  exact ⟨to, ⟨h1, by omega⟩, c, h3, rfl⟩
theorem qaU (l : List Item) (width : Int) (k : Nat) : (jp l width k).length = l.length + 1 := by
 induction k with
 | zero => simp [jp]
 | succ k ih => simp [jp, ih]
theorem qjF (l : List Item) (width : Int) (k : Nat) (hk : k ≤ l.length + 1) : ∀ j, l.length + 1 - k ≤ j → j ≤ l.length → (jp l width k).getD j 0 = qaq l.length (jp l width k) (qcP l width j) := by
 induction k with
 | zero => intro j h1 h2; omega
 | succ k ih =>
  intro j h1 h2
  have hl := qaU l width k
  have same : ∀ i, l.length - k < i → (jp l width (k + 1)).getD i 0 = (jp l width k).getD i 0 := by
   intro i hi
   simp only [jp, List.getD_eq_getElem?_getD]
   rw [List.getElem?_set_ne (by omega)]
  have hb : ∀ x ∈ qcP l width j, qS l.length (jp l width (k + 1)) x.1 = qS l.length (jp l width k) x.1 := by
   rintro ⟨to, c⟩ hx
   obtain ⟨h3, h4, _⟩ := qaR.1 hx
   simp only [qS]
   split
   ·rfl
   ·exact same _ (by omega)
  rw [qg5 hb]
  by_cases e : j = l.length - k
  ·subst e
   simp only [jp, List.getD_eq_getElem?_getD]
   rw [List.getElem?_set_self (by omega)]
   rfl
  ·rw [same j (by omega)]
   exact ih (by omega) j (by omega) h2
theorem qqN (l : List Item) (width : Int) : (kp l width).length = l.length + 1 := qaU l width _
theorem qqM (l : List Item) (width : Int) (j : Nat) (hj : j ≤ l.length) : (kp l width).getD j 0 = qaq l.length (kp l width) (qcP l width j) :=
 qjF l width _ (Nat.le_refl _) j (by omega) hj
theorem qiM : ∀ {l : List Item} {s : Int}, kE l s = 0 → ∀ x ∈ l, zw x = 0 := by
 intro l
 induction l with
 | nil => intro s _ x hx; simp at hx
 | cons y l ih =>
  intro s h x hx
  simp only [kE] at h
  split at h
  ·rcases List.mem_cons.1 hx with rfl | hx
   ·assumption
   ·exact ih h x hx
  ·contradiction
theorem qpA {l : List Item} (h : jk l = 0) : ∀ x ∈ l, zw x = 0 := by
 unfold jk at h
 split at h
 ·omega
 ·exact qiM h
structure qdY (x : Item) : Prop where
 k1 : 1 ≤ x.kind
 k3 : x.kind ≤ 3
 w0 : 0 ≤ x.width
 w1 : x.width ≤ 1073741824
 s0 : 0 ≤ x.stretch
 s1 : x.stretch ≤ 1073741824
 h0 : 0 ≤ x.shrink
 h1 : x.shrink ≤ 1073741824
 p : x.penalty = -10000 ∨ (0 ≤ x.penalty ∧ x.penalty ≤ 10000)
 sz : x.kind ≠ 2 → x.stretch = 0 ∧ x.shrink = 0
 pz : x.kind ≠ 3 → x.penalty = 0
 tz : x.kind = 2 → x.text = []
theorem kZ {x : Item} : zw x = 0 ↔ qdY x := by
 unfold zw qbb
 constructor
 ·intro h
  split at h
  ·omega
  ·split at h
   ·omega
   ·split at h
    ·omega
    ·split at h
     ·omega
     ·rename_i h1 h2 h3 h4
      simp only [Bool.and_eq_true, decide_eq_true_eq, Decidable.not_not] at h2
      simp only [not_or, not_and, Decidable.not_not] at h4
      refine ⟨by omega, by omega, by omega, by omega, by omega, by omega, by omega, by omega, by omega, fun h => ?_, fun h => h4.2.1 h, fun h => h4.2.2 h⟩
      have := h4.1 h
      omega
 ·intro h
  obtain ⟨a1, a2, a3, a4, a5, a6, a7, a8, a9, b1, b2, b3⟩ := h
  rw [if_neg (by omega), if_neg (by simp only [Bool.and_eq_true, decide_eq_true_eq]; omega), if_neg (by omega), if_neg]
  rintro (⟨h, h'⟩ | ⟨h, h'⟩ | ⟨h, h'⟩)
  ·have := b1 h; omega
  ·exact h' (b2 h)
  ·exact h' (b3 h)
theorem qh3 {l : List Item} (h : jk l = 0) {i : Nat} (hi : i < l.length) : qdY (it l i) := kZ.1 (qpA h _ (qwo hi))
theorem qa0 (c t : Int) : 0 ≤ badness c t ∧ badness c t ≤ 10000 := by
 unfold badness
 split
 ·omega
 ·split
  ·omega
  ·refine ⟨?_, Int.min_le_left _ _⟩
   rename_i h1 h2
   have h3 : 0 ≤ min (max c (-c)) 1073741824 := by omega
   have h4 : 0 ≤ min t 1073741824 := by omega
   have := Int.ediv_nonneg (Int.mul_nonneg (by omega : (0:Int) ≤ 100) (@Int.pow_nonneg _ 3 h3)) (@Int.pow_nonneg _ 3 h4)
   omega
theorem qbZ (l : List Item) (width n st sh : Int) (to : Nat) : 0 ≤ (fit l width n st sh to).1 ∧ (fit l width n st sh to).1 ≤ 10000 := by
 unfold fit
 simp only
 generalize (width - (if zG l to then n + (it l to).width else n)) = d
 have h1 := qa0 d st
 have h2 := qa0 (-d) sh
 by_cases c1 : 0 ≤ d
 ·rw [if_pos c1]
  split
  ·simp
  ·exact h1
 ·rw [if_neg c1]
  split
  ·exact h2
  ·simp
theorem qdS {l : List Item} (h : jk l = 0) (to : Nat) : 0 ≤ penalty l to ∧ penalty l to ≤ 10000 := by
 unfold penalty zG zF
 split
 ·rename_i hc
  simp only [Bool.and_eq_true, decide_eq_true_eq, Bool.not_eq_true', Bool.and_eq_false_iff, decide_eq_false_iff_not] at hc
  have := (qh3 h hc.1.1).p
  omega
 ·omega
theorem qiv {l : List Item} {width : Int} (h : jk l = 0) {a b : Nat} {c : Int} (hc : arc l width a b = some c) : 0 ≤ c ∧ c ≤ 20000 := by
 unfold arc qsz at hc
 split at hc
 ·split at hc
  ·cases hc
   have h1 := qbZ l width (zT Item.width l (qI l a b) b) (zT Item.stretch l (qI l a b) b) (zT Item.shrink l (qI l a b) b) b
   have h2 := qdS h b
   unfold jZ
   omega
  ·cases hc
 ·cases hc
theorem qgF {l : List Item} {width : Int} (h : jk l = 0) (j : Nat) : ∀ x ∈ qcP l width j, 0 ≤ x.2 := by
 rintro ⟨to, c⟩ hx
 exact (qiv h (qaR.1 hx).2.2).1
theorem qtC {l : List Item} {width : Int} (h : jk l = 0) (j : Nat) (hj : j ≤ l.length) : quD l.length (kp l width) (qcP l width j) ((kp l width).getD j 0) := by
 rw [qqM l width j hj]
 exact qeg _ _ _ (qgF h j)
end P48
end
section
open Go Go.Proofs AF HY P48
namespace LN
set_option maxRecDepth 100000
abbrev It := P48.Item
def qH (x : It) : List AV := [.int .i64 x.kind, .int .i64 x.width, .int .i64 x.stretch, .int .i64 x.shrink, .int .i64 x.penalty, .str x.text]
def qu (l : List It) : AV := .sl l.length fun i => qH (it l i)
def zK (l : List Int) : AV := .sl l.length fun i => [.int .i64 (l.getD i 0)]
theorem qb0 (l : List It) : (qu l).flag = true := rfl
theorem qbk (l : List It) : (qu l).strip = qu l := rfl
theorem qdl (l : List Int) : (zK l).flag = true := rfl
theorem qcj (l : List Int) : (zK l).strip = zK l := rfl
attribute [go_sem] qb0 qbk qdl qcj
theorem qyJ (n : Int) (h : List AObj) : qs Tryz.prog 35 [.int .i64 n] h (.bool (qbb n)) h := by
 refine qo qvX (by simp) ?_
 simp only [lcP, lnP, Nat.reduceAdd, Nat.reduceSub, List.replicate, caP, naP, List.append_nil]
 simp (disch := omega) only [qxJ, go_sem, qc, dvP, mdP]
 repeat' first
  | ((first | refine qe ?_ ?_ | refine qg ?_ ?_); (next => exact rvk); simp only [go_sem]; (first | exact VLe.refl _ | refine qh ?_ | refine qd ?_ | refine ql ?_ | skip))
  | with_reducible first | refine And.intro ?_ ?_ | intro _
theorem p89 (x : It) (h : List AObj) : qs Tryz.prog 69 [.agg (qH x)] h (.int .i64 (zw x)) h := by
 refine qo qv6 (by simp) ?_
 simp only [lcP, lnP, Nat.reduceAdd, Nat.reduceSub, List.replicate, caP, naP, List.append_nil]
 simp (disch := omega) only [qxN, qH, go_sem, qc, dvP, mdP]
 repeat' first
  | ((first | refine qj (qyJ _ _) ?_ ?_); (next => exact flk); simp (disch := omega) only [go_sem, qc, dvP, mdP])
  | ((first | refine qn (fun _ => qyJ _ _) ?_ ?_); (next => exact flk); simp (disch := omega) only [go_sem, qc, dvP, mdP])
  | ((first | refine qk (fun e => ⟨?_, qyJ _ _⟩) ?_); (next => exact flk); simp (disch := omega) only [go_sem, qc, dvP, mdP])
  | ((first | refine qe ?_ ?_ | refine qg ?_ ?_); (next => exact rvk); simp only [go_sem]; (first | exact VLe.refl _ | refine qh ?_ | refine qd ?_ | refine ql ?_ | skip))
  | with_reducible first | refine And.intro ?_ ?_ | intro _
 all_goals first
  | omega
  | grind [zw]
theorem p61 (l : List It) (h : List AObj) (hl : l.length ≤ 9223372036854775807) : qs Tryz.prog 40 [qu l] h (.int .i64 (jk l)) h := by
 refine qo qv0 (by simp) ?_
 simp only [lcP, lnP, Nat.reduceAdd, Nat.reduceSub, List.replicate, caP, naP, List.append_nil]
 simp (disch := omega) only [qpq, qu, qH, go_sem, qc, dvP, mdP]
 repeat' first
  | (with_reducible refine And.intro ?_ ?_)
  | (with_reducible intro _)
 all_goals first
  | omega
  | skip
 ·repeat' first
   | ((first | refine qe ?_ ?_ | refine qg ?_ ?_); (next => exact rvk); simp only [go_sem]; (first | exact VLe.refl _ | refine qh ?_ | refine qd ?_ | refine ql ?_ | skip))
   | with_reducible first | refine And.intro ?_ ?_ | intro _
  simp [jk]; omega
 ·rename_i hlen
  refine qJ (T := fun i : Nat × Int × AObj => qv 34 [(3, .int .i64 i.2.1), (10, qu l), (11, .int .i64 l.length), (12, .int .i64 i.1)]) (H := fun i => h ++ [i.2.2])
   (inv := fun i => i.1 ≤ l.length ∧ zf [i.2.2] 0 = true ∧ kE (l.drop i.1) i.2.1 = jk l ∧ 0 ≤ i.2.1 ∧ i.2.1 ≤ 4000000000 * i.1) (m := fun i => l.length - i.1) (0, 0, .emp 0)
   ⟨by simp only; omega, rfl, by simp only [jk, List.drop_zero]; rw [if_neg (by omega)], by simp only; omega, by simp only; omega⟩ (Wk.temps ?_) ?_
  ·simp only [qu, qH, qv, List.foldl, List.replicate, go_sem, qr, qp, qm, qq]
   try (repeat' first | (with_reducible refine And.intro ?_ ?_) | (refine qh ?_; omega) | (refine qd ?_; rfl))
  ·rintro ⟨i, s, O⟩ ⟨i1, i2, i3, i4, i5⟩ K hK
   simp only at i1 i2 i3 i4 i5 hK
   by_cases hi : i < l.length
   ·rw [qbY hi, kE] at i3
    by_cases hx : zw (it l i) = 0
    ·rw [if_pos hx] at i3
     obtain ⟨a1, a2, a3, a4, a5, a6, a7, a8, a9, b1, b2, b3⟩ := kZ.1 hx
     simp (disch := omega) only [qv, qu, qH, List.foldl, List.replicate, i2, go_sem, qc, dvP, mdP]
     repeat' first
      | ((first | refine qj (p89 (it l i) _) ?_ ?_); (next => exact flk); simp (disch := omega) only [go_sem, qc, dvP, mdP])
      | ((first | refine qn (fun _ => p89 (it l i) _) ?_ ?_); (next => exact flk); simp (disch := omega) only [go_sem, qc, dvP, mdP])
      | ((first | refine qk (fun e => ⟨?_, p89 (it l i) _⟩) ?_); (next => exact flk); simp (disch := omega) only [go_sem, qc, dvP, mdP])
      | ((first | refine qe ?_ ?_ | refine qg ?_ ?_); (next => exact rvk); simp only [go_sem]; (first | exact VLe.refl _ | refine qh ?_ | refine qd ?_ | refine ql ?_ | skip))
      | with_reducible first | refine And.intro ?_ ?_ | intro _
     all_goals first
      | omega
      | skip
     refine hK _ _ (i + 1, s + (it l i).width + (it l i).stretch + (it l i).shrink, .mem (qA (some O) + 1) 58 (qH (it l i))) ⟨by simp only; omega, rfl, i3, by simp only; omega, by simp only; omega⟩ (by simp only; omega) (Wk.temps ?_)
     simp only [qu, qH, qv, List.foldl, List.replicate, go_sem, qr, qp, qm, qq]
     try (repeat' first | (with_reducible refine And.intro ?_ ?_) | (refine qh ?_; omega) | (refine qd ?_; rfl))
    ·rw [if_neg hx] at i3
     simp (disch := omega) only [qv, qu, qH, List.foldl, List.replicate, i2, go_sem, qc, dvP, mdP]
     repeat' first
      | ((first | refine qj (p89 (it l i) _) ?_ ?_); (next => exact flk); simp (disch := omega) only [go_sem, qc, dvP, mdP])
      | ((first | refine qn (fun _ => p89 (it l i) _) ?_ ?_); (next => exact flk); simp (disch := omega) only [go_sem, qc, dvP, mdP])
      | ((first | refine qk (fun e => ⟨?_, p89 (it l i) _⟩) ?_); (next => exact flk); simp (disch := omega) only [go_sem, qc, dvP, mdP])
      | ((first | refine qe ?_ ?_ | refine qg ?_ ?_); (next => exact rvk); simp only [go_sem]; (first | exact VLe.refl _ | refine qh ?_ | refine qd ?_ | refine ql ?_ | skip))
      | with_reducible first | refine And.intro ?_ ?_ | intro _
     all_goals first
      | omega
      | exact i3
   ·have e : i = l.length := by omega
    subst e
    rw [List.drop_length, kE] at i3
    simp (disch := omega) only [qv, qu, qH, List.foldl, List.replicate, i2, go_sem, qc, dvP, mdP]
    repeat' first
     | ((first | refine qe ?_ ?_ | refine qg ?_ ?_); (next => exact rvk); simp only [go_sem]; (first | exact VLe.refl _ | refine qh ?_ | refine qd ?_ | refine ql ?_ | skip))
     | with_reducible first | refine And.intro ?_ ?_ | intro _
    all_goals first
     | omega
     | grind
theorem i2' {l : List It} (h : ∀ j, j < l.length → zw (it l j) = 0) : ∀ x ∈ l, zw x = 0 := by
 intro x hx
 obtain ⟨j, hj, rfl⟩ := List.getElem_of_mem hx
 rw [← qmK hj]
 exact h j hj
end LN
end
section
open Go Go.Proofs AF HY P48
namespace LN
set_option maxRecDepth 100000
structure Ln where
 frm : Int
 to : Int
 bad : Int
 chg : Int
 text : List UInt8
 deriving Inhabited
def qN (x : Ln) : List AV := [.int .i64 x.frm, .int .i64 x.to, .int .i64 x.bad, .int .i64 x.chg, .str x.text]
def qD (ls : List Ln) : AV := .sl ls.length fun i => qN (ls.getD i default)
theorem qgZ (l : List Ln) : (qD l).flag = true := rfl
theorem qgr (l : List Ln) : (qD l).strip = qD l := rfl
attribute [go_sem] qgZ qgr
def qjM (i : Int) : List Ln → Nat → Int → Option Int
 | [], _, c => some c
 | x :: r, n, c => if i < x.frm ∨ x.to ≤ i then qjM i r (n + 1) c else if 0 < c then none else qjM i r (n + 1) ((n : Int) + 1)
def jE (ls : List Ln) : List It → Nat → Int → List Int → Option (List Int)
 | [], _, _, out => some out
 | x :: r, i, last, out => if x.kind ≠ 1 then jE ls r (i + 1) last out else match qjM i ls 0 0 with
  | none => none
  | some c => if c = 0 ∨ c < last then none else jE ls r (i + 1) c (out.set i c)
def qb8 (l : List It) (ls : List Ln) : Option (List Int) := jE ls l 0 0 (List.replicate l.length 0)
def qhe : Option (List Int) → AV
 | none => .tup [.nl, .bool false]
 | some out => .tup [qy out, .bool true]
theorem qsH {ls : List Ln} {k : Nat} (h : k < ls.length) : ls.drop k = ls.getD k default :: ls.drop (k + 1) := by
 rw [List.drop_eq_getElem_cons h]; simp [List.getD_eq_getElem?_getD, h]
theorem qq2 {out : List Int} {i : Nat} (h : out.getD i 0 = 0) (hi : i < out.length) : out.set i 0 = out := by
 apply List.ext_getElem (by simp)
 intro j h1 h2
 rw [List.getElem_set]
 split
 ·rename_i e; subst e
  rw [List.getD_eq_getElem?_getD, List.getElem?_eq_getElem hi] at h
  exact h.symm
 ·rfl
theorem qjq : ∀ n, qM [AV.int .i64 0] n = q9 (List.replicate n 0) := by
 intro n
 induction n with
 | zero => rfl
 | succ n ih => rw [qM, ih]; rfl
set_option maxHeartbeats 8000000 in
theorem t62 (l : List It) (ls : List Ln) (h : List AObj) (hl : l.length ≤ 100000) (hls : ls.length ≤ 100000) : qs Tryz.prog 87 [qu l, qD ls] h (qhe (qb8 l ls)) h := by
 obtain ⟨R, hR⟩ : ∃ R, R = qb8 l ls := ⟨_, rfl⟩
 rw [← hR]
 have hR2 : R = jE ls l 0 0 (List.replicate l.length 0) := hR
 refine qo qyx (by simp) ?_
 simp only [lcP, lnP, Nat.reduceAdd, Nat.reduceSub, List.replicate, caP, naP, List.append_nil]
 simp (disch := omega) only [qzJ, qu, qH, qD, qN, go_sem, qc, dvP, mdP]
 repeat' first
  | ((first | refine qe ?_ ?_ | refine qg ?_ ?_); (next => exact rvk); simp only [go_sem]; (first | exact VLe.refl _ | refine qh ?_ | refine qd ?_ | refine ql ?_ | skip))
  | with_reducible first | refine And.intro ?_ ?_ | intro _
 all_goals try exact clz
 rw [qjq]
 refine qJ (T := fun i : Nat × Int × List Int × AObj × AObj => qv 72 [(1, qD ls), (6, .osl (h.length + 1) 1 1 0 l.length), (7, .int .i64 i.2.1), (15, qu l), (16, .int .i64 l.length), (17, .int .i64 i.1)])
  (H := fun i => h ++ [.emp 1, .mem 1 3 (q9 i.2.2.1), i.2.2.2.1, i.2.2.2.2])
  (inv := fun i => i.1 ≤ l.length ∧ i.2.2.1.length = l.length ∧ (∀ j, i.1 ≤ j → i.2.2.1.getD j 0 = 0) ∧ R = jE ls (l.drop i.1) i.1 i.2.1 i.2.2.1 ∧ zf [i.2.2.2.1] 0 = true ∧ zf [i.2.2.2.2] 0 = true) (m := fun i => l.length - i.1)
  (0, 0, List.replicate l.length 0, .emp 0, .emp 0) ⟨Nat.zero_le _, by simp, fun j _ => qo5 _ _, hR2, rfl, rfl⟩ (Wk.temps ?_) ?_
 ·(simp only [qu, qH, qD, qN, qv, List.foldl, List.replicate, go_sem, qr, qp, qm, qq]; try (repeat' first | (with_reducible refine And.intro ?_ ?_) | (refine qh ?_; omega) | (refine qd ?_; rfl) | exact VLe.refl _))
 rintro ⟨i, last, out, O1, O2⟩ ⟨i1, i2, i3, i4, i5, i6⟩ K hK
 simp only at i1 i2 i3 i4 i5 i6 hK
 have i5' : ∀ m, zf (O1 :: m) 0 = true := fun _ => i5
 have i6' : ∀ m, zf (O2 :: m) 0 = true := fun _ => i6
 by_cases hi : i < l.length
 ·have hdr := qbY hi
  rw [hdr] at i4
  simp only [jE] at i4
  by_cases hk : (it l i).kind = 1
  ·have q1 : ((it l i).kind = 1) = True := eq_true hk
   rw [if_neg (fun hc => hc hk)] at i4
   simp (disch := omega) only [qv, qu, qH, qD, qN, List.foldl, List.replicate, i5', i6', q1, go_sem, qc, dvP, mdP]
   repeat' first
    | ((first | refine qe ?_ ?_ | refine qg ?_ ?_); (next => exact rvk); simp only [go_sem]; (first | exact VLe.refl _ | refine qh ?_ | refine qd ?_ | refine ql ?_ | skip))
    | with_reducible first | refine And.intro ?_ ?_ | intro _
   all_goals try exact clz
   have e0 := qq2 (i3 i (Nat.le_refl _)) (by omega)
   rw [show q9 out = q9 (out.set i 0) by rw [e0]]
   refine qJ (T := fun k : Nat × Int × AObj => qv 72 [(1, qD ls), (6, .osl (h.length + 1) 1 1 0 l.length), (7, .int .i64 last), (8, .int .i64 i), (15, qu l), (16, .int .i64 l.length), (17, .int .i64 i), (25, qD ls), (26, .int .i64 ls.length), (27, .int .i64 k.1)])
    (H := fun k => h ++ [.emp 1, .mem 1 3 (q9 (out.set i k.2.1)), .mem (qA (some O1) + 1) 58 (qH (it l i)), k.2.2])
    (inv := fun k => k.1 ≤ ls.length ∧ qjM i ls 0 0 = qjM i (ls.drop k.1) k.1 k.2.1 ∧ 0 ≤ k.2.1 ∧ zf [k.2.2] 0 = true) (m := fun k => ls.length - k.1) (0, 0, O2)
    ⟨Nat.zero_le _, rfl, Int.le_refl _, i6⟩ (Wk.temps ?_) ?_
   ·(simp only [qu, qH, qD, qN, hk, qv, List.foldl, List.replicate, go_sem, qr, qp, qm, qq]; try (repeat' first | (with_reducible refine And.intro ?_ ?_) | (refine qh ?_; omega) | (refine qd ?_; rfl) | exact VLe.refl _))
   rintro ⟨k, c, O⟩ ⟨k1, k2, k3, k4⟩ K2 hK2
   simp only at k1 k2 k3 k4 hK2
   have k4' : ∀ m, zf (O :: m) 0 = true := fun _ => k4
   have hsl : (out.set i c).length = l.length := by simp [i2]
   have eC := zy (out.set i c)
   rw [hsl] at eC
   have eg := qbA (all := out.set i c) (a := i) (by omega)
   have egc : (out.set i c).getD i 0 = c := by rw [qcW, if_pos ⟨rfl, by omega⟩]
   rw [egc] at eg
   have q0 : ((i : Int) < l.length) = True := eq_true (by omega)
   by_cases hk2 : k < ls.length
   ·rw [qsH hk2] at k2
    simp only [qjM] at k2
    obtain ⟨x, hx⟩ : ∃ x, x = ls.getD k default := ⟨_, rfl⟩
    have ex := hx.symm
    rw [ex] at k2
    by_cases a1 : (i : Int) < x.frm
    ·have q2 : ((i : Int) < x.frm) = True := eq_true a1
     rw [if_pos (.inl a1)] at k2
     simp (disch := omega) only [qv, qu, qH, qD, qN, List.foldl, List.replicate, k4', ex, q2, go_sem, qc, dvP, mdP]
     repeat' first
      | ((first | refine qe ?_ ?_ | refine qg ?_ ?_); (next => exact rvk); simp only [go_sem]; (first | exact VLe.refl _ | refine qh ?_ | refine qd ?_ | refine ql ?_ | skip))
      | with_reducible first | refine And.intro ?_ ?_ | intro _
     all_goals try exact clz
     refine hK2 _ _ (k + 1, c, .mem (qA (some O) + 1) 49 (qN x)) ⟨hk2, k2, k3, rfl⟩ (by simp only; omega) (Wk.temps ?_)
     (simp only [qu, qH, qD, qN, qv, List.foldl, List.replicate, go_sem, qr, qp, qm, qq]; try (repeat' first | (with_reducible refine And.intro ?_ ?_) | (refine qh ?_; omega) | (refine qd ?_; rfl) | exact VLe.refl _))
    have q2 : ((i : Int) < x.frm) = False := eq_false a1
    by_cases a2 : x.to ≤ i
    ·have q3 : (x.to ≤ (i : Int)) = True := eq_true a2
     rw [if_pos (.inr a2)] at k2
     simp (disch := omega) only [qv, qu, qH, qD, qN, List.foldl, List.replicate, k4', ex, q2, q3, go_sem, qc, dvP, mdP]
     repeat' first
      | ((first | refine qe ?_ ?_ | refine qg ?_ ?_); (next => exact rvk); simp only [go_sem]; (first | exact VLe.refl _ | refine qh ?_ | refine qd ?_ | refine ql ?_ | skip))
      | with_reducible first | refine And.intro ?_ ?_ | intro _
     all_goals try exact clz
     refine hK2 _ _ (k + 1, c, .mem (qA (some O) + 1) 49 (qN x)) ⟨hk2, k2, k3, rfl⟩ (by simp only; omega) (Wk.temps ?_)
     (simp only [qu, qH, qD, qN, qv, List.foldl, List.replicate, go_sem, qr, qp, qm, qq]; try (repeat' first | (with_reducible refine And.intro ?_ ?_) | (refine qh ?_; omega) | (refine qd ?_; rfl) | exact VLe.refl _))
    have q3 : (x.to ≤ (i : Int)) = False := eq_false a2
    rw [if_neg (by rintro (h | h) <;> contradiction)] at k2
    by_cases a3 : 0 < c
    ·have q4 : (0 < c) = True := eq_true a3
     rw [if_pos a3] at k2
     have hV : R = none := by rw [i4, k2]
     rw [hV]
     simp (disch := omega) only [qv, qu, qH, qD, qN, List.foldl, List.replicate, k4', ex, q2, q3, q4, eC, eg, q0, go_sem, qc, dvP, mdP]
     repeat' first
      | ((first | refine qe ?_ ?_ | refine qg ?_ ?_); (next => exact rvk); simp only [go_sem]; (first | exact VLe.refl _ | refine qh ?_ | refine qd ?_ | refine ql ?_ | skip))
      | with_reducible first | refine And.intro ?_ ?_ | intro _
     all_goals try exact clz
    ·have q4 : (0 < c) = False := eq_false a3
     rw [if_neg a3] at k2
     have es := qfK (out.set i c) (a := i) ((k : Int) + 1) (by omega)
     rw [List.set_set] at es
     simp (disch := omega) only [qv, qu, qH, qD, qN, List.foldl, List.replicate, k4', ex, q2, q3, q4, eC, eg, q0, go_sem, qc, dvP, mdP]
     repeat' first
      | ((first | refine qe ?_ ?_ | refine qg ?_ ?_); (next => exact rvk); simp only [go_sem]; (first | exact VLe.refl _ | refine qh ?_ | refine qd ?_ | refine ql ?_ | skip))
      | with_reducible first | refine And.intro ?_ ?_ | intro _
     all_goals try exact clz
     rw [es]
     refine hK2 _ _ (k + 1, (k : Int) + 1, .mem (qA (some O) + 1) 49 (qN x)) ⟨hk2, k2, by simp only; omega, rfl⟩ (by simp only; omega) (Wk.temps ?_)
     (simp only [qu, qH, qD, qN, qv, List.foldl, List.replicate, go_sem, qr, qp, qm, qq]; try (repeat' first | (with_reducible refine And.intro ?_ ?_) | (refine qh ?_; omega) | (refine qd ?_; rfl) | exact VLe.refl _))
   ·have e : k = ls.length := by omega
    subst e
    rw [List.drop_length] at k2
    simp only [qjM] at k2
    rw [k2] at i4
    simp only at i4
    by_cases b1 : c = 0
    ·have q5 : (c = 0) = True := eq_true b1
     rw [if_pos (.inl b1)] at i4
     rw [i4]
     simp (disch := omega) only [qv, qu, qH, qD, qN, List.foldl, List.replicate, k4', eC, eg, q0, q5, go_sem, qc, dvP, mdP]
     repeat' first
      | ((first | refine qe ?_ ?_ | refine qg ?_ ?_); (next => exact rvk); simp only [go_sem]; (first | exact VLe.refl _ | refine qh ?_ | refine qd ?_ | refine ql ?_ | skip))
      | with_reducible first | refine And.intro ?_ ?_ | intro _
     all_goals try exact clz
    have q5 : (c = 0) = False := eq_false b1
    by_cases b2 : c < last
    ·have q6 : (c < last) = True := eq_true b2
     rw [if_pos (.inr b2)] at i4
     rw [i4]
     simp (disch := omega) only [qv, qu, qH, qD, qN, List.foldl, List.replicate, k4', eC, eg, q0, q5, q6, go_sem, qc, dvP, mdP]
     repeat' first
      | ((first | refine qe ?_ ?_ | refine qg ?_ ?_); (next => exact rvk); simp only [go_sem]; (first | exact VLe.refl _ | refine qh ?_ | refine qd ?_ | refine ql ?_ | skip))
      | with_reducible first | refine And.intro ?_ ?_ | intro _
     all_goals try exact clz
    have q6 : (c < last) = False := eq_false b2
    rw [if_neg (by rintro (h | h) <;> contradiction)] at i4
    simp (disch := omega) only [qv, qu, qH, qD, qN, List.foldl, List.replicate, k4', eC, eg, q0, q5, q6, go_sem, qc, dvP, mdP]
    repeat' first
     | ((first | refine qe ?_ ?_ | refine qg ?_ ?_); (next => exact rvk); simp only [go_sem]; (first | exact VLe.refl _ | refine qh ?_ | refine qd ?_ | refine ql ?_ | skip))
     | with_reducible first | refine And.intro ?_ ?_ | intro _
    all_goals try exact clz
    refine hK _ _ (i + 1, c, out.set i c, .mem (qA (some O1) + 1) 58 (qH (it l i)), O) ⟨hi, hsl, fun j hj => ?_, i4, rfl, k4⟩ (by simp only; omega) (Wk.temps ?_)
    ·rw [qcW, if_neg (by rintro ⟨h, _⟩; simp only at hj; omega)]
     exact i3 j (by simp only at hj; omega)
    ·(simp only [qu, qH, qD, qN, qv, List.foldl, List.replicate, go_sem, qr, qp, qm, qq]; try (repeat' first | (with_reducible refine And.intro ?_ ?_) | (refine qh ?_; omega) | (refine qd ?_; rfl) | exact VLe.refl _))
  ·have q1 : ((it l i).kind = 1) = False := eq_false hk
   rw [if_pos hk] at i4
   simp (disch := omega) only [qv, qu, qH, qD, qN, List.foldl, List.replicate, i5', i6', q1, go_sem, qc, dvP, mdP]
   repeat' first
    | ((first | refine qe ?_ ?_ | refine qg ?_ ?_); (next => exact rvk); simp only [go_sem]; (first | exact VLe.refl _ | refine qh ?_ | refine qd ?_ | refine ql ?_ | skip))
    | with_reducible first | refine And.intro ?_ ?_ | intro _
   all_goals try exact clz
   refine hK _ _ (i + 1, last, out, .mem (qA (some O1) + 1) 58 (qH (it l i)), O2) ⟨hi, i2, fun j hj => i3 j (by simp only at hj; omega), i4, rfl, i6⟩ (by simp only; omega) (Wk.temps ?_)
   (simp only [qu, qH, qD, qN, qv, List.foldl, List.replicate, go_sem, qr, qp, qm, qq]; try (repeat' first | (with_reducible refine And.intro ?_ ?_) | (refine qh ?_; omega) | (refine qd ?_; rfl) | exact VLe.refl _))
 ·have e : i = l.length := by omega
  subst e
  rw [List.drop_length] at i4
  have hV : R = some out := i4
  rw [hV]
  have eC := zy out
  simp (disch := omega) only [qv, qu, qH, qD, qN, List.foldl, List.replicate, go_sem, qc, dvP, mdP]
  repeat' first
   | ((first | refine qe ?_ ?_ | refine qg ?_ ?_); (next => exact rvk); simp only [go_sem]; (first | exact VLe.refl _ | refine qh ?_ | refine qd ?_ | refine ql ?_ | skip))
   | with_reducible first | refine And.intro ?_ ?_ | intro _
  all_goals try exact clz
  rw [if_pos (by omega)]
  exact zo ⟨qcZ i2, VLe.refl _, trivial⟩
end LN
end
section
open Go Go.Proofs AF HY P48
namespace LN
set_option maxRecDepth 100000
def qa1 (l : List It) (i : Nat) : Bool := decide (2 ≤ i) && (decide ((it l (i - 1)).kind = 3) && (decide ((it l (i - 1)).penalty ≠ -10000) && decide ((it l (i - 2)).kind = 1)))
def qB (l : List It) : Nat → List (Int × Int) × Int × Int
 | 0 => ([], -1, -1)
 | i + 1 => if (it l i).kind ≠ 1 then qB l i else if qa1 l i = true then ((qB l i).1, (qB l i).2.1, i) else
   (if 0 ≤ (qB l i).2.1 then (qB l i).1 ++ [(qB l i).2] else (qB l i).1, i, i)
def zg (l : List It) : List (Int × Int) := if 0 ≤ (qB l l.length).2.1 then (qB l l.length).1 ++ [(qB l l.length).2] else (qB l l.length).1
def jF (l : List It) : List (List AV) := (zg l).map fun p => [.int .i64 p.1, .int .i64 p.2]
theorem qku (l : List It) (i : Nat) : (qB l i).1 <+: (qB l (i + 1)).1 := by
 rw [qB]
 split
 ·exact List.prefix_rfl
 ·split
  ·exact List.prefix_rfl
  ·split
   ·exact List.prefix_append _ _
   ·exact List.prefix_rfl
theorem qo1 (l : List It) : ∀ n i, (qB l i).1 <+: (qB l (i + n)).1 := by
 intro n
 induction n with
 | zero => intro i; exact List.prefix_rfl
 | succ n ih => intro i; exact (ih i).trans (qku l (i + n))
theorem qoY (l : List It) {i : Nat} (hi : i ≤ l.length) : (qB l i).1 <+: zg l := by
 have h := qo1 l (l.length - i) i
 rw [show i + (l.length - i) = l.length by omega] at h
 refine h.trans ?_
 unfold zg
 split
 ·exact List.prefix_append _ _
 ·exact List.prefix_rfl
def qbm (l : List It) : AV := .fn (.func 122) [] [.ip [qu l]]
theorem qfB (l : List It) : (qbm l).flag = true := rfl
theorem qe0 (l : List It) : (qbm l).strip = qbm l := rfl
attribute [go_sem] qfB qe0
theorem t63 (l : List It) (h : List AObj) : qs Tryz.prog 88 [qu l] h (qbm l) h := by
 refine qo qyy (by simp) ?_
 simp only [lcP, lnP, Nat.reduceAdd, Nat.reduceSub, List.replicate, caP, naP, List.append_nil]
 simp (disch := omega) only [qzK, qu, qH, go_sem, qc, dvP, mdP]
 repeat' first
  | ((first | refine qe ?_ ?_ | refine qg ?_ ?_); (next => exact rvk); simp only [go_sem]; (first | exact VLe.refl _ | refine qh ?_ | refine qd ?_ | refine ql ?_ | skip))
  | with_reducible first | refine And.intro ?_ ?_ | intro _
 all_goals try exact clz
theorem qhN (l : List It) : ∀ i, -1 ≤ (qB l i).2.1 ∧ (qB l i).2.1 < i + 1 := by
 intro i
 induction i with
 | zero => simp [qB]
 | succ i ih =>
  rw [qB]
  split
  ·omega
  ·split
   ·simp only; omega
   ·simp only; omega
end LN
end
section
open Go Go.Proofs AF HY P48
namespace LN
set_option maxRecDepth 100000
set_option maxHeartbeats 8000000 in
theorem qAn (l : List It) (hl : l.length ≤ 100000) : qxu Tryz.prog 122 [.ip [qu l]] (jF l) := by
 intro h ts L S E hS hE body start hts
 refine kI qvF (by simp) ?_
 simp only [lcP, lnP, Nat.reduceAdd, Nat.reduceSub, List.replicate, caP, naP, List.append_nil]
 simp (disch := omega) only [quT, qu, qH, go_sem, qc, dvP, mdP]
 repeat' first
  | ((first | refine qe ?_ ?_ | refine qg ?_ ?_); (next => exact rvk); simp only [go_sem]; (first | exact VLe.refl _ | refine qh ?_ | refine qd ?_ | refine ql ?_ | skip))
  | with_reducible first | refine And.intro ?_ ?_ | intro _
 all_goals try exact clz
 refine qJ (T := fun i : Nat × List AObj × AObj => qv 65 [(0, .yld h.length), (1, .ip [qu l]), (3, .int .i64 (qB l i.1).2.1), (4, .int .i64 (qB l i.1).2.2), (7, qu l), (8, .int .i64 l.length), (9, .int .i64 i.1)])
  (H := fun i => i.2.1 ++ [.lp .ready ts L] ++ [i.2.2])
  (inv := fun i => i.1 ≤ l.length ∧ S (qB l i.1).1.length i.2.1 ∧ zf [i.2.2] 0 = true) (m := fun i => l.length - i.1) (0, h, .emp 0) ⟨Nat.zero_le _, start, rfl⟩ (Wk.temps ?_) ?_
 ·(simp only [qu, qH, qB, qv, List.foldl, List.replicate, go_sem, qr, qp, qm, qq]; try (repeat' first | (with_reducible refine And.intro ?_ ?_) | (refine qh ?_; omega) | (refine qd ?_; rfl) | exact VLe.refl _))
 rintro ⟨i, hh, O⟩ ⟨i1, i2, i3⟩ K hK
 simp only at i1 i2 i3 hK
 obtain ⟨hlen, hlow⟩ := hS _ _ i2
 have hb : (h ++ [AObj.lp LS.ready ts L]).length = (hh ++ [AObj.lp LS.ready ts L]).length := by simp [hlen]
 rw [hb]
 have i3' : ∀ m, zf (O :: m) 0 = true := fun _ => i3
 have hrg := qhN l i
 have hfin := fun (h : i + 1 ≤ l.length) => qoY l h
 obtain ⟨d, f, t, hW⟩ : ∃ d f t, qB l i = (d, f, t) := ⟨_, _, _, rfl⟩
 rw [hW] at i2 hrg
 simp only at i2 hrg
 by_cases hi : i < l.length
 ·have q0 : ((i : Int) < l.length) = True := eq_true (by omega)
  have hst : qB l (i + 1) = if (it l i).kind ≠ 1 then (d, f, t) else if qa1 l i = true then (d, f, (i : Int)) else (if 0 ≤ f then d ++ [(f, t)] else d, (i : Int), (i : Int)) := by
   rw [qB, hW]
  by_cases hk : (it l i).kind = 1
  ·have q1 : ((it l i).kind = 1) = True := eq_true hk
   rw [if_neg (fun hc => hc hk)] at hst
   simp (disch := omega) only [qv, qu, qH, List.foldl, List.replicate, i3', q0, q1, hW, go_sem, qc, dvP, mdP]
   repeat' first
    | ((first | refine qe ?_ ?_ | refine qg ?_ ?_); (next => exact rvk); simp only [go_sem]; (first | exact VLe.refl _ | refine qh ?_ | refine qd ?_ | refine ql ?_ | skip))
    | with_reducible first | refine And.intro ?_ ?_ | intro _
   all_goals try exact clz
   ·rename_i a1
    have hc : qa1 l i = true := by
     unfold qa1
     rw [show (i - 1 : Nat) = ((i : Int) - 1).toNat by omega, show (i - 2 : Nat) = ((i : Int) - 2).toNat by omega]
     simp only [Bool.and_eq_true, decide_eq_true_eq]
     exact ⟨by omega, a1.1.1.2, a1.1.2, a1.2⟩
    rw [if_pos hc] at hst
    refine hK _ _ (i + 1, hh, .mem (qA (some O) + 1) 58 (qH (it l i))) ⟨hi, by simp only; rw [hst]; exact i2, rfl⟩ (by simp only; omega) ?_
    simp only
    rw [hst]
    refine Wk.temps ?_
    (simp only [qu, qH, qv, List.foldl, List.replicate, go_sem, qr, qp, qm, qq]; try (repeat' first | (with_reducible refine And.intro ?_ ?_) | (refine qh ?_; omega) | (refine qd ?_; rfl) | exact VLe.refl _))
   ·exact ⟨.ready, ts, L, by rw [List.append_assoc]; exact qcs hlen⟩
   ·rename_i a1 hf
    have hc : ¬ qa1 l i = true := by
     unfold qa1
     rw [show (i - 1 : Nat) = ((i : Int) - 1).toNat by omega, show (i - 2 : Nat) = ((i : Int) - 2).toNat by omega]
     simp only [Bool.and_eq_true, decide_eq_true_eq]
     rintro ⟨b1, b2, b3, b4⟩
     exact a1 ⟨⟨by omega, b2⟩, b3⟩ b4
    have qf : (0 ≤ f) = True := eq_true hf
    rw [if_neg hc, if_pos hf] at hst
    have hpre : d ++ [(f, t)] <+: zg l := by have := hfin hi; rwa [hst] at this
    obtain ⟨r, hr⟩ := hpre
    have hlt : d.length < (jF l).length := by unfold jF; rw [List.length_map, ← hr]; simp
    have hx : (jF l)[d.length] = [.int .i64 f, .int .i64 t] := by
     unfold jF
     simp only [List.getElem_map, ← hr]
     simp
    have hb' := body d.length hh [.mem (qA (some O) + 1) 58 (qH (it l i))] hlt i2
    rw [hx] at hb'
    rw [List.append_assoc]
    refine kq.mono ?_ hb'
    rintro v h' ⟨hh', ⟨rfl, hn, rfl⟩ | ⟨st, rfl, hs', rfl⟩⟩
    ·simp (disch := omega) only [qf, go_sem, qc, dvP, mdP]
     repeat' first
      | ((first | refine qe ?_ ?_ | refine qg ?_ ?_); (next => exact rvk); simp only [go_sem]; (first | exact VLe.refl _ | refine qh ?_ | refine qd ?_ | refine ql ?_ | skip))
      | with_reducible first | refine And.intro ?_ ?_ | intro _
     all_goals try exact clz
     refine hK _ _ (i + 1, hh', .mem (qA (some O) + 1) 58 (qH (it l i))) ⟨hi, by simp only; rw [hst]; simpa using hn, rfl⟩ (by simp only; omega) ?_
     simp only
     rw [hst, List.append_assoc]
     refine Wk.temps ?_
     (simp only [qu, qH, qv, List.foldl, List.replicate, go_sem, qr, qp, qm, qq]; try (repeat' first | (with_reducible refine And.intro ?_ ?_) | (refine qh ?_; omega) | (refine qd ?_; rfl) | exact VLe.refl _))
    ·simp (disch := omega) only [qf, go_sem, qc, dvP, mdP]
     obtain ⟨r1, r2⟩ := (hE _ _ hs').ret (L := L) st hts
     rw [show hh' ++ AObj.lp st ts L :: [AObj.mem (qA (some O) + 1) 58 (qH (it l i))] = (hh' ++ [AObj.lp st ts L]) ++ [AObj.mem (qA (some O) + 1) 58 (qH (it l i))] by simp]
     exact qac trivial r1 r2 ⟨_, .inr ⟨st, hs', rfl⟩⟩ (VLe.refl _)
   ·rename_i a1 hf _
    have hc : ¬ qa1 l i = true := by
     unfold qa1
     rw [show (i - 1 : Nat) = ((i : Int) - 1).toNat by omega, show (i - 2 : Nat) = ((i : Int) - 2).toNat by omega]
     simp only [Bool.and_eq_true, decide_eq_true_eq]
     rintro ⟨b1, b2, b3, b4⟩
     exact a1 ⟨⟨by omega, b2⟩, b3⟩ b4
    rw [if_neg hc, if_neg hf] at hst
    refine hK _ _ (i + 1, hh, .mem (qA (some O) + 1) 58 (qH (it l i))) ⟨hi, by simp only; rw [hst]; exact i2, rfl⟩ (by simp only; omega) ?_
    simp only
    rw [hst]
    refine Wk.temps ?_
    (simp only [qu, qH, qv, List.foldl, List.replicate, go_sem, qr, qp, qm, qq]; try (repeat' first | (with_reducible refine And.intro ?_ ?_) | (refine qh ?_; omega) | (refine qd ?_; rfl) | exact VLe.refl _))
  ·have q1 : ((it l i).kind = 1) = False := eq_false hk
   rw [if_pos hk] at hst
   simp (disch := omega) only [qv, qu, qH, List.foldl, List.replicate, i3', q0, q1, hW, go_sem, qc, dvP, mdP]
   repeat' first
    | ((first | refine qe ?_ ?_ | refine qg ?_ ?_); (next => exact rvk); simp only [go_sem]; (first | exact VLe.refl _ | refine qh ?_ | refine qd ?_ | refine ql ?_ | skip))
    | with_reducible first | refine And.intro ?_ ?_ | intro _
   all_goals try exact clz
   refine hK _ _ (i + 1, hh, .mem (qA (some O) + 1) 58 (qH (it l i))) ⟨hi, by simp only; rw [hst]; exact i2, rfl⟩ (by simp only; omega) ?_
   simp only
   rw [hst]
   refine Wk.temps ?_
   (simp only [qu, qH, qv, List.foldl, List.replicate, go_sem, qr, qp, qm, qq]; try (repeat' first | (with_reducible refine And.intro ?_ ?_) | (refine qh ?_; omega) | (refine qd ?_; rfl) | exact VLe.refl _))
 ·have e : i = l.length := by omega
  subst e
  by_cases hf : 0 ≤ f
  ·have q1 : (0 ≤ f) = True := eq_true hf
   simp (disch := omega) only [qv, qu, qH, List.foldl, List.replicate, q1, hW, go_sem, qc, dvP, mdP]
   repeat' first
    | ((first | refine qe ?_ ?_ | refine qg ?_ ?_); (next => exact rvk); simp only [go_sem]; (first | exact VLe.refl _ | refine qh ?_ | refine qd ?_ | refine ql ?_ | skip))
    | with_reducible first | refine And.intro ?_ ?_ | intro _
   all_goals try exact clz
   ·exact ⟨.ready, ts, L, by rw [List.append_assoc]; exact qcs hlen⟩
   ·have hF : zg l = d ++ [(f, t)] := by unfold zg; rw [hW]; simp only; rw [if_pos hf]
    have hlX : (jF l).length = d.length + 1 := by unfold jF; rw [hF]; simp
    have hx : (jF l)[d.length]'(by omega) = [.int .i64 f, .int .i64 t] := by
     unfold jF
     simp only [List.getElem_map, hF]
     simp
    have hb' := body d.length hh [O] (by omega) i2
    rw [hx] at hb'
    rw [List.append_assoc]
    refine kq.mono ?_ hb'
    rintro v h' ⟨hh', ⟨rfl, hn, rfl⟩ | ⟨st, rfl, hs', rfl⟩⟩
    ·obtain ⟨r1, r2⟩ := (hS _ _ hn).ret (L := L) .ready hts
     rw [show hh' ++ AObj.lp LS.ready ts L :: [O] = (hh' ++ [AObj.lp LS.ready ts L]) ++ [O] by simp]
     exact qaL trivial r1 r2 ⟨hh', .inl ⟨by rw [hlX]; exact hn, rfl⟩⟩ (VLe.refl _)
    ·obtain ⟨r1, r2⟩ := (hE _ _ hs').ret (L := L) st hts
     rw [show hh' ++ AObj.lp st ts L :: [O] = (hh' ++ [AObj.lp st ts L]) ++ [O] by simp]
     exact qaL trivial r1 r2 ⟨_, .inr ⟨st, hs', rfl⟩⟩ (VLe.refl _)
  ·have q1 : (0 ≤ f) = False := eq_false hf
   simp (disch := omega) only [qv, qu, qH, List.foldl, List.replicate, q1, hW, go_sem, qc, dvP, mdP]
   repeat' first
    | ((first | refine qe ?_ ?_ | refine qg ?_ ?_); (next => exact rvk); simp only [go_sem]; (first | exact VLe.refl _ | refine qh ?_ | refine qd ?_ | refine ql ?_ | skip))
    | with_reducible first | refine And.intro ?_ ?_ | intro _
   all_goals try exact clz
   have hF : zg l = d := by unfold zg; rw [hW]; simp only; rw [if_neg hf]
   have hlX : (jF l).length = d.length := by unfold jF; rw [hF]; simp
   obtain ⟨r1, r2⟩ := (hS _ _ i2).ret (L := L) .ready hts
   exact qaL trivial r1 r2 ⟨hh, .inl ⟨by rw [hlX]; exact i2, rfl⟩⟩ (VLe.refl _)
end LN
end
section
open Go Go.Proofs AF HY P48
namespace LN
set_option maxRecDepth 100000
theorem qrJ (l : List It) : ∀ i : Nat, (∀ p ∈ (qB l i).1, 0 ≤ p.1 ∧ p.1 < i ∧ 0 ≤ p.2 ∧ p.2 < i) ∧ (0 ≤ (qB l i).2.1 → (qB l i).2.1 < i ∧ 0 ≤ (qB l i).2.2 ∧ (qB l i).2.2 < i) := by
 intro i
 induction i with
 | zero => exact ⟨by simp [qB], by simp [qB]⟩
 | succ i ih =>
  obtain ⟨h1, h2⟩ := ih
  rw [qB]
  split
  ·exact ⟨fun p hp => by have := h1 p hp; omega, fun h => by have := h2 h; omega⟩
  ·split
   ·exact ⟨fun p hp => by have := h1 p hp; omega, fun h => by have := h2 h; simp only; omega⟩
   ·refine ⟨fun p hp => ?_, fun _ => by simp only; omega⟩
    simp only at hp
    split at hp
    ·rename_i hf
     rcases List.mem_append.1 hp with hp | hp
     ·have := h1 p hp; omega
     ·rw [List.mem_singleton] at hp
      subst hp
      have := h2 hf
      omega
    ·have := h1 p hp; omega
theorem qrK {l : List It} : ∀ p ∈ zg l, 0 ≤ p.1 ∧ p.1 < l.length ∧ 0 ≤ p.2 ∧ p.2 < l.length := by
 intro p hp
 obtain ⟨h1, h2⟩ := qrJ l l.length
 unfold zg at hp
 split at hp
 ·rename_i hf
  rcases List.mem_append.1 hp with hp | hp
  ·exact h1 p hp
  ·rw [List.mem_singleton] at hp
   subst hp
   have := h2 hf
   omega
 ·exact h1 p hp
theorem qoX (l : List It) : ∀ i : Nat, (qB l i).1.length ≤ i := by
 intro i
 induction i with
 | zero => simp [qB]
 | succ i ih =>
  rw [qB]
  split
  ·omega
  ·split
   ·simp only; omega
   ·simp only
    split
    ·rw [List.length_append, List.length_singleton]; omega
    ·omega
theorem qkp (l : List It) : (zg l).length ≤ l.length + 1 := by
 have := qoX l l.length
 unfold zg
 split
 ·rw [List.length_append, List.length_singleton]; omega
 ·omega
def qe4 (pk : Int → Int → Int) (l : List It) (out : List Int) : List Int := (zg l).map fun p => pk (out.getD p.1.toNat 0) (out.getD p.2.toNat 0)
def kP (pk : Int → Int → Int) (l : List It) (ls : List Ln) : Int × List Int :=
 if jk l ≠ 0 then (1, []) else if 4096 < ls.length then (4, []) else match qb8 l ls with
  | none => (9, [])
  | some out => (0, qe4 pk l out)
theorem qmS {L : List Int} {n : Nat} {c : AV} (h : c ∈ q9 L) : jf n c = true := by
 unfold q9 at h
 obtain ⟨x, _, rfl⟩ := List.mem_map.1 h
 rfl
theorem qoq (L : List Int) {i : Nat} (h : i < L.length) : L.take (i + 1) = L.take i ++ [L.getD i 0] := by
 rw [List.take_add_one, List.getElem?_eq_getElem h]
 simp [List.getD_eq_getElem?_getD, h]
theorem qjD {ls : List Ln} : ∀ {l : List It} {i : Nat} {last : Int} {out R : List Int}, jE ls l i last out = some R → R.length = out.length := by
 intro l
 induction l with
 | nil => intro i last out R h; cases h; rfl
 | cons x l ih =>
  intro i last out R h
  unfold jE at h
  split at h
  ·exact ih h
  ·split at h
   ·cases h
   ·split at h
    ·cases h
    ·rw [ih h]; simp
set_option maxHeartbeats 8000000 in
theorem t38 (pk : Int → Int → Int) (F : Nat) (l : List It) (ls : List Ln) (h : List AObj) (hl : l.length ≤ 100000) (hls : ls.length ≤ 100000)
  (hp : ∀ (a b : Int) (h : List AObj), qs Tryz.prog F [.int .i64 a, .int .i64 b] h (.int .i64 (pk a b)) h) :
  qs Tryz.prog 55 [qu l, qD ls, .fn (.func F) [] []] h (.tup [jM (kP pk l ls).2, .int .i64 (kP pk l ls).1]) h := by
 have c61 := fun h => p61 l h (by omega)
 obtain ⟨R, hR⟩ : ∃ R, R = kP pk l ls := ⟨_, rfl⟩
 rw [← hR]
 obtain ⟨e, he⟩ : ∃ e, e = jk l := ⟨_, rfl⟩
 rw [← he] at c61
 by_cases g1 : e = 0
 ·have k1 : (e = 0) = True := eq_true g1
  by_cases g2 : 4096 < ls.length
  ·have k2 : (4096 < (ls.length : Int)) = True := eq_true (by omega)
   have hV : R = (4, []) := by rw [hR]; unfold kP; rw [if_neg (by rw [← he]; exact fun hc => hc g1), if_pos g2]
   rw [hV]
   refine qo qp5 (by simp) ?_
   simp only [lcP, lnP, Nat.reduceAdd, Nat.reduceSub, List.replicate, caP, naP, List.append_nil]
   simp (disch := omega) only [qu7, k1, k2, qD, go_sem, qc, dvP, mdP]
   repeat' first
    | ((first | refine qj (c61 _) ?_ ?_); (next => exact flk); simp (disch := omega) only [k1, k2, qD, go_sem, qc, dvP, mdP])
    | ((first | refine qn (fun _ => c61 _) ?_ ?_); (next => exact flk); simp (disch := omega) only [k1, k2, qD, go_sem, qc, dvP, mdP])
    | ((first | refine qk (fun e => ⟨?_, c61 _⟩) ?_); (next => exact flk); simp (disch := omega) only [k1, k2, qD, go_sem, qc, dvP, mdP])
    | ((first | refine qe ?_ ?_ | refine qg ?_ ?_); (next => exact rvk); simp only [go_sem]; (first | exact VLe.refl _ | refine qh ?_ | refine qd ?_ | refine ql ?_ | skip))
    | with_reducible first | refine And.intro ?_ ?_ | intro _
   all_goals try exact clz
  have k2 : (4096 < (ls.length : Int)) = False := eq_false (by omega)
  have c62 := fun h => t62 l ls h hl hls
  have c63 := fun h => t63 l h
  have hV : R = match qb8 l ls with
   | none => (9, [])
   | some out => (0, qe4 pk l out) := by rw [hR]; unfold kP; rw [if_neg (by rw [← he]; exact fun hc => hc g1), if_neg g2]
  cases ho : qb8 l ls with
  | none =>
   rw [ho] at c62 hV
   rw [hV]
   have e0 : qhe none = .tup [.nl, .bool false] := rfl
   rw [e0] at c62
   refine qo qp5 (by simp) ?_
   simp only [lcP, lnP, Nat.reduceAdd, Nat.reduceSub, List.replicate, caP, naP, List.append_nil]
   simp (disch := omega) only [qu7, k1, k2, qD, go_sem, qc, dvP, mdP]
   repeat' first
    | ((first | refine qj (c61 _) ?_ ?_ | refine qj (c62 _) ?_ ?_); (next => exact flk); simp (disch := omega) only [k1, k2, qD, go_sem, qc, dvP, mdP])
    | ((first | refine qn (fun _ => c61 _) ?_ ?_ | refine qn (fun _ => c62 _) ?_ ?_); (next => exact flk); simp (disch := omega) only [k1, k2, qD, go_sem, qc, dvP, mdP])
    | ((first | refine qk (fun e => ⟨?_, c61 _⟩) ?_ | refine qk (fun e => ⟨?_, c62 _⟩) ?_); (next => exact flk); simp (disch := omega) only [k1, k2, qD, go_sem, qc, dvP, mdP])
    | ((first | refine qe ?_ ?_ | refine qg ?_ ?_); (next => exact rvk); simp only [go_sem]; (first | exact VLe.refl _ | refine qh ?_ | refine qd ?_ | refine ql ?_ | skip))
    | with_reducible first | refine And.intro ?_ ?_ | intro _
   all_goals try exact clz
  | some out =>
   rw [ho] at c62 hV
   rw [hV]
   have e0 : qhe (some out) = .tup [qy out, .bool true] := rfl
   rw [e0] at c62
   have hol : out.length = l.length := by have := qjD ho; rw [this]; simp
   refine qo qp5 (by simp) ?_
   simp only [lcP, lnP, Nat.reduceAdd, Nat.reduceSub, List.replicate, caP, naP, List.append_nil]
   simp (disch := omega) only [qu7, k1, k2, qD, kY, qai, go_sem, qc, dvP, mdP]
   repeat' first
    | ((first | refine qj (c61 _) ?_ ?_ | refine qj (c62 _) ?_ ?_ | refine qj (c63 _) ?_ ?_); (next => exact flk); simp (disch := omega) only [k1, k2, qD, qbm, kY, qai, go_sem, qc, dvP, mdP])
    | ((first | refine qn (fun _ => c61 _) ?_ ?_ | refine qn (fun _ => c62 _) ?_ ?_ | refine qn (fun _ => c63 _) ?_ ?_); (next => exact flk); simp (disch := omega) only [k1, k2, qD, qbm, kY, qai, go_sem, qc, dvP, mdP])
    | ((first | refine qk (fun e => ⟨?_, c61 _⟩) ?_ | refine qk (fun e => ⟨?_, c62 _⟩) ?_ | refine qk (fun e => ⟨?_, c63 _⟩) ?_); (next => exact flk); simp (disch := omega) only [k1, k2, qD, qbm, kY, qai, go_sem, qc, dvP, mdP])
    | ((first | refine qe ?_ ?_ | refine qg ?_ ?_); (next => exact rvk); simp only [go_sem]; (first | exact VLe.refl _ | refine qh ?_ | refine qd ?_ | refine ql ?_ | skip))
    | with_reducible first | refine And.intro ?_ ?_ | intro _
   all_goals try exact clz
   obtain ⟨V, hVl⟩ : ∃ V, V = qe4 pk l out := ⟨_, rfl⟩
   have hlX : (jF l).length = V.length := by rw [hVl]; simp [jF, qe4]
   have hVn : V.length ≤ 100001 := by rw [hVl, qe4, List.length_map]; have := qkp l; omega
   have hVi : ∀ i (hi : i < (jF l).length), ∃ a b : Nat, (jF l)[i] = [.int .i64 (a : Int), .int .i64 (b : Int)] ∧ a < out.length ∧ b < out.length ∧ V.getD i 0 = pk (out.getD a 0) (out.getD b 0) := by
    intro i hi
    have hi' : i < (zg l).length := by simpa [jF] using hi
    have hw := qrK ((zg l)[i]) (List.getElem_mem hi')
    refine ⟨((zg l)[i]).1.toNat, ((zg l)[i]).2.toNat, ?_, by omega, by omega, ?_⟩
    ·have e1 : (jF l)[i] = [.int .i64 ((zg l)[i]).1, .int .i64 ((zg l)[i]).2] := List.getElem_map _
     rw [e1]
     rw [show ((((zg l)[i]).1.toNat : Nat) : Int) = ((zg l)[i]).1 by omega, show ((((zg l)[i]).2.toNat : Nat) : Int) = ((zg l)[i]).2 by omega]
    ·rw [hVl, qe4, List.getD_eq_getElem?_getD, List.getElem?_map, List.getElem?_eq_getElem hi']
     rfl
   refine qaV (xs := jF l) (qAn l hl) (by intro a ha; simp [jF] at ha; obtain ⟨_, _, _, rfl⟩ := ha; rfl)
    (S := fun i hh => (i = 0 ∧ hh = h ++ [.mem 1 95 [.fn (.func F) [] []], .emp 1, .mem 1 42 [qy out], .mem 1 42 [.nl], .emp 0, .emp 0]) ∨ (0 < i ∧ ∃ (v w : Nat) (x : Int), hh = h ++ [.mem 1 95 [.fn (.func F) [] []], .emp 1, .mem 1 42 [qy out], .mem 1 42 [.osl (h.length + 5) v 1 0 i], .mem w 3 [.int .i64 x], .mem v 3 (q9 (V.take i))]))
    (E := fun _ _ => False) ?_ (fun _ _ h => h.elim) ?_ ?_ ?_ ?_ (fun _ _ h => h.elim)
   ·rintro i hh (⟨rfl, rfl⟩ | ⟨_, v, w, x, rfl⟩)
    ·exact LowI.refl _
    ·refine LowI.app rfl (fun o ho => ?_)
     simp only [List.mem_cons, List.not_mem_nil, or_false] at ho
     rcases ho with rfl | rfl | rfl | rfl | rfl | rfl
     ·left; simp
     ·left; simp
     ·left; simp
     ·right; constructor <;> (intro c hc; simp at hc; subst hc; simp [jf] <;> omega)
     ·right; constructor <;> (intro c hc; simp at hc; subst hc; rfl)
     ·right; constructor <;> exact fun c hc => qmS hc
   ·exact .inl ⟨rfl, rfl⟩
   ·simp [jf, jf.lowVs, qu, qy]
    try omega
   ·rintro i hh tl L hi hS hlen
    obtain ⟨a, b, hx, ha, hb, hv⟩ := hVi i hi
    rw [hlX] at hi
    rw [hx]
    have hts := qoq V hi
    have qa : ((a : Int) < out.length) = True := eq_true (by omega)
    have qb : ((b : Int) < out.length) = True := eq_true (by omega)
    simp only [qbi]
    rcases hS with ⟨rfl, rfl⟩ | ⟨hpos, v, w, x, rfl⟩
    ·simp (disch := omega) only [List.append_assoc, eq_self, qM, qy, go_sem, qc, dvP, mdP]
     repeat' first
      | ((first | refine qe ?_ ?_ | refine qg ?_ ?_); (next => exact rvk); simp only [go_sem]; (first | exact VLe.refl _ | refine qh ?_ | refine qd ?_ | refine ql ?_ | skip))
      | with_reducible first | refine And.intro ?_ ?_ | intro _
     all_goals try exact clz
     refine qgV ?T ?H ?h1 ?h2
     case h1 =>
      simp (disch := omega) only [qa, qb, go_sem, qc, dvP, mdP]
      repeat' first
       | (refine qdc (fun _ => hp _ _ _) ⟨rfl, rfl, rfl, trivial⟩ ?_; simp (disch := omega) only [qa, qb, qM, go_sem, qc])
       | with_reducible first | refine And.intro ?_ ?_ | intro _
      all_goals first
       | omega
       | rfl
       | (simp; done)
       | skip
     case h2 =>
      simp (disch := omega) only [go_sem, qc, dvP, mdP]
      repeat' first
       | ((first | refine qe ?_ ?_ | refine qg ?_ ?_); (next => exact rvk); simp only [go_sem]; (first | exact VLe.refl _ | refine qh ?_ | refine qd ?_ | refine ql ?_ | skip))
       | with_reducible first | refine And.intro ?_ ?_ | intro _
      all_goals try exact clz
      refine ⟨h ++ [.mem 1 95 [.fn (.func F) [] []], .emp 1, .mem 1 42 [qy out], .mem 1 42 [.osl (h.length + 5) 1 1 0 1], .mem 1 3 [.int .i64 (pk (out.getD a 0) (out.getD b 0))], .mem 1 3 [.int .i64 (pk (out.getD a 0) (out.getD b 0))]], by simp [qy], by simp, .inr ⟨by omega, 1, 1, pk (out.getD a 0) (out.getD b 0), ?_⟩⟩
      rw [hts, hv]
      rfl
    ·have eL : (q9 (V.take i)).length = i := by rw [zy, List.length_take]; omega
     have eT : List.take i (q9 (V.take i)) = q9 (V.take i) := List.take_of_length_le (by omega)
     simp (disch := omega) only [List.append_assoc, eq_self, qM, qy, go_sem, qc, dvP, mdP]
     repeat' first
      | ((first | refine qe ?_ ?_ | refine qg ?_ ?_); (next => exact rvk); simp only [go_sem]; (first | exact VLe.refl _ | refine qh ?_ | refine qd ?_ | refine ql ?_ | skip))
      | with_reducible first | refine And.intro ?_ ?_ | intro _
     all_goals try exact clz
     refine qgV ?T2 ?H2 ?h3 ?h4
     case h3 =>
      simp (disch := omega) only [qa, qb, eL, eT, go_sem, qc, dvP, mdP]
      repeat' first
       | (refine qdc (fun _ => hp _ _ _) ⟨rfl, rfl, rfl, trivial⟩ ?_; simp (disch := omega) only [qa, qb, eL, eT, qM, go_sem, qc])
       | with_reducible first | refine And.intro ?_ ?_ | intro _
      all_goals first
       | omega
       | rfl
       | (simp; done)
       | skip
     case h4 =>
      simp (disch := omega) only [go_sem, qc, dvP, mdP]
      repeat' first
       | ((first | refine qe ?_ ?_ | refine qg ?_ ?_); (next => exact rvk); simp only [go_sem]; (first | exact VLe.refl _ | refine qh ?_ | refine qd ?_ | refine ql ?_ | skip))
       | with_reducible first | refine And.intro ?_ ?_ | intro _
      all_goals try exact clz
      refine ⟨h ++ [.mem 1 95 [.fn (.func F) [] []], .emp 1, .mem 1 42 [qy out], .mem 1 42 [.osl (h.length + 5) (v + 1) 1 0 (i + 1)], .mem (w + 1) 3 [.int .i64 (pk (out.getD a 0) (out.getD b 0))], .mem (v + 1) 3 (q9 (V.take i) ++ [.int .i64 (pk (out.getD a 0) (out.getD b 0))])], by simp [qy], by simp, ?_⟩
      have hfin : ∃ (v' w' : Nat) (x' : Int), h ++ [AObj.mem 1 95 [.fn (.func F) [] []], .emp 1, .mem 1 42 [qy out], .mem 1 42 [.osl (h.length + 5) (v + 1) 1 0 (i + 1)], .mem (w + 1) 3 [.int .i64 (pk (out.getD a 0) (out.getD b 0))], .mem (v + 1) 3 (q9 (V.take i) ++ [.int .i64 (pk (out.getD a 0) (out.getD b 0))])] = h ++ [.mem 1 95 [.fn (.func F) [] []], .emp 1, .mem 1 42 [qy out], .mem 1 42 [.osl (h.length + 5) v' 1 0 (i + 1)], .mem w' 3 [.int .i64 x'], .mem v' 3 (q9 (V.take (i + 1)))] := ⟨v + 1, w + 1, pk (out.getD a 0) (out.getD b 0), by rw [hts, hv, qaN]⟩
      first
       | exact .inr ⟨by omega, hfin⟩
       | exact .inr hfin
       | exact hfin
   ·rintro hh hS
    rw [hlX] at hS
    rw [← hVl]
    rcases hS with ⟨h0, rfl⟩ | ⟨hpos, v, w, x, rfl⟩
    ·have e0 : V = [] := List.eq_nil_of_length_eq_zero h0
     rw [e0]
     simp (disch := omega) only [go_sem, qc, dvP, mdP]
     repeat' first
      | ((first | refine qe ?_ ?_ | refine qg ?_ ?_); (next => exact rvk); simp only [go_sem]; (first | exact VLe.refl _ | refine qh ?_ | refine qd ?_ | refine ql ?_ | skip))
      | with_reducible first | refine And.intro ?_ ?_ | intro _
     all_goals try exact clz
    ·rw [List.take_length]
     have eL := zy V
     simp (disch := omega) only [eL, go_sem, qc, dvP, mdP]
     repeat' first
      | ((first | refine qe ?_ ?_ | refine qg ?_ ?_); (next => exact rvk); simp only [go_sem]; (first | exact VLe.refl _ | refine qh ?_ | refine qd ?_ | refine ql ?_ | skip))
      | with_reducible first | refine And.intro ?_ ?_ | intro _
     all_goals try exact clz
     rw [if_pos (by omega)]
     have en : jM V = qy V := by
      unfold jM
      rw [if_neg (by intro hc; rw [hc] at hpos; simp at hpos)]
     rw [en]
     exact zo ⟨qcZ rfl, VLe.refl _, trivial⟩
 ·have k1 : (e = 0) = False := eq_false g1
  have hV : R = (1, []) := by rw [hR]; unfold kP; rw [if_pos (by rw [← he]; exact g1)]
  rw [hV]
  refine qo qp5 (by simp) ?_
  simp only [lcP, lnP, Nat.reduceAdd, Nat.reduceSub, List.replicate, caP, naP, List.append_nil]
  simp (disch := omega) only [qu7, k1, go_sem, qc, dvP, mdP]
  repeat' first
   | ((first | refine qj (c61 _) ?_ ?_); (next => exact flk); simp (disch := omega) only [k1, go_sem, qc, dvP, mdP])
   | ((first | refine qn (fun _ => c61 _) ?_ ?_); (next => exact flk); simp (disch := omega) only [k1, go_sem, qc, dvP, mdP])
   | ((first | refine qk (fun e => ⟨?_, c61 _⟩) ?_); (next => exact flk); simp (disch := omega) only [k1, go_sem, qc, dvP, mdP])
   | ((first | refine qe ?_ ?_ | refine qg ?_ ?_); (next => exact rvk); simp only [go_sem]; (first | exact VLe.refl _ | refine qh ?_ | refine qd ?_ | refine ql ?_ | skip))
   | with_reducible first | refine And.intro ?_ ?_ | intro _
  all_goals try exact clz
end LN
end
section
open Go Go.Proofs AF HY P48
namespace LN
set_option maxRecDepth 100000
theorem t39 (a b : Int) (h : List AObj) : qs Tryz.prog 56 [.int .i64 a, .int .i64 b] h (.int .i64 a) h := by
 refine qo qyi (by simp) ?_
 simp only [lcP, lnP, Nat.reduceAdd, Nat.reduceSub, List.replicate, caP, naP, List.append_nil]
 simp (disch := omega) only [qzv, go_sem, qc, dvP, mdP]
 repeat' first
  | ((first | refine qe ?_ ?_ | refine qg ?_ ?_); (next => exact rvk); simp only [go_sem]; (first | exact VLe.refl _ | refine qh ?_ | refine qd ?_ | refine ql ?_ | skip))
  | with_reducible first | refine And.intro ?_ ?_ | intro _
 all_goals try exact clz
theorem t41 (a b : Int) (h : List AObj) : qs Tryz.prog 57 [.int .i64 a, .int .i64 b] h (.int .i64 b) h := by
 refine qo qyj (by simp) ?_
 simp only [lcP, lnP, Nat.reduceAdd, Nat.reduceSub, List.replicate, caP, naP, List.append_nil]
 simp (disch := omega) only [qzw, go_sem, qc, dvP, mdP]
 repeat' first
  | ((first | refine qe ?_ ?_ | refine qg ?_ ?_); (next => exact rvk); simp only [go_sem]; (first | exact VLe.refl _ | refine qh ?_ | refine qd ?_ | refine ql ?_ | skip))
  | with_reducible first | refine And.intro ?_ ?_ | intro _
 all_goals try exact clz
theorem t12 (l : List It) (ls : List Ln) (h : List AObj) (hl : l.length ≤ 100000) (hls : ls.length ≤ 100000) : qs Tryz.prog 19 [qu l, qD ls] h (.tup [jM (kP (fun a _ => a) l ls).2, .int .i64 (kP (fun a _ => a) l ls).1]) h := by
 have c38 := fun h => t38 (fun a _ => a) 56 l ls h hl hls t39
 obtain ⟨A, hA⟩ : ∃ A, A = (kP (fun a _ => a) l ls).2 := ⟨_, rfl⟩
 obtain ⟨e, he⟩ : ∃ e, e = (kP (fun a _ => a) l ls).1 := ⟨_, rfl⟩
 rw [← hA, ← he] at c38 ⊢
 refine qo qx1 (by simp) ?_
 simp only [lcP, lnP, Nat.reduceAdd, Nat.reduceSub, List.replicate, caP, naP, List.append_nil]
 simp (disch := omega) only [qzg, qD, go_sem, qc, dvP, mdP]
 repeat' first
  | ((first | refine qj (c38 _) ?_ ?_); (next => exact flk); simp (disch := omega) only [qD, go_sem, qc, dvP, mdP])
  | ((first | refine qn (fun _ => c38 _) ?_ ?_); (next => exact flk); simp (disch := omega) only [qD, go_sem, qc, dvP, mdP])
  | ((first | refine qk (fun e => ⟨?_, c38 _⟩) ?_); (next => exact flk); simp (disch := omega) only [qD, go_sem, qc, dvP, mdP])
  | ((first | refine qe ?_ ?_ | refine qg ?_ ?_); (next => exact rvk); simp only [go_sem]; (first | exact VLe.refl _ | refine qh ?_ | refine qd ?_ | refine ql ?_ | skip))
  | with_reducible first | refine And.intro ?_ ?_ | intro _
 all_goals try exact clz
theorem t14 (l : List It) (ls : List Ln) (h : List AObj) (hl : l.length ≤ 100000) (hls : ls.length ≤ 100000) : qs Tryz.prog 20 [qu l, qD ls] h (.tup [jM (kP (fun _ b => b) l ls).2, .int .i64 (kP (fun _ b => b) l ls).1]) h := by
 have c38 := fun h => t38 (fun _ b => b) 57 l ls h hl hls t41
 obtain ⟨A, hA⟩ : ∃ A, A = (kP (fun _ b => b) l ls).2 := ⟨_, rfl⟩
 obtain ⟨e, he⟩ : ∃ e, e = (kP (fun _ b => b) l ls).1 := ⟨_, rfl⟩
 rw [← hA, ← he] at c38 ⊢
 refine qo qx2 (by simp) ?_
 simp only [lcP, lnP, Nat.reduceAdd, Nat.reduceSub, List.replicate, caP, naP, List.append_nil]
 simp (disch := omega) only [qzh, qD, go_sem, qc, dvP, mdP]
 repeat' first
  | ((first | refine qj (c38 _) ?_ ?_); (next => exact flk); simp (disch := omega) only [qD, go_sem, qc, dvP, mdP])
  | ((first | refine qn (fun _ => c38 _) ?_ ?_); (next => exact flk); simp (disch := omega) only [qD, go_sem, qc, dvP, mdP])
  | ((first | refine qk (fun e => ⟨?_, c38 _⟩) ?_); (next => exact flk); simp (disch := omega) only [qD, go_sem, qc, dvP, mdP])
  | ((first | refine qe ?_ ?_ | refine qg ?_ ?_); (next => exact rvk); simp only [go_sem]; (first | exact VLe.refl _ | refine qh ?_ | refine qd ?_ | refine ql ?_ | skip))
  | with_reducible first | refine And.intro ?_ ?_ | intro _
 all_goals try exact clz
end LN
end
section
open Go Go.Proofs AF HY P48
namespace LN
set_option maxRecDepth 100000
def quq (s : List UInt8) : It := { kind := 1, width := 10, stretch := 0, shrink := 0, penalty := 0, text := s }
def qwk : It := { kind := 2, width := 5, stretch := 0, shrink := 0, penalty := 0, text := [] }
def qAj : It := { kind := 3, width := 5, stretch := 0, shrink := 0, penalty := 50, text := [61] }
def exL : List It := [quq [100, 101, 117, 115], qwk, quq [101], qAj, quq [115, 116], qwk, quq [98, 111, 110, 117, 115]]
def qvn : List Ln := [⟨0, 3, 0, 0, []⟩, ⟨4, 7, 0, 0, []⟩]
theorem t37 (s : List UInt8) (h : List AObj) : qs Tryz.prog 52 [.str s] h (.agg (qH (quq s))) h := by
 refine qo qyh (by simp) ?_
 simp only [lcP, lnP, Nat.reduceAdd, Nat.reduceSub, List.replicate, caP, naP, List.append_nil]
 simp (disch := omega) only [qzu, go_sem, qc, dvP, mdP]
 repeat' first
  | ((first | refine qe ?_ ?_ | refine qg ?_ ?_); (next => exact rvk); simp only [go_sem]; (first | exact VLe.refl _ | refine qh ?_ | refine qd ?_ | refine ql ?_ | skip))
  | with_reducible first | refine And.intro ?_ ?_ | intro _
 all_goals try exact clz
 all_goals exact VLe.refl _
theorem qpO : kP (fun a _ => a) exL qvn = (0, [1, 1, 2]) := by decide +kernel
theorem qsT : kP (fun _ b => b) exL qvn = (0, [1, 2, 2]) := by decide +kernel
theorem qvo : qkx (fun n => qfN n.toNat) [[99, 102, 46, 32, 64, 97]] [[97]] [12] = (0, [[99, 102, 46, 32, 49, 50]]) := by decide +kernel
end LN
end
section
open Go Go.Proofs AF HY P48
namespace LN
set_option maxRecDepth 100000
theorem qzS (k : Nat) (H : List AObj) (hk : qL k H = some (.mem 1 3 [.int .i64 1, .int .i64 1, .int .i64 2])) : qs Tryz.prog 34 [qy [1, 1, 2], .osl k 1 1 0 3] H (.bool true) H := by
 have := qz9 [1, 1, 2] [1, 1, 2] k 1 H hk (by decide)
 rwa [decide_eq_true rfl] at this
theorem qzT (k : Nat) (H : List AObj) (hk : qL k H = some (.mem 1 3 [.int .i64 1, .int .i64 2, .int .i64 2])) : qs Tryz.prog 34 [qy [1, 2, 2], .osl k 1 1 0 3] H (.bool true) H := by
 have := qz9 [1, 2, 2] [1, 2, 2] k 1 H hk (by decide)
 rwa [decide_eq_true rfl] at this
theorem q31 (k : Nat) (H : List AObj) (hk : qL k H = some (.mem 1 9 [.str [99, 102, 46, 32, 49, 50]])) : qs Tryz.prog 54 [qF [[99, 102, 46, 32, 49, 50]], .osl k 1 1 0 1] H (.bool true) H := qAN [[99, 102, 46, 32, 49, 50]] [[99, 102, 46, 32, 49, 50]] k 1 H hk (by decide)
set_option maxHeartbeats 8000000 in
theorem t10 (h : List AObj) : qs Tryz.prog 18 [] h (.bool true) h := by
 have c37 := fun (s : List UInt8) (h : List AObj) => t37 s h
 have e37 : ∀ s, qH (quq s) = [.int .i64 1, .int .i64 10, .int .i64 0, .int .i64 0, .int .i64 0, .str s] := fun _ => rfl
 refine qo qx0 (by simp) ?_
 simp only [lcP, lnP, Nat.reduceAdd, Nat.reduceSub, List.replicate, caP, naP, List.append_nil]
 simp (disch := omega) only [qzf, go_sem, qc, dvP, mdP]
 repeat' first
  | ((first | refine qe ?_ ?_ | refine qg ?_ ?_); (next => exact rvk); simp only [go_sem]; (first | exact VLe.refl _ | refine qh ?_ | refine qd ?_ | refine ql ?_ | skip))
  | with_reducible first | refine And.intro ?_ ?_ | intro _
 all_goals try exact clz
 refine qgV ?T ?H ?h1 ?h2
 case h1 =>
  simp (disch := omega) only [go_sem, qc, dvP, mdP]
  repeat' first
   | (refine qdc (fun _ => c37 _ _) ⟨rfl, rfl, trivial⟩ ?_; simp (disch := omega) only [e37, qM, go_sem])
   | with_reducible first | refine And.intro ?_ ?_ | intro _
  all_goals first
   | omega
   | rfl
   | (simp; done)
   | skip
 case h2 =>
 simp (disch := omega) only [qM, go_sem, qc, dvP, mdP]
 repeat' first
  | ((first | refine qe ?_ ?_ | refine qg ?_ ?_); (next => exact rvk); simp only [go_sem]; (first | exact VLe.refl _ | refine qh ?_ | refine qd ?_ | refine ql ?_ | skip))
  | with_reducible first | refine And.intro ?_ ?_ | intro _
 all_goals try exact clz
 refine ⟨qv 73 [(4, qu exL), (5, qD qvn)], _, Wk.trans (Wk.freeze [h.length + 2, h.length + 3] ?_) (Wk.temps ?_), ?_⟩
 ·simp only [qbj, go_sem]
 ·simp only [List.map, qv, List.foldl, List.replicate, go_sem, qr, qp, qm, qq]
  have m2 : [h.length + 2, h.length + 3].contains (h.length + 2) = true := by simp
  have m3 : [h.length + 2, h.length + 3].contains (h.length + 3) = true := by simp
  rw [if_pos m2, if_pos m2, if_pos m3, if_pos m3]
  refine ⟨VLe.sl_eq rfl (fun i hi => ?_), VLe.sl_eq rfl (fun i hi => ?_)⟩
  ·match i, hi with
   | 0, _ => rfl
   | 1, _ => rfl
   | 2, _ => rfl
   | 3, _ => rfl
   | 4, _ => rfl
   | 5, _ => rfl
   | 6, _ => rfl
   | n + 7, hi => exact absurd hi (by omega)
  ·match i, hi with
   | 0, _ => rfl
   | 1, _ => rfl
   | n + 2, hi => exact absurd hi (by omega)
 have c12 := fun h => t12 exL qvn h (by decide) (by decide)
 have c14 := fun h => t14 exL qvn h (by decide) (by decide)
 rw [qpO] at c12
 rw [qsT] at c14
 have n1 : jM [1, 1, 2] = qy [1, 1, 2] := rfl
 have n2 : jM [1, 2, 2] = qy [1, 2, 2] := rfl
 simp only [n1] at c12
 simp only [n2] at c14
 simp only [qg2, qv, List.foldl, List.replicate, go_sem]
 repeat' first
  | ((first | refine qj (c12 _) ?_ ?_ | refine qj (c14 _) ?_ ?_); (next => exact flk); simp (disch := omega) only [qM, go_sem, qc, dvP, mdP])
  | ((first | refine qn (fun _ => c12 _) ?_ ?_ | refine qn (fun _ => c14 _) ?_ ?_); (next => exact flk); simp (disch := omega) only [qM, go_sem, qc, dvP, mdP])
  | ((first | refine qk (fun e => ⟨?_, c12 _⟩) ?_ | refine qk (fun e => ⟨?_, c14 _⟩) ?_); (next => exact flk); simp (disch := omega) only [qM, go_sem, qc, dvP, mdP])
  | ((first | refine qe ?_ ?_ | refine qg ?_ ?_); (next => exact rvk); simp only [go_sem]; (first | exact VLe.refl _ | refine qh ?_ | refine qd ?_ | refine ql ?_ | skip))
  | with_reducible first | refine And.intro ?_ ?_ | intro _
 all_goals try exact clz
 refine qX (qAi [h.length + 4, h.length + 5, h.length + 6] (by simp only [qbj, go_sem]) (qs.le (t21 (fun n => qfN n.toNat) [[99, 102, 46, 32, 64, 97]] [[97]] [12] _ (by decide) (by decide) (by decide) ?_ ?_ ?_) ?_ (VLe.refl _))) ⟨rfl, rfl, rfl, trivial⟩ ?_
 ·intro i hi
  match i, hi with
  | 0, _ => decide
  | n + 1, hi => exact absurd hi (by simp)
 ·intro i hi
  match i, hi with
  | 0, _ => decide
  | n + 1, hi => exact absurd hi (by simp)
 ·intro n hn _ _
  simp at hn
  subst hn
  exact ⟨by decide, fun l => qAI 12 _ (by decide)⟩
 ·have m4 : [h.length + 4, h.length + 5, h.length + 6].contains (h.length + 4) = true := by simp
  have m5 : [h.length + 4, h.length + 5, h.length + 6].contains (h.length + 5) = true := by simp
  have m6 : [h.length + 4, h.length + 5, h.length + 6].contains (h.length + 6) = true := by simp
  simp only [qdH, List.map, go_sem]
  rw [if_pos m4, if_pos m4, if_pos m5, if_pos m5, if_pos m6, if_pos m6]
  refine zU (VLe.sl_eq rfl (fun i hi => ?_)) (zU (VLe.sl_eq rfl (fun i hi => ?_)) (zU (VLe.sl_eq rfl (fun i hi => ?_)) j4.nil))
  ·obtain rfl : i = 0 := by omega
   rfl
  ·obtain rfl : i = 0 := by omega
   rfl
  ·obtain rfl : i = 0 := by omega
   rfl
 ·rw [qvo]
  simp only [qg2, go_sem]
  repeat' first
   | ((first | refine qj ((qzS _ _ (by simp only [go_sem] <;> rfl))) ?_ ?_ | refine qj ((qzT _ _ (by simp only [go_sem] <;> rfl))) ?_ ?_ | refine qj ((q31 _ _ (by simp only [go_sem] <;> rfl))) ?_ ?_); (next => exact flk); simp (disch := omega) only [qM, go_sem, qc, dvP, mdP])
   | ((first | refine qk (fun e => ⟨?_, (qzS _ _ (by simp only [go_sem] <;> rfl))⟩) ?_ | refine qk (fun e => ⟨?_, (qzT _ _ (by simp only [go_sem] <;> rfl))⟩) ?_ | refine qk (fun e => ⟨?_, (q31 _ _ (by simp only [go_sem] <;> rfl))⟩) ?_); (next => exact flk); simp (disch := omega) only [qM, go_sem, qc, dvP, mdP])
   | ((first | refine qe ?_ ?_ | refine qg ?_ ?_); (next => exact rvk); simp only [go_sem]; (first | exact VLe.refl _ | refine qh ?_ | refine qd ?_ | refine ql ?_ | skip))
   | with_reducible first | refine And.intro ?_ ?_ | intro _
  all_goals try exact clz
end LN
end
section
open Go Go.Proofs AF HY P48
namespace LN
set_option maxRecDepth 100000
def qct (l : List It) (ls : List Ln) : Bool := decide (∃ j, j < l.length ∧ 66 < (it l j).text.length) || (decide (30 < l.length) || decide (12 < ls.length))
theorem t11 (l : List It) (ls : List Ln) (h : List AObj) (hl : l.length ≤ 9223372036854775807) : qs Tryz.prog 51 [qu l, qD ls] h (.bool (qct l ls)) h := by
 obtain ⟨R, hR⟩ : ∃ R, R = qct l ls := ⟨_, rfl⟩
 rw [← hR]
 refine qo qyg (by simp) ?_
 simp only [lcP, lnP, Nat.reduceAdd, Nat.reduceSub, List.replicate, caP, naP, List.append_nil]
 simp (disch := omega) only [qzt, qu, qH, qD, qN, go_sem, qc, dvP, mdP]
 repeat' first
  | ((first | refine qe ?_ ?_ | refine qg ?_ ?_); (next => exact rvk); simp only [go_sem]; (first | exact VLe.refl _ | refine qh ?_ | refine qd ?_ | refine ql ?_ | skip))
  | with_reducible first | refine And.intro ?_ ?_ | intro _
 all_goals try exact clz
 refine qJ (T := fun i : Nat => qv 27 [(0, qu l), (1, qD ls), (5, .int .i64 i)]) (H := fun _ => h)
  (inv := fun i => i ≤ l.length ∧ ∀ j, j < i → (it l j).text.length ≤ 66) (m := fun i => l.length - i) 0 ⟨Nat.zero_le _, by omega⟩ (Wk.temps ?_) ?_
 ·(simp only [qu, qH, qD, qN, qv, List.foldl, List.replicate, go_sem, qr, qp, qm, qq]; try (repeat' first | (with_reducible refine And.intro ?_ ?_) | (refine qh ?_; omega) | (refine qd ?_; rfl) | exact VLe.refl _))
 rintro i ⟨i1, i2⟩ K hK
 by_cases hi : i < l.length
 ·have qi : ((i : Int) < l.length) = True := eq_true (by omega)
  by_cases hx : 66 < (it l i).text.length
  ·have qx : (66 < ((it l i).text.length : Int)) = True := eq_true (by omega)
   have hV : R = true := by
    rw [hR]
    unfold qct
    rw [decide_eq_true (⟨i, hi, hx⟩ : ∃ j, j < l.length ∧ 66 < (it l j).text.length)]
    rfl
   rw [hV]
   simp (disch := omega) only [qv, qu, qH, qD, qN, List.foldl, List.replicate, qi, qx, go_sem, qc, dvP, mdP]
   repeat' first
    | ((first | refine qe ?_ ?_ | refine qg ?_ ?_); (next => exact rvk); simp only [go_sem]; (first | exact VLe.refl _ | refine qh ?_ | refine qd ?_ | refine ql ?_ | skip))
    | with_reducible first | refine And.intro ?_ ?_ | intro _
   all_goals try exact clz
  ·have qx : (66 < ((it l i).text.length : Int)) = False := eq_false (by omega)
   simp (disch := omega) only [qv, qu, qH, qD, qN, List.foldl, List.replicate, qi, qx, go_sem, qc, dvP, mdP]
   repeat' first
    | ((first | refine qe ?_ ?_ | refine qg ?_ ?_); (next => exact rvk); simp only [go_sem]; (first | exact VLe.refl _ | refine qh ?_ | refine qd ?_ | refine ql ?_ | skip))
    | with_reducible first | refine And.intro ?_ ?_ | intro _
   all_goals try exact clz
   refine hK _ _ (i + 1) ⟨hi, fun j hj => ?_⟩ (by omega) (Wk.temps ?_)
   ·rcases Nat.lt_succ_iff_lt_or_eq.1 hj with h | h
    ·exact i2 j h
    ·subst h; omega
   ·(simp only [qu, qH, qD, qN, qv, List.foldl, List.replicate, go_sem, qr, qp, qm, qq]; try (repeat' first | (with_reducible refine And.intro ?_ ?_) | (refine qh ?_; omega) | (refine qd ?_; rfl) | exact VLe.refl _))
 ·have e : i = l.length := by omega
  subst e
  have hV : R = (decide (30 < l.length) || decide (12 < ls.length)) := by
   rw [hR]
   unfold qct
   rw [decide_eq_false (by rintro ⟨j, hj, hx⟩; have := i2 j hj; omega)]
   rfl
  by_cases g1 : 30 < l.length
  ·have q1 : (30 < (l.length : Int)) = True := eq_true (by omega)
   rw [hV, decide_eq_true g1]
   simp (disch := omega) only [qv, qu, qH, qD, qN, List.foldl, List.replicate, q1, go_sem, qc, dvP, mdP]
   repeat' first
    | ((first | refine qe ?_ ?_ | refine qg ?_ ?_); (next => exact rvk); simp only [go_sem]; (first | exact VLe.refl _ | refine qh ?_ | refine qd ?_ | refine ql ?_ | skip))
    | with_reducible first | refine And.intro ?_ ?_ | intro _
   all_goals try exact clz
  ·have q1 : (30 < (l.length : Int)) = False := eq_false (by omega)
   rw [hV, decide_eq_false g1]
   by_cases g2 : 12 < ls.length
   ·have q2 : (12 < (ls.length : Int)) = True := eq_true (by omega)
    rw [decide_eq_true g2]
    simp (disch := omega) only [qv, qu, qH, qD, qN, List.foldl, List.replicate, q1, q2, go_sem, qc, dvP, mdP]
    repeat' first
     | ((first | refine qe ?_ ?_ | refine qg ?_ ?_); (next => exact rvk); simp only [go_sem]; (first | exact VLe.refl _ | refine qh ?_ | refine qd ?_ | refine ql ?_ | skip))
     | with_reducible first | refine And.intro ?_ ?_ | intro _
    all_goals try exact clz
   ·have q2 : (12 < (ls.length : Int)) = False := eq_false (by omega)
    rw [decide_eq_false g2]
    simp (disch := omega) only [qv, qu, qH, qD, qN, List.foldl, List.replicate, q1, q2, go_sem, qc, dvP, mdP]
    repeat' first
     | ((first | refine qe ?_ ?_ | refine qg ?_ ?_); (next => exact rvk); simp only [go_sem]; (first | exact VLe.refl _ | refine qh ?_ | refine qd ?_ | refine ql ?_ | skip))
     | with_reducible first | refine And.intro ?_ ?_ | intro _
    all_goals try exact clz
end LN
end
section
open Go Go.Proofs AF HY P48
namespace LN
set_option maxRecDepth 100000
def qU (l : List It) (j : Nat) : Bool := decide ((it l j).kind = 1) && !qa1 l j
def qhU (l : List It) (i : Nat) : Nat := ((List.range i).filter (qU l)).length
theorem qbw (l : List It) (i : Nat) : qhU l (i + 1) = qhU l i + if qU l i = true then 1 else 0 := by
 unfold qhU
 rw [List.range_succ, List.filter_append, List.length_append]
 congr 1
 simp only [List.filter_cons, List.filter_nil]
 split <;> rfl
theorem qkt (l : List It) : ∀ i, (qB l i).1.length + (if 0 ≤ (qB l i).2.1 then 1 else 0) = qhU l i := by
 intro i
 induction i with
 | zero => simp [qB, qhU]
 | succ i ih =>
  rw [qbw, ← ih, qB]
  by_cases hk : (it l i).kind = 1
  ·rw [if_neg (fun hc => hc hk)]
   by_cases hc : qa1 l i = true
   ·rw [if_pos hc]
    have e : qU l i = false := by unfold qU; rw [hc, decide_eq_true hk]; rfl
    rw [if_neg (c := qU l i = true) (by rw [e]; simp)]
    simp
   ·rw [if_neg hc]
    have e : qU l i = true := by unfold qU; rw [decide_eq_true hk]; simpa using hc
    rw [if_pos (c := qU l i = true) e]
    simp only
    rw [if_pos (show (0 : Int) ≤ (i : Int) by omega)]
    split
    ·rw [List.length_append]; rfl
    ·omega
  ·rw [if_pos hk]
   have e : qU l i = false := by unfold qU; rw [decide_eq_false hk]; rfl
   rw [if_neg (c := qU l i = true) (by rw [e]; simp)]
   simp
theorem qhL (l : List It) : (zg l).length = qhU l l.length := by
 rw [← qkt]
 unfold zg
 split
 ·rw [List.length_append]; rfl
 ·rfl
inductive qpa : List It → Prop
 | one {x : It} (h : x.kind = 1) : qpa [x]
 | more {b : List It} {p x : It} (hb : qpa b) (hp : p.kind = 3) (hq : p.penalty ≠ -10000) (hx : x.kind = 1) : qpa (b ++ [p, x])
def qtO (s : List It) : Prop := s = [] ∨ ∃ a : It, s = [a] ∧ (a.kind = 2 ∨ a.kind = 3 ∧ a.penalty = -10000)
inductive Wds : List It → Nat → Prop
 | nil : Wds [] 0
 | snoc {l s b : List It} {n : Nat} (h : Wds l n) (hs : qtO s) (h0 : n = 0 → s = []) (hb : qpa b) : Wds (l ++ s ++ b) (n + 1)
theorem zD {l m : List It} {i : Nat} (h : i < l.length) : it (l ++ m) i = it l i := by
 unfold it; rw [List.getD_eq_getElem?_getD, List.getD_eq_getElem?_getD, List.getElem?_append_left h]
theorem qbB {l m : List It} {i : Nat} : it (l ++ m) (l.length + i) = it m i := by
 unfold it; rw [List.getD_eq_getElem?_getD, List.getD_eq_getElem?_getD, List.getElem?_append_right (by omega), Nat.add_sub_cancel_left]
theorem qfv {l m : List It} {i : Nat} (h : i < l.length) : qa1 (l ++ m) i = qa1 l i := by
 unfold qa1
 by_cases g : 2 ≤ i
 ·rw [zD (i := i - 1) (by omega), zD (i := i - 2) (by omega)]
 ·rw [decide_eq_false g]; rfl
theorem qlU {l m : List It} : ∀ i, i ≤ l.length → qhU (l ++ m) i = qhU l i := by
 intro i
 induction i with
 | zero => intro _; rfl
 | succ i ih =>
  intro h
  rw [qbw, qbw, ih (by omega)]
  have : qU (l ++ m) i = qU l i := by unfold qU; rw [zD (by omega), qfv (by omega)]
  rw [this]
theorem qcS {l : List It} {x : It} : qhU (l ++ [x]) (l ++ [x]).length = qhU l l.length + if qU (l ++ [x]) l.length = true then 1 else 0 := by
 rw [List.length_append, List.length_singleton, qbw, qlU _ (Nat.le_refl _)]
def qdr (l : List It) : Prop := 0 < l.length ∧ (it l (l.length - 1)).kind = 1
theorem zR {l : List It} {x : It} : it (l ++ [x]) l.length = x := by
 have := qbB (l := l) (m := [x]) (i := 0)
 rw [Nat.add_zero] at this
 rw [this]
 rfl
theorem qpm {l : List It} (hl : ∀ x, x.kind = 1 → qU (l ++ [x]) l.length = true) {b : List It} (hb : qpa b) : qhU (l ++ b) (l ++ b).length = qhU l l.length + 1 ∧ qdr (l ++ b) := by
 induction hb with
 | one h =>
  rw [qcS, if_pos (hl _ h)]
  refine ⟨rfl, by simp, ?_⟩
  rw [List.length_append, List.length_singleton, Nat.add_sub_cancel, zR]
  exact h
 | @more b p x hb hp hq hx ih =>
  obtain ⟨i1, i2, i3⟩ := ih
  have e : l ++ (b ++ [p, x]) = (l ++ b ++ [p]) ++ [x] := by simp
  rw [e, qcS, qcS]
  have e1 : qU (l ++ b ++ [p]) (l ++ b).length = false := by unfold qU; rw [zR, hp]; rfl
  have e2 : qU (l ++ b ++ [p] ++ [x]) (l ++ b ++ [p]).length = false := by
   have hc : qa1 (l ++ b ++ [p] ++ [x]) (l ++ b ++ [p]).length = true := by
    unfold qa1
    have n1 : (l ++ b ++ [p]).length - 1 = (l ++ b).length := by simp
    have n2 : (l ++ b ++ [p]).length - 2 = (l ++ b).length - 1 := by simp; omega
    rw [n1, n2, zD (l := l ++ b ++ [p]) (by simp), zR, zD (l := l ++ b ++ [p]) (by simp; omega), zD (l := l ++ b) (by omega), decide_eq_true hp, decide_eq_true hq, decide_eq_true i3]
    simp at i2 ⊢
    try omega
   unfold qU
   rw [hc]
   simp
  rw [e1, e2, i1]
  refine ⟨rfl, by simp; omega, ?_⟩
  rw [List.length_append, List.length_singleton, Nat.add_sub_cancel, zR]
  exact hx
theorem qoT {l : List It} {n : Nat} (h : Wds l n) : qhU l l.length = n ∧ (n = 0 → l = []) ∧ (0 < n → qdr l) := by
 induction h with
 | nil => exact ⟨rfl, fun _ => rfl, fun h => by omega⟩
 | @snoc l s b n h hs h0 hb ih =>
  obtain ⟨i1, i2, i3⟩ := ih
  have hsn : qhU (l ++ s) (l ++ s).length = n := by
   rcases hs with rfl | ⟨a, rfl, ha⟩
   ·rw [List.append_nil]; exact i1
   ·rw [qcS, i1]
    have : qU (l ++ [a]) l.length = false := by
     unfold qU
     rw [zR]
     rcases ha with ha | ⟨ha, _⟩ <;> rw [ha] <;> rfl
    rw [this]; rfl
  have hst : ∀ x : It, x.kind = 1 → qU (l ++ s ++ [x]) (l ++ s).length = true := by
   intro x hx
   unfold qU
   rw [zR, decide_eq_true hx]
   have hc : qa1 (l ++ s ++ [x]) (l ++ s).length = false := by
    unfold qa1
    by_cases g : 2 ≤ (l ++ s).length
    ·rw [zD (l := l ++ s) (m := [x]) (i := (l ++ s).length - 1) (by omega)]
     have hk : decide ((it (l ++ s) ((l ++ s).length - 1)).kind = 3) = false ∨ decide ((it (l ++ s) ((l ++ s).length - 1)).penalty ≠ -10000) = false := by
      rcases hs with rfl | ⟨a, rfl, ha⟩
      ·left
       rw [List.append_nil] at g ⊢
       have hn : 0 < n := by
        rcases Nat.eq_zero_or_pos n with e | e
        ·rw [i2 e] at g; simp at g
        ·exact e
       rw [(i3 hn).2]
       rfl
      ·rw [List.length_append, List.length_singleton, Nat.add_sub_cancel, zR]
       rcases ha with ha | ⟨_, ha⟩
       ·left; rw [ha]; rfl
       ·right; rw [ha]; rfl
     rcases hk with hk | hk <;> rw [hk] <;> simp
    ·rw [decide_eq_false g]; rfl
   rw [hc]; rfl
  obtain ⟨b1, b2⟩ := qpm hst hb
  exact ⟨by rw [b1, hsn], fun h => by omega, fun _ => b2⟩
theorem qt9 {l : List It} {n : Nat} (h : Wds l n) : (zg l).length = n := by rw [qhL]; exact (qoT h).1
end LN
end
section
namespace P48
def qr2 (l : List Item) (width : Int) : Nat → List Nat → Option Int
 | _, [] => none
 | frm, b :: r => if b = l.length then (if r = [] ∧ frm ≤ b then arc l width frm b else none)
  else if frm ≤ b ∧ b < l.length then (arc l width frm b).bind fun c => (qr2 l width (b + 1) r).map (c + ·) else none
theorem qdA {l : List Item} {width : Int} (hc : jk l = 0) {frm : Nat} (hf : frm ≤ l.length) (hp : 0 ≤ (kp l width).getD frm 0) : ∃ to c, pick l (kp l width) frm (qcP l width frm) = some to ∧ frm ≤ to ∧ to ≤ l.length ∧ arc l width frm to = some c ∧
  0 ≤ qS l.length (kp l width) to ∧ c + qS l.length (kp l width) to = (kp l width).getD frm 0 := by
 have pa := qtC (width := width) hc frm hf
 rcases pa with ⟨a1, _⟩ | ⟨_, ⟨x, a2, a3, a4⟩, _⟩
 ·omega
 ·unfold pick
  cases hx : (qcP l width frm).find? (fun x => decide (0 ≤ qS l.length (kp l width) x.1 ∧ x.2 + qS l.length (kp l width) x.1 = (kp l width).getD frm 0)) with
  | none =>
   rw [List.find?_eq_none] at hx
   have := hx x a2
   simp only [decide_eq_true_eq] at this
   exact absurd ⟨a3, a4.symm⟩ this
  | some y =>
   obtain ⟨to, c⟩ := y
   have h1 := List.find?_some hx
   have h2 := List.mem_of_find?_eq_some hx
   simp only [decide_eq_true_eq] at h1
   obtain ⟨g1, g2, g3⟩ := qaR.1 h2
   exact ⟨to, c, rfl, g1, g2, g3, h1.1, h1.2⟩
theorem qhQ {l : List Item} {width : Int} (hc : jk l = 0) : ∀ (k frm : Nat), l.length + 1 - frm ≤ k → frm ≤ l.length → 0 ≤ (kp l width).getD frm 0 → qr2 l width frm (qaX l width (kp l width) k frm) = some ((kp l width).getD frm 0) := by
 intro k
 induction k with
 | zero => intro frm h1 h2; omega
 | succ k ih =>
  intro frm h1 h2 hp
  obtain ⟨to, c, e1, g1, g2, g3, g4, g5⟩ := qdA hc h2 hp
  unfold qaX
  rw [e1]
  simp only
  split
  ·rename_i hlt
   have hb : qS l.length (kp l width) to = (kp l width).getD (to + 1) 0 := by simp [qS]; intro h; omega
   rw [hb] at g4 g5
   have := ih (to + 1) (by omega) (by omega) g4
   unfold qr2
   rw [if_neg (by omega), if_pos ⟨g1, hlt⟩, g3, this]
   simp only [Option.bind_some, Option.map_some]
   rw [g5]
  ·have e : to = l.length := by omega
   have hb : qS l.length (kp l width) to = 0 := by simp [qS, e]
   unfold qr2
   rw [if_pos e, if_pos ⟨rfl, g1⟩, g3]
   congr 1
   omega
end P48
end

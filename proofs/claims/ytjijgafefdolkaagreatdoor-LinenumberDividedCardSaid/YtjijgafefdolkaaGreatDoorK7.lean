import Derived.Test.YtjijgafefdolkaaGreatDoorK6
set_option linter.all false
set_option linter.unusedSimpArgs false
set_option linter.unusedVariables false
set_option linter.unusedSectionVars false
section
open Go Go.Proofs AF HY
namespace LN
set_option maxRecDepth 100000
def qcQ : List (List UInt8 × Int) → List (List UInt8 × Int) → Int × List (List UInt8 × Int)
 | [], m => (0, m)
 | (l, v) :: r, m => if qhu l = false then (14, []) else if (m.lookup l).isSome = true then (7, []) else if v < 1 ∨ 4096 < v then (2, []) else qcQ r (m ++ [(l, v)])
def qaU (m : List (List UInt8 × Int)) (it : Int → List UInt8) : List (List UInt8) → Int × List (List UInt8)
 | [] => (0, [])
 | t :: r => if (qdj m it t).2 ≠ 0 then ((qdj m it t).2, []) else if (qaU m it r).1 ≠ 0 then ((qaU m it r).1, []) else (0, (qdj m it t).1 :: (qaU m it r).2)
def qjN (it : Int → List UInt8) (ts L : List (List UInt8)) (V : List Int) : Int × List (List UInt8) :=
 if L.length ≠ V.length then (9, []) else if 4096 < L.length ∨ 4096 < ts.length then (4, []) else if (qcQ (L.zip V) []).1 ≠ 0 then ((qcQ (L.zip V) []).1, []) else qaU (qcQ (L.zip V) []).2 it ts
theorem qqE {L : List (List UInt8)} {V : List Int} {i : Nat} (h1 : i < L.length) (h2 : i < V.length) : (L.zip V).drop i = (L.getD i [], V.getD i 0) :: (L.zip V).drop (i + 1) := by
 rw [List.drop_eq_getElem_cons (by simp; omega)]
 simp [List.getD_eq_getElem?_getD, h1, h2]
theorem qiI {m : List (List UInt8 × Int)} {k : List UInt8} {n : Int} (h : m.lookup k = some n) : (k, n) ∈ m := by
 induction m with
 | nil => cases h
 | cons p m ih =>
  obtain ⟨a, b⟩ := p
  rw [List.lookup_cons] at h
  split at h
  ·rename_i e
   cases h
   rw [eq_of_beq e]
   simp
  ·exact List.mem_cons_of_mem _ (ih h)
def qk8 (f : List UInt8 → List UInt8) (ts : List (List UInt8)) (i : Nat) : List (List UInt8) := (ts.take i).map f ++ ts.drop i
theorem qrp (f : List UInt8 → List UInt8) (ts : List (List UInt8)) (i : Nat) (hi : i ≤ ts.length) : (qk8 f ts i).length = ts.length := by simp [qk8]; omega
theorem qrq {f : List UInt8 → List UInt8} {ts : List (List UInt8)} {i : Nat} (hi : i < ts.length) : (zZ (qk8 f ts i)).take i ++ AV.str (f (ts.getD i [])) :: (zZ (qk8 f ts i)).drop (i + 1) = zZ (qk8 f ts (i + 1)) := by
 have e1 : (((ts.take i).map f).map fun s => AV.str s).length = i := by simp; omega
 have e2 : ts.take (i + 1) = ts.take i ++ [ts.getD i []] := by rw [List.take_add_one, List.getD_eq_getElem?_getD, List.getElem?_eq_getElem hi]; rfl
 unfold zZ qk8
 rw [e2]
 simp only [List.map_append, List.map_cons, List.map_nil]
 rw [List.take_append_of_le_length (by omega), List.take_of_length_le (by omega), List.drop_append, e1, List.drop_eq_nil_of_le (by omega), List.nil_append, show i + 1 - i = 1 by omega, ← List.map_drop, List.drop_drop]
 simp
theorem qiX {m : List (List UInt8 × Int)} {it : Int → List UInt8} : ∀ {ts : List (List UInt8)} {i : Nat}, i < ts.length → (∀ j, j < i → (qdj m it (ts.getD j [])).2 = 0) → (qdj m it (ts.getD i [])).2 ≠ 0 → qaU m it ts = ((qdj m it (ts.getD i [])).2, []) := by
 intro ts
 induction ts with
 | nil => intro i hi; simp at hi
 | cons t r ih =>
  intro i hi hj he
  unfold qaU
  cases i with
  | zero => rw [List.getD_cons_zero] at he ⊢; rw [if_pos he]
  | succ i =>
   have h0 := hj 0 (by omega)
   rw [List.getD_cons_zero] at h0
   rw [List.getD_cons_succ] at he ⊢
   rw [if_neg (fun hc => hc h0), ih (by simpa using hi) (fun j h => by have := hj (j + 1) (by omega); rwa [List.getD_cons_succ] at this) he, if_pos he]
theorem qmU {m : List (List UInt8 × Int)} {it : Int → List UInt8} : ∀ {ts : List (List UInt8)}, (∀ j, j < ts.length → (qdj m it (ts.getD j [])).2 = 0) → qaU m it ts = (0, ts.map fun t => (qdj m it t).1) := by
 intro ts
 induction ts with
 | nil => intro _; rfl
 | cons t r ih =>
  intro hj
  unfold qaU
  have h0 := hj 0 (by simp)
  rw [List.getD_cons_zero] at h0
  rw [if_neg (fun hc => hc h0), ih (fun j h => by have := hj (j + 1) (by simp; omega); rwa [List.getD_cons_succ] at this), if_neg (by simp)]
  rfl
theorem qam : VLe .nl (qF []) := kA
set_option maxHeartbeats 4000000 in
theorem t21 (it : Int → List UInt8) (ts L : List (List UInt8)) (V : List Int) (h : List AObj) (h1 : ts.length ≤ 1000000000) (h2 : L.length ≤ 1000000000) (h3 : V.length ≤ 1000000000)
  (h4 : ∀ i, i < ts.length → (ts.getD i []).length ≤ 1000000000) (h5 : ∀ i, i < L.length → (L.getD i []).length ≤ 1000000000)
  (hit : ∀ n, n ∈ V → 1 ≤ n → n ≤ 4096 → (it n).length ≤ 20 ∧ ∀ l, qs Tryz.prog 120 [.int .i64 n] (h ++ l) (.str (it n)) (h ++ l)) :
  qs Tryz.prog 53 [qF ts, qF L, qw V] h (.tup [qF (qjN it ts L V).2, .int .i64 (qjN it ts L V).1]) h := by
 by_cases g1 : L.length = V.length
 ·have k1 : ((L.length : Int) = V.length) = True := eq_true (by omega)
  by_cases g2 : 4096 < L.length
  ·have k2 : (4096 < (L.length : Int)) = True := eq_true (by omega)
   have hV : qjN it ts L V = (4, []) := by unfold qjN; rw [if_neg (fun hc => hc g1), if_pos (.inl g2)]
   rw [hV]
   refine qn qo2 (by simp) ?_
   simp only [lcP, lnP, Nat.reduceAdd, Nat.reduceSub, List.replicate, caP, naP, List.append_nil]
   simp (disch := omega) only [qtI, k1, k2, qF, qw, go_sem, qc, dvP, mdP]
   repeat' first
    | ((first | refine qe ?_ ?_ | refine qg ?_ ?_); (next => exact rvk); simp only [go_sem]; (first | exact VLe.refl _ | refine qh ?_ | refine qd ?_ | refine ql ?_ | skip))
    | with_reducible first | refine And.intro ?_ ?_ | intro _
   all_goals try exact clz
   all_goals exact zg ⟨qam, VLe.refl _, trivial⟩
  have k2 : (4096 < (L.length : Int)) = False := eq_false (by omega)
  by_cases g3 : 4096 < ts.length
  ·have k3 : (4096 < (ts.length : Int)) = True := eq_true (by omega)
   have hV : qjN it ts L V = (4, []) := by unfold qjN; rw [if_neg (fun hc => hc g1), if_pos (.inr g3)]
   rw [hV]
   refine qn qo2 (by simp) ?_
   simp only [lcP, lnP, Nat.reduceAdd, Nat.reduceSub, List.replicate, caP, naP, List.append_nil]
   simp (disch := omega) only [qtI, k1, k2, k3, qF, qw, go_sem, qc, dvP, mdP]
   repeat' first
    | ((first | refine qe ?_ ?_ | refine qg ?_ ?_); (next => exact rvk); simp only [go_sem]; (first | exact VLe.refl _ | refine qh ?_ | refine qd ?_ | refine ql ?_ | skip))
    | with_reducible first | refine And.intro ?_ ?_ | intro _
   all_goals try exact clz
   all_goals exact zg ⟨qam, VLe.refl _, trivial⟩
  have k3 : (4096 < (ts.length : Int)) = False := eq_false (by omega)
  have hR : qjN it ts L V = if (qcQ (L.zip V) []).1 ≠ 0 then ((qcQ (L.zip V) []).1, []) else qaU (qcQ (L.zip V) []).2 it ts := by
   unfold qjN; rw [if_neg (fun hc => hc g1), if_neg (by rintro (h | h) <;> omega)]
  obtain ⟨R, hRR⟩ : ∃ R, R = qjN it ts L V := ⟨_, rfl⟩
  rw [← hRR] at hR ⊢
  refine qn qo2 (by simp) ?_
  simp only [lcP, lnP, Nat.reduceAdd, Nat.reduceSub, List.replicate, caP, naP, List.append_nil]
  simp (disch := omega) only [qtI, k1, k2, k3, qF, qw, go_sem, qc, dvP, mdP]
  repeat' first
   | ((first | refine qe ?_ ?_ | refine qg ?_ ?_); (next => exact rvk); simp only [go_sem]; (first | exact VLe.refl _ | refine qh ?_ | refine qd ?_ | refine ql ?_ | skip))
   | with_reducible first | refine And.intro ?_ ?_ | intro _
  all_goals try exact clz
  refine qJ (T := fun i : Nat × List (List UInt8 × Int) => qu 92 [(0, qF ts), (2, qw V), (8, .mp (h.length + 1) 1), (32, qF L), (33, .int .i64 L.length), (34, .int .i64 i.1)])
   (H := fun i => h ++ [.emp 1, .map 1 (qgf i.2), .emp 0])
   (inv := fun i => i.1 ≤ L.length ∧ qcQ (L.zip V) [] = qcQ ((L.zip V).drop i.1) i.2 ∧ ∀ p ∈ i.2, p.2 ∈ V ∧ 1 ≤ p.2 ∧ p.2 ≤ 4096) (m := fun i => L.length - i.1) (0, []) ⟨Nat.zero_le _, rfl, by simp⟩ (Wk.temps ?_) ?_
  ·(simp only [qF, qw, qu, List.foldl, List.replicate, go_sem, qr, qp, qm, qq]; try (repeat' first | (with_reducible refine And.intro ?_ ?_) | (refine qh ?_; omega) | (refine qd ?_; rfl) | exact VLe.refl _))
  rintro ⟨i, m⟩ ⟨i1, i2, i3⟩ K hK
  simp only at i1 i2 i3 hK
  by_cases hi : i < L.length
  ·have q0 : ((i : Int) < V.length) = True := eq_true (by omega)
   rw [qqE hi (by omega)] at i2
   have c44 := fun h => t44 (L.getD i []) h (h5 i hi)
   obtain ⟨l, hl⟩ : ∃ l, l = L.getD i [] := ⟨_, rfl⟩
   obtain ⟨v, hv⟩ : ∃ v, v = V.getD i 0 := ⟨_, rfl⟩
   have hvm : v ∈ V := by rw [hv, List.getD_eq_getElem?_getD, List.getElem?_eq_getElem (show i < V.length by omega)]; exact List.getElem_mem _
   have el := hl.symm
   have ev := hv.symm
   rw [el, ev] at i2
   rw [el] at c44
   simp only [qcQ] at i2
   cases hn : qhu l with
   | false =>
    rw [hn] at c44 i2
    rw [if_pos rfl] at i2
    have hV : R = (14, []) := by rw [hR, i2]; rfl
    rw [hV]
    simp (disch := omega) only [qu, List.foldl, List.replicate, qF, qw, el, ev, go_sem, qc, dvP, mdP]
    repeat' first
     | ((first | refine qj (c44 _) ?_ ?_); (next => exact flk); simp (disch := omega) only [qF, qw, el, ev, go_sem, qc, dvP, mdP])
     | ((first | refine qo (fun _ => c44 _) ?_ ?_); (next => exact flk); simp (disch := omega) only [qF, qw, el, ev, go_sem, qc, dvP, mdP])
     | ((first | refine qk (fun e => ⟨?_, c44 _⟩) ?_); (next => exact flk); simp (disch := omega) only [qF, qw, el, ev, go_sem, qc, dvP, mdP])
     | ((first | refine qe ?_ ?_ | refine qg ?_ ?_); (next => exact rvk); simp only [go_sem]; (first | exact VLe.refl _ | refine qh ?_ | refine qd ?_ | refine ql ?_ | skip))
     | with_reducible first | refine And.intro ?_ ?_ | intro _
    all_goals try exact clz
    all_goals exact zg ⟨qam, VLe.refl _, trivial⟩
   | true =>
   rw [hn] at c44 i2
   rw [if_neg (by simp)] at i2
   cases hk : m.lookup l with
   | some u =>
    rw [hk] at i2
    rw [if_pos (show (some u).isSome = true from rfl)] at i2
    have hV : R = (7, []) := by rw [hR, i2]; rfl
    rw [hV]
    have e1 := qaR (z := .int .i64 0) hk
    simp (disch := omega) only [qu, List.foldl, List.replicate, qF, qw, el, ev, go_sem, qc, dvP, mdP]
    repeat' first
     | ((first | refine qj (c44 _) ?_ ?_); (next => exact flk); simp (disch := omega) only [qF, qw, el, ev, e1, qI, Option.getD_some, Option.isSome_some, go_sem, qc, dvP, mdP])
     | ((first | refine qo (fun _ => c44 _) ?_ ?_); (next => exact flk); simp (disch := omega) only [qF, qw, el, ev, e1, qI, Option.getD_some, Option.isSome_some, go_sem, qc, dvP, mdP])
     | ((first | refine qk (fun e => ⟨?_, c44 _⟩) ?_); (next => exact flk); simp (disch := omega) only [qF, qw, el, ev, e1, qI, Option.getD_some, Option.isSome_some, go_sem, qc, dvP, mdP])
     | ((first | refine qe ?_ ?_ | refine qg ?_ ?_); (next => exact rvk); simp only [go_sem]; (first | exact VLe.refl _ | refine qh ?_ | refine qd ?_ | refine ql ?_ | skip))
     | with_reducible first | refine And.intro ?_ ?_ | intro _
    all_goals try exact clz
    all_goals exact zg ⟨qam, VLe.refl _, trivial⟩
   | none =>
   rw [hk] at i2
   rw [if_neg (by simp)] at i2
   have e1 := qaQ (z := .int .i64 0) hk
   have e2 := ql6 (v := v) hk
   by_cases r1 : v < 1
   ·have q1 : (v < 1) = True := eq_true r1
    rw [if_pos (.inl r1)] at i2
    have hV : R = (2, []) := by rw [hR, i2]; rfl
    rw [hV]
    simp (disch := omega) only [qu, List.foldl, List.replicate, qF, qw, el, ev, q0, q1, go_sem, qc, dvP, mdP]
    repeat' first
     | ((first | refine qj (c44 _) ?_ ?_); (next => exact flk); simp (disch := omega) only [qF, qw, el, ev, e1, q0, q1, qI, Option.getD_some, Option.isSome_some, go_sem, qc, dvP, mdP])
     | ((first | refine qo (fun _ => c44 _) ?_ ?_); (next => exact flk); simp (disch := omega) only [qF, qw, el, ev, e1, q0, q1, qI, Option.getD_some, Option.isSome_some, go_sem, qc, dvP, mdP])
     | ((first | refine qk (fun e => ⟨?_, c44 _⟩) ?_); (next => exact flk); simp (disch := omega) only [qF, qw, el, ev, e1, q0, q1, qI, Option.getD_some, Option.isSome_some, go_sem, qc, dvP, mdP])
     | ((first | refine qe ?_ ?_ | refine qg ?_ ?_); (next => exact rvk); simp only [go_sem]; (first | exact VLe.refl _ | refine qh ?_ | refine qd ?_ | refine ql ?_ | skip))
     | with_reducible first | refine And.intro ?_ ?_ | intro _
    all_goals try exact clz
    all_goals exact zg ⟨qam, VLe.refl _, trivial⟩
   have q1 : (v < 1) = False := eq_false r1
   by_cases r2 : 4096 < v
   ·have q2 : (4096 < v) = True := eq_true r2
    rw [if_pos (.inr r2)] at i2
    have hV : R = (2, []) := by rw [hR, i2]; rfl
    rw [hV]
    simp (disch := omega) only [qu, List.foldl, List.replicate, qF, qw, el, ev, q0, q1, q2, go_sem, qc, dvP, mdP]
    repeat' first
     | ((first | refine qj (c44 _) ?_ ?_); (next => exact flk); simp (disch := omega) only [qF, qw, el, ev, e1, q0, q1, q2, qI, Option.getD_some, Option.isSome_some, go_sem, qc, dvP, mdP])
     | ((first | refine qo (fun _ => c44 _) ?_ ?_); (next => exact flk); simp (disch := omega) only [qF, qw, el, ev, e1, q0, q1, q2, qI, Option.getD_some, Option.isSome_some, go_sem, qc, dvP, mdP])
     | ((first | refine qk (fun e => ⟨?_, c44 _⟩) ?_); (next => exact flk); simp (disch := omega) only [qF, qw, el, ev, e1, q0, q1, q2, qI, Option.getD_some, Option.isSome_some, go_sem, qc, dvP, mdP])
     | ((first | refine qe ?_ ?_ | refine qg ?_ ?_); (next => exact rvk); simp only [go_sem]; (first | exact VLe.refl _ | refine qh ?_ | refine qd ?_ | refine ql ?_ | skip))
     | with_reducible first | refine And.intro ?_ ?_ | intro _
    all_goals try exact clz
    all_goals exact zg ⟨qam, VLe.refl _, trivial⟩
   have q2 : (4096 < v) = False := eq_false r2
   rw [if_neg (by rintro (h | h) <;> contradiction)] at i2
   simp (disch := omega) only [qu, List.foldl, List.replicate, qF, qw, el, ev, q0, q1, q2, go_sem, qc, dvP, mdP]
   repeat' first
    | ((first | refine qj (c44 _) ?_ ?_); (next => exact flk); simp (disch := omega) only [qF, qw, el, ev, e1, e2, q0, q1, q2, qI, Option.getD_some, Option.isSome_some, go_sem, qc, dvP, mdP])
    | ((first | refine qo (fun _ => c44 _) ?_ ?_); (next => exact flk); simp (disch := omega) only [qF, qw, el, ev, e1, e2, q0, q1, q2, qI, Option.getD_some, Option.isSome_some, go_sem, qc, dvP, mdP])
    | ((first | refine qk (fun e => ⟨?_, c44 _⟩) ?_); (next => exact flk); simp (disch := omega) only [qF, qw, el, ev, e1, e2, q0, q1, q2, qI, Option.getD_some, Option.isSome_some, go_sem, qc, dvP, mdP])
    | ((first | refine qe ?_ ?_ | refine qg ?_ ?_); (next => exact rvk); simp only [go_sem]; (first | exact VLe.refl _ | refine qh ?_ | refine qd ?_ | refine ql ?_ | skip))
    | with_reducible first | refine And.intro ?_ ?_ | intro _
   all_goals try exact clz
   refine hK _ _ (i + 1, m ++ [(l, v)]) ⟨hi, i2, fun p hp => ?_⟩ (by simp only; omega) (Wk.temps ?_)
   ·rcases List.mem_append.1 hp with hp | hp
    ·exact i3 p hp
    ·rw [List.mem_singleton] at hp
     subst hp
     exact ⟨hvm, by simp only; omega, by simp only; omega⟩
   ·(simp only [qF, qw, qu, List.foldl, List.replicate, go_sem, qr, qp, qm, qq]; try (repeat' first | (with_reducible refine And.intro ?_ ?_) | (refine qh ?_; omega) | (refine qd ?_; rfl) | exact VLe.refl _))
  have e : i = L.length := by omega
  subst e
  rw [List.drop_eq_nil_of_le (by simp; omega)] at i2
  simp only [qcQ] at i2
  have hR : R = qaU m it ts := by rw [hR, i2, if_neg (by simp)]
  by_cases ht : ts = []
  ·subst ht
   have hV : R = (0, []) := hR
   rw [hV]
   simp (disch := omega) only [qu, List.foldl, List.replicate, qF, qw, go_sem, qc, dvP, mdP]
   repeat' first
    | ((first | refine qe ?_ ?_ | refine qg ?_ ?_); (next => exact rvk); simp only [go_sem]; (first | exact VLe.refl _ | refine qh ?_ | refine qd ?_ | refine ql ?_ | skip))
    | with_reducible first | refine And.intro ?_ ?_ | intro _
   all_goals try exact clz
   refine qV (qzi _) ⟨rfl, trivial⟩ ?_
   simp (disch := omega) only [qF, go_sem, qc, dvP, mdP]
   repeat' first
    | ((first | refine qe ?_ ?_ | refine qg ?_ ?_); (next => exact rvk); simp only [go_sem]; (first | exact VLe.refl _ | refine qh ?_ | refine qd ?_ | refine ql ?_ | skip))
    | with_reducible first | refine And.intro ?_ ?_ | intro _
   all_goals try exact clz
   refine qJ (T := fun _ : Unit => qu 92 [(13, qF []), (70, qF []), (71, .int .i64 0), (72, .int .i64 0)]) (H := fun _ => h ++ [.emp 1, .map 1 (qgf m), .emp 0]) (inv := fun _ => True) (m := fun _ => 0) () trivial (Wk.temps ?_) ?_
   ·(simp only [qF, qu, List.foldl, List.replicate, go_sem, qr, qp, qm, qq]; try (repeat' first | (with_reducible refine And.intro ?_ ?_) | (refine qh ?_; omega) | (refine qd ?_; rfl) | exact VLe.refl _))
   rintro _ _ K hK
   simp (disch := omega) only [qu, List.foldl, List.replicate, qF, go_sem, qc, dvP, mdP]
   repeat' first
    | ((first | refine qe ?_ ?_ | refine qg ?_ ?_); (next => exact rvk); simp only [go_sem]; (first | exact VLe.refl _ | refine qh ?_ | refine qd ?_ | refine ql ?_ | skip))
    | with_reducible first | refine And.intro ?_ ?_ | intro _
   all_goals try exact clz
  have hit' : ∀ n, (∃ k, m.lookup k = some n) → (it n).length ≤ 20 ∧ ∀ l, qs Tryz.prog 120 [.int .i64 n] (h ++ l) (.str (it n)) (h ++ l) := by
   rintro n ⟨k, hk⟩
   have := i3 _ (qiI hk)
   exact hit n this.1 this.2.1 this.2.2
  simp (disch := omega) only [qu, List.foldl, List.replicate, qF, qw, go_sem, qc, dvP, mdP]
  repeat' first
   | ((first | refine qe ?_ ?_ | refine qg ?_ ?_); (next => exact rvk); simp only [go_sem]; (first | exact VLe.refl _ | refine qh ?_ | refine qd ?_ | refine ql ?_ | skip))
   | with_reducible first | refine And.intro ?_ ?_ | intro _
  all_goals try exact clz
  refine qV (qzh ts _ (h.length + 2) (by simp only [go_sem]) ht (by omega)) ⟨rfl, trivial⟩ ?_
  simp (disch := omega) only [qF, go_sem, qc, dvP, mdP]
  repeat' first
   | ((first | refine qe ?_ ?_ | refine qg ?_ ?_); (next => exact rvk); simp only [go_sem]; (first | exact VLe.refl _ | refine qh ?_ | refine qd ?_ | refine ql ?_ | skip))
   | with_reducible first | refine And.intro ?_ ?_ | intro _
  all_goals try exact clz
  obtain ⟨f, hf⟩ : ∃ f : List UInt8 → List UInt8, f = fun t => (qdj m it t).1 := ⟨_, rfl⟩
  refine qJ (T := fun i : Nat => qu 92 [(8, .mp (h.length + 1) 1), (13, .osl (h.length + 2) 1 1 0 ts.length), (70, qF ts), (71, .int .i64 ts.length), (72, .int .i64 i)])
   (H := fun i => h ++ [.emp 1, .map 1 (qgf m), .mem 1 9 (zZ (qk8 f ts i))])
   (inv := fun i => i ≤ ts.length ∧ ∀ j, j < i → (qdj m it (ts.getD j [])).2 = 0) (m := fun i => ts.length - i) 0 ⟨Nat.zero_le _, by simp⟩ (Wk.temps ?_) ?_
  ·(simp only [qF, qu, List.foldl, List.replicate, go_sem, qr, qp, qm, qq]; try (repeat' first | (with_reducible refine And.intro ?_ ?_) | (refine qh ?_; omega) | (refine qd ?_; rfl) | exact VLe.refl _))
  rintro i ⟨j1, j2⟩ K hK
  have eCl := qrp f ts i j1
  have eP := zy (qk8 f ts i)
  rw [eCl] at eP
  by_cases hi : i < ts.length
  ·have q0 : ((i : Int) < ts.length) = True := eq_true (by omega)
   have c46 := t46 m it (ts.getD i []) (h.length + 1) 1 (h ++ [.emp 1, .map 1 (qgf m), .mem 1 9 (zZ (qk8 f ts i))]) (by simp only [go_sem]) (fun n hn => ⟨(hit' n hn).1, fun l => by rw [List.append_assoc]; exact (hit' n hn).2 _⟩) (h4 i hi)
   have hset := qrq (f := f) hi
   obtain ⟨x, hx⟩ : ∃ x, x = ts.getD i [] := ⟨_, rfl⟩
   have ex := hx.symm
   rw [ex] at c46 hset
   have hfx : f x = (qdj m it x).1 := by rw [hf]
   obtain ⟨y, hy⟩ : ∃ y, y = (qdj m it x).1 := ⟨_, rfl⟩
   obtain ⟨ee, hee⟩ : ∃ ee, ee = (qdj m it x).2 := ⟨_, rfl⟩
   rw [← hy, ← hee] at c46
   rw [hfx, ← hy] at hset
   by_cases g : ee = 0
   ·have q1 : (ee = 0) = True := eq_true g
    simp (disch := omega) only [qu, List.foldl, List.replicate, qF, ex, q0, go_sem, qc, dvP, mdP]
    repeat' first
     | ((first | refine qj (c46) ?_ ?_); (next => exact flk); simp (disch := omega) only [qF, ex, q0, q1, eP, go_sem, qc, dvP, mdP])
     | ((first | refine qk (fun e => ⟨?_, c46⟩) ?_); (next => exact flk); simp (disch := omega) only [qF, ex, q0, q1, eP, go_sem, qc, dvP, mdP])
     | ((first | refine qe ?_ ?_ | refine qg ?_ ?_); (next => exact rvk); simp only [go_sem]; (first | exact VLe.refl _ | refine qh ?_ | refine qd ?_ | refine ql ?_ | skip))
     | with_reducible first | refine And.intro ?_ ?_ | intro _
    all_goals try exact clz
    rw [List.append_assoc, List.singleton_append, hset]
    refine hK _ _ (i + 1) ⟨hi, fun j hj => ?_⟩ (by omega) (Wk.temps ?_)
    ·by_cases e : j = i
     ·subst e; rw [ex, ← hee]; exact g
     ·exact j2 j (by omega)
    ·(simp only [qF, qu, List.foldl, List.replicate, go_sem, qr, qp, qm, qq]; try (repeat' first | (with_reducible refine And.intro ?_ ?_) | (refine qh ?_; omega) | (refine qd ?_; rfl) | exact VLe.refl _))
   ·have q1 : (ee = 0) = False := eq_false g
    have hV : R = (ee, []) := by rw [hR, qiX hi j2 (by rw [ex, ← hee]; exact g), ex, ← hee]
    rw [hV]
    simp (disch := omega) only [qu, List.foldl, List.replicate, qF, ex, q0, go_sem, qc, dvP, mdP]
    repeat' first
     | ((first | refine qj (c46) ?_ ?_); (next => exact flk); simp (disch := omega) only [qF, ex, q0, q1, eP, go_sem, qc, dvP, mdP])
     | ((first | refine qk (fun e => ⟨?_, c46⟩) ?_); (next => exact flk); simp (disch := omega) only [qF, ex, q0, q1, eP, go_sem, qc, dvP, mdP])
     | ((first | refine qe ?_ ?_ | refine qg ?_ ?_); (next => exact rvk); simp only [go_sem]; (first | exact VLe.refl _ | refine qh ?_ | refine qd ?_ | refine ql ?_ | skip))
     | with_reducible first | refine And.intro ?_ ?_ | intro _
    all_goals try exact clz
    all_goals exact zg ⟨qam, VLe.refl _, trivial⟩
  ·have e : i = ts.length := by omega
   subst e
   have hV : R = (0, ts.map f) := by rw [hR, qmU j2, hf]
   rw [hV]
   simp (disch := omega) only [qu, List.foldl, List.replicate, qF, go_sem, qc, dvP, mdP]
   repeat' first
    | ((first | refine qe ?_ ?_ | refine qg ?_ ?_); (next => exact rvk); simp only [go_sem]; (first | exact VLe.refl _ | refine qh ?_ | refine qd ?_ | refine ql ?_ | skip))
    | with_reducible first | refine And.intro ?_ ?_ | intro _
   all_goals try exact clz
   have ec : qk8 f ts ts.length = ts.map f := by unfold qk8; rw [List.take_length, List.drop_length, List.append_nil]
   rw [if_pos (by omega), ec]
   refine zg ⟨VLe.sl_eq (by simp) (fun i hi => ?_), VLe.refl _, trivial⟩
   have hi' : i < (ts.map f).length := by simpa using hi
   have hs : zZ (ts.map f) = (ts.map f).map fun s => AV.str s := rfl
   rw [hs, ← List.map_drop, List.drop_eq_getElem_cons hi', List.map_cons, List.take_succ_cons, List.take_zero, List.map_cons, List.map_nil, List.getD_eq_getElem?_getD, List.getElem?_eq_getElem hi']
   rfl
 ·have k1 : ((L.length : Int) = V.length) = False := eq_false (by omega)
  have hV : qjN it ts L V = (9, []) := by unfold qjN; rw [if_pos g1]
  rw [hV]
  refine qn qo2 (by simp) ?_
  simp only [lcP, lnP, Nat.reduceAdd, Nat.reduceSub, List.replicate, caP, naP, List.append_nil]
  simp (disch := omega) only [qtI, k1, qF, qw, go_sem, qc, dvP, mdP]
  repeat' first
   | ((first | refine qe ?_ ?_ | refine qg ?_ ?_); (next => exact rvk); simp only [go_sem]; (first | exact VLe.refl _ | refine qh ?_ | refine qd ?_ | refine ql ?_ | skip))
   | with_reducible first | refine And.intro ?_ ?_ | intro _
  all_goals try exact clz
  all_goals exact zg ⟨qam, VLe.refl _, trivial⟩
end LN
end
section
open Go Go.Proofs AF HY
namespace LN
set_option maxRecDepth 100000
end LN
end
section
namespace P48
structure Item where
 kind : Int
 width : Int
 stretch : Int
 shrink : Int
 penalty : Int
 text : List UInt8
 deriving DecidableEq, Inhabited
def it (l : List Item) (i : Nat) : Item := l.getD i default
theorem qpc {l : List Item} {i : Nat} (h : i < l.length) : it l i = l[i] := by simp [it, h]
theorem qcW {l : List Item} {i : Nat} (h : i < l.length) : l.drop i = it l i :: l.drop (i + 1) := by
 rw [qpc h]; exact List.drop_eq_getElem_cons h
theorem quY {l : List Item} {i : Nat} (h : i < l.length) : it l i ∈ l := by rw [qpc h]; exact List.getElem_mem h
def qbo (n : Int) : Bool := decide (0 ≤ n) && decide (n ≤ 1073741824)
def zk (x : Item) : Int :=
 if x.kind < 1 ∨ 3 < x.kind then 8
 else if ¬ (qbo x.width = true ∧ qbo x.stretch = true ∧ qbo x.shrink = true) then 2
 else if x.penalty ≠ -10000 ∧ (x.penalty < 0 ∨ 10000 < x.penalty) then 2
 else if (x.kind ≠ 2 ∧ (x.stretch ≠ 0 ∨ x.shrink ≠ 0)) ∨ (x.kind ≠ 3 ∧ x.penalty ≠ 0) ∨ (x.kind = 2 ∧ x.text ≠ []) then 1
 else 0
def ky : List Item → Int → Int
 | [], s => if 1073741824 < s then 4 else 0
 | x :: r, s => if zk x = 0 then ky r (s + x.width + x.stretch + x.shrink) else zk x
def ji (l : List Item) : Int := if 4096 < l.length then 4 else ky l 0
def jw (l : List Item) (width : Int) : Int := if ji l = 0 then (if qbo width then 0 else 2) else 1
def jx (l : List Item) (i : Nat) : Bool := decide (i < l.length) && (decide ((it l i).kind = 3) && decide ((it l i).penalty = -10000))
def qhp (l : List Item) (i : Nat) : Bool :=
 decide (i = l.length) || (decide ((it l i).kind = 2) && (decide (0 < i) && decide ((it l (i - 1)).kind = 1))) || (decide ((it l i).kind = 3) && decide ((it l i).penalty ≠ 10000))
def badness (change total : Int) : Int :=
 if change = 0 then 0 else if total ≤ 0 then 10000 else
  min 10000 (100 * (min (max change (-change)) 1073741824) ^ 3 / (min total 1073741824) ^ 3)
def zV (l : List Item) (to : Nat) : Bool := decide (to < l.length) && decide ((it l to).kind = 3)
def fit (l : List Item) (width n st sh : Int) (to : Nat) : Int × Int × Bool :=
 let change := width - (if zV l to then n + (it l to).width else n)
 if 0 ≤ change then (if to = l.length ∨ jx l to = true then (0, 0, true) else (badness change st, change, true))
 else if -change ≤ sh then (badness (-change) sh, change, true) else (0, 0, false)
def penalty (l : List Item) (to : Nat) : Int := if zV l to && !jx l to then (it l to).penalty else 0
def zD (l : List Item) : Nat → Nat → Nat
 | 0, i => i
 | k + 1, i => if (it l i).kind = 2 then zD l k (i + 1) else i
def qL (l : List Item) (frm to : Nat) : Nat := zD l (to - frm) frm
def kZ (f : Item → Int) (l : List Item) : Nat → Nat → Int
 | 0, _ => 0
 | k + 1, i => (if (it l i).kind = 3 then 0 else f (it l i)) + kZ f l k (i + 1)
def zM (f : Item → Int) (l : List Item) (a b : Nat) : Int := kZ f l (b - a) a
def kp (l : List Item) (width : Int) (frm to : Nat) : Int × Int × Bool :=
 fit l width (zM Item.width l (qL l frm to) to) (zM Item.stretch l (qL l frm to) to) (zM Item.shrink l (qL l frm to) to) to
def qfi (l : List Item) (frm to : Nat) : Bool := (List.range' frm (to - frm)).all fun i => !jx l i
def qtO (l : List Item) (width : Int) (frm to : Nat) : Option Int :=
 if (kp l width frm to).2.2 then some ((kp l width frm to).1 + penalty l to) else none
def arc (l : List Item) (width : Int) (frm to : Nat) : Option Int := if qhp l to && qfi l frm to then qtO l width frm to else none
def qcy (l : List Item) (width : Int) (frm : Nat) : List (Nat × Int) :=
 (List.range' frm (l.length + 1 - frm)).filterMap fun to => (arc l width frm to).map fun c => (to, c)
def qP (n : Nat) (p : List Int) (to : Nat) : Int := if to = n then 0 else p.getD (to + 1) 0
def qad (n : Nat) (p : List Int) (a : List (Nat × Int)) : Int :=
 a.foldl (fun m x => if 0 ≤ qP n p x.1 ∧ (m < 0 ∨ x.2 + qP n p x.1 < m) then x.2 + qP n p x.1 else m) (-1)
def jf (l : List Item) (width : Int) : Nat → List Int
 | 0 => List.replicate (l.length + 1) 0
 | k + 1 => (jf l width k).set (l.length - k) (qad l.length (jf l width k) (qcy l width (l.length - k)))
def kM (l : List Item) (width : Int) : List Int := jf l width (l.length + 1)
def pick (l : List Item) (p : List Int) (frm : Nat) (a : List (Nat × Int)) : Option Nat :=
 (a.find? fun x => decide (0 ≤ qP l.length p x.1 ∧ x.2 + qP l.length p x.1 = p.getD frm 0)).map (·.1)
def qaI (l : List Item) (width : Int) (p : List Int) : Nat → Nat → List Nat
 | 0, _ => []
 | k + 1, frm => match pick l p frm (qcy l width frm) with
  | none => []
  | some to => if to < l.length then to :: qaI l width p k (to + 1) else [to]
def brk (l : List Item) (width : Int) : List Nat := qaI l width (kM l width) (l.length + 1) 0
end P48
end
section
namespace P48
def qth (n : Nat) (p : List Int) (a : List (Nat × Int)) (m : Int) : Prop :=
 (m = -1 ∧ ∀ x ∈ a, qP n p x.1 < 0) ∨ (0 ≤ m ∧ (∃ x ∈ a, 0 ≤ qP n p x.1 ∧ m = x.2 + qP n p x.1) ∧ ∀ x ∈ a, 0 ≤ qP n p x.1 → m ≤ x.2 + qP n p x.1)
theorem qpf (n : Nat) (p : List Int) : ∀ (a : List (Nat × Int)) (m : Int), (∀ x ∈ a, 0 ≤ x.2) → (m = -1 ∨ 0 ≤ m) →
  let r := a.foldl (fun m x => if 0 ≤ qP n p x.1 ∧ (m < 0 ∨ x.2 + qP n p x.1 < m) then x.2 + qP n p x.1 else m) m
  (r = -1 ∧ m = -1 ∧ ∀ x ∈ a, qP n p x.1 < 0) ∨ (0 ≤ r ∧ (r = m ∨ ∃ x ∈ a, 0 ≤ qP n p x.1 ∧ r = x.2 + qP n p x.1) ∧ (0 ≤ m → r ≤ m) ∧ ∀ x ∈ a, 0 ≤ qP n p x.1 → r ≤ x.2 + qP n p x.1) := by
 intro a
 induction a with
 | nil =>
  intro m _ hm
  rcases hm with rfl | hm
  ·left; simp
  ·right; simp [hm]
 | cons y a ih =>
  intro m ha hm
  have hy : 0 ≤ y.2 := ha y (by simp)
  simp only [List.foldl_cons]
  split
  ·rename_i hc
   obtain ⟨hc1, hc2⟩ := hc
   have := ih (y.2 + qP n p y.1) (fun x hx => ha x (by simp [hx])) (.inr (by omega))
   rcases this with ⟨h1, h2, h3⟩ | ⟨h1, h2, h3, h4⟩
   ·omega
   ·right
    have h3' := h3 (by omega)
    refine ⟨h1, .inr ?_, fun hm0 => by rcases hc2 with h | h <;> omega, fun x hx hb => ?_⟩
    ·rcases h2 with h2 | ⟨x, hx, hb, he⟩
     ·exact ⟨y, by simp, hc1, h2⟩
     ·exact ⟨x, by simp [hx], hb, he⟩
    ·rcases List.mem_cons.1 hx with rfl | hx
     ·exact h3'
     ·exact h4 x hx hb
  ·rename_i hc
   have := ih m (fun x hx => ha x (by simp [hx])) hm
   rcases this with ⟨h1, h2, h3⟩ | ⟨h1, h2, h3, h4⟩
   ·left
    refine ⟨h1, h2, fun x hx => ?_⟩
    rcases List.mem_cons.1 hx with rfl | hx
    ·exact Int.not_le.1 fun hb => hc ⟨hb, .inl (by omega)⟩
    ·exact h3 x hx
   ·right
    refine ⟨h1, ?_, h3, fun x hx hb => ?_⟩
    ·rcases h2 with h2 | ⟨x, hx, hb, he⟩
     ·exact .inl h2
     ·exact .inr ⟨x, by simp [hx], hb, he⟩
    ·rcases List.mem_cons.1 hx with rfl | hx
     ·have : ¬ (m < 0 ∨ x.2 + qP n p x.1 < m) := fun h => hc ⟨hb, h⟩
      have hm0 : 0 ≤ m := by omega
      have := h3 hm0
      omega
     ·exact h4 x hx hb
theorem qdY (n : Nat) (p : List Int) (a : List (Nat × Int)) (ha : ∀ x ∈ a, 0 ≤ x.2) : qth n p a (qad n p a) := by
 have := qpf n p a (-1) ha (.inl rfl)
 rcases this with ⟨h1, _, h3⟩ | ⟨h1, h2, _, h4⟩
 ·exact .inl ⟨h1, h3⟩
 ·refine .inr ⟨h1, ?_, h4⟩
  rcases h2 with h2 | h2
  ·omega
  ·exact h2
theorem qgE {n : Nat} {p q : List Int} {a : List (Nat × Int)} (h : ∀ x ∈ a, qP n p x.1 = qP n q x.1) : qad n p a = qad n q a := by
 unfold qad
 generalize (-1 : Int) = m
 induction a generalizing m with
 | nil => rfl
 | cons y a ih =>
  simp only [List.foldl_cons]
  rw [h y (by simp)]
  exact ih (fun x hx => h x (by simp [hx])) _
theorem qaE {l : List Item} {width : Int} {frm to : Nat} {c : Int} : (to, c) ∈ qcy l width frm ↔ frm ≤ to ∧ to ≤ l.length ∧ arc l width frm to = some c := by
 unfold qcy
 simp only [List.mem_filterMap, List.mem_range'_1, Option.map_eq_some_iff]
 constructor
 ·rintro ⟨a, ⟨h1, h2⟩, c', h3, h4⟩
  cases h4
  exact ⟨h1, by omega, h3⟩
 ·rintro ⟨h1, h2, h3⟩
  exact ⟨to, ⟨h1, by omega⟩, c, h3, rfl⟩
theorem qaG (l : List Item) (width : Int) (k : Nat) : (jf l width k).length = l.length + 1 := by
 induction k with
 | zero => simp [jf]
 | succ k ih => simp [jf, ih]
theorem qiW (l : List Item) (width : Int) (k : Nat) (hk : k ≤ l.length + 1) : ∀ j, l.length + 1 - k ≤ j → j ≤ l.length → (jf l width k).getD j 0 = qad l.length (jf l width k) (qcy l width j) := by
 induction k with
 | zero => intro j h1 h2; omega
 | succ k ih =>
  intro j h1 h2
  have hl := qaG l width k
  have same : ∀ i, l.length - k < i → (jf l width (k + 1)).getD i 0 = (jf l width k).getD i 0 := by
   intro i hi
   simp only [jf, List.getD_eq_getElem?_getD]
   rw [List.getElem?_set_ne (by omega)]
  have hb : ∀ x ∈ qcy l width j, qP l.length (jf l width (k + 1)) x.1 = qP l.length (jf l width k) x.1 := by
   rintro ⟨to, c⟩ hx
   obtain ⟨h3, h4, _⟩ := qaE.1 hx
   simp only [qP]
   split
   ·rfl
   ·exact same _ (by omega)
  rw [qgE hb]
  by_cases e : j = l.length - k
  ·subst e
   simp only [jf, List.getD_eq_getElem?_getD]
   rw [List.getElem?_set_self (by omega)]
   rfl
  ·rw [same j (by omega)]
   exact ih (by omega) j (by omega) h2
theorem qpF (l : List Item) (width : Int) : (kM l width).length = l.length + 1 := qaG l width _
theorem qpE (l : List Item) (width : Int) (j : Nat) (hj : j ≤ l.length) : (kM l width).getD j 0 = qad l.length (kM l width) (qcy l width j) :=
 qiW l width _ (Nat.le_refl _) j (by omega) hj
theorem qib : ∀ {l : List Item} {s : Int}, ky l s = 0 → ∀ x ∈ l, zk x = 0 := by
 intro l
 induction l with
 | nil => intro s _ x hx; simp at hx
 | cons y l ih =>
  intro s h x hx
  simp only [ky] at h
  split at h
  ·rcases List.mem_cons.1 hx with rfl | hx
   ·assumption
   ·exact ih h x hx
  ·contradiction
theorem qoy {l : List Item} (h : ji l = 0) : ∀ x ∈ l, zk x = 0 := by
 unfold ji at h
 split at h
 ·omega
 ·exact qib h
structure qdG (x : Item) : Prop where
 k1 : 1 ≤ x.kind
 k3 : x.kind ≤ 3
 w0 : 0 ≤ x.width
 w1 : x.width ≤ 1073741824
 s0 : 0 ≤ x.stretch
 s1 : x.stretch ≤ 1073741824
 h0 : 0 ≤ x.shrink
 h1 : x.shrink ≤ 1073741824
 p : x.penalty = -10000 ∨ (0 ≤ x.penalty ∧ x.penalty ≤ 10000)
 sz : x.kind ≠ 2 → x.stretch = 0 ∧ x.shrink = 0
 pz : x.kind ≠ 3 → x.penalty = 0
 tz : x.kind = 2 → x.text = []
theorem kR {x : Item} : zk x = 0 ↔ qdG x := by
 unfold zk qbo
 constructor
 ·intro h
  split at h
  ·omega
  ·split at h
   ·omega
   ·split at h
    ·omega
    ·split at h
     ·omega
     ·rename_i h1 h2 h3 h4
      simp only [Bool.and_eq_true, decide_eq_true_eq, Decidable.not_not] at h2
      simp only [not_or, not_and, Decidable.not_not] at h4
      refine ⟨by omega, by omega, by omega, by omega, by omega, by omega, by omega, by omega, by omega, fun h => ?_, fun h => h4.2.1 h, fun h => h4.2.2 h⟩
      have := h4.1 h
      omega
 ·intro h
  obtain ⟨a1, a2, a3, a4, a5, a6, a7, a8, a9, b1, b2, b3⟩ := h
  rw [if_neg (by omega), if_neg (by simp only [Bool.and_eq_true, decide_eq_true_eq]; omega), if_neg (by omega), if_neg]
  rintro (⟨h, h'⟩ | ⟨h, h'⟩ | ⟨h, h'⟩)
  ·have := b1 h; omega
  ·exact h' (b2 h)
  ·exact h' (b3 h)
theorem qhv {l : List Item} (h : ji l = 0) {i : Nat} (hi : i < l.length) : qdG (it l i) := kR.1 (qoy h _ (quY hi))
theorem qaM (c t : Int) : 0 ≤ badness c t ∧ badness c t ≤ 10000 := by
 unfold badness
 split
 ·omega
 ·split
  ·omega
  ·refine ⟨?_, Int.min_le_left _ _⟩
   rename_i h1 h2
   have h3 : 0 ≤ min (max c (-c)) 1073741824 := by omega
   have h4 : 0 ≤ min t 1073741824 := by omega
   have := Int.ediv_nonneg (Int.mul_nonneg (by omega : (0:Int) ≤ 100) (@Int.pow_nonneg _ 3 h3)) (@Int.pow_nonneg _ 3 h4)
   omega
theorem qbO (l : List Item) (width n st sh : Int) (to : Nat) : 0 ≤ (fit l width n st sh to).1 ∧ (fit l width n st sh to).1 ≤ 10000 := by
 unfold fit
 simp only
 generalize (width - (if zV l to then n + (it l to).width else n)) = d
 have h1 := qaM d st
 have h2 := qaM (-d) sh
 by_cases c1 : 0 ≤ d
 ·rw [if_pos c1]
  split
  ·simp
  ·exact h1
 ·rw [if_neg c1]
  split
  ·exact h2
  ·simp
theorem qdz {l : List Item} (h : ji l = 0) (to : Nat) : 0 ≤ penalty l to ∧ penalty l to ≤ 10000 := by
 unfold penalty zV jx
 split
 ·rename_i hc
  simp only [Bool.and_eq_true, decide_eq_true_eq, Bool.not_eq_true', Bool.and_eq_false_iff, decide_eq_false_iff_not] at hc
  have := (qhv h hc.1.1).p
  omega
 ·omega
theorem qhV {l : List Item} {width : Int} (h : ji l = 0) {a b : Nat} {c : Int} (hc : arc l width a b = some c) : 0 ≤ c ∧ c ≤ 20000 := by
 unfold arc qtO at hc
 split at hc
 ·split at hc
  ·cases hc
   have h1 := qbO l width (zM Item.width l (qL l a b) b) (zM Item.stretch l (qL l a b) b) (zM Item.shrink l (qL l a b) b) b
   have h2 := qdz h b
   unfold kp
   omega
  ·cases hc
 ·cases hc
theorem qgh {l : List Item} {width : Int} (h : ji l = 0) (j : Nat) : ∀ x ∈ qcy l width j, 0 ≤ x.2 := by
 rintro ⟨to, c⟩ hx
 exact (qhV h (qaE.1 hx).2.2).1
theorem qsn {l : List Item} {width : Int} (h : ji l = 0) (j : Nat) (hj : j ≤ l.length) : qth l.length (kM l width) (qcy l width j) ((kM l width).getD j 0) := by
 rw [qpE l width j hj]
 exact qdY _ _ _ (qgh h j)
end P48
end
section
open Go Go.Proofs AF HY P48
namespace LN
set_option maxRecDepth 100000
abbrev It := P48.Item
def qH (x : It) : List AV := [.int .i64 x.kind, .int .i64 x.width, .int .i64 x.stretch, .int .i64 x.shrink, .int .i64 x.penalty, .str x.text]
def qt (l : List It) : AV := .sl l.length fun i => qH (it l i)
def zz (l : List Int) : AV := .sl l.length fun i => [.int .i64 (l.getD i 0)]
theorem qbP (l : List It) : (qt l).flag = true := rfl
theorem qa7 (l : List It) : (qt l).strip = qt l := rfl
theorem qcZ (l : List Int) : (zz l).flag = true := rfl
theorem qb5 (l : List Int) : (zz l).strip = zz l := rfl
attribute [go_sem] qbP qa7 qcZ qb5
theorem qxi (n : Int) (h : List AObj) : qs Tryz.prog 35 [.int .i64 n] h (.bool (qbo n)) h := by
 refine qn quz (by simp) ?_
 simp only [lcP, lnP, Nat.reduceAdd, Nat.reduceSub, List.replicate, caP, naP, List.append_nil]
 simp (disch := omega) only [qwj, go_sem, qc, dvP, mdP]
 repeat' first
  | ((first | refine qe ?_ ?_ | refine qg ?_ ?_); (next => exact rvk); simp only [go_sem]; (first | exact VLe.refl _ | refine qh ?_ | refine qd ?_ | refine ql ?_ | skip))
  | with_reducible first | refine And.intro ?_ ?_ | intro _
theorem p89 (x : It) (h : List AObj) : qs Tryz.prog 69 [.agg (qH x)] h (.int .i64 (zk x)) h := by
 refine qn quI (by simp) ?_
 simp only [lcP, lnP, Nat.reduceAdd, Nat.reduceSub, List.replicate, caP, naP, List.append_nil]
 simp (disch := omega) only [qwn, qH, go_sem, qc, dvP, mdP]
 repeat' first
  | ((first | refine qj (qxi _ _) ?_ ?_); (next => exact flk); simp (disch := omega) only [go_sem, qc, dvP, mdP])
  | ((first | refine qo (fun _ => qxi _ _) ?_ ?_); (next => exact flk); simp (disch := omega) only [go_sem, qc, dvP, mdP])
  | ((first | refine qk (fun e => ⟨?_, qxi _ _⟩) ?_); (next => exact flk); simp (disch := omega) only [go_sem, qc, dvP, mdP])
  | ((first | refine qe ?_ ?_ | refine qg ?_ ?_); (next => exact rvk); simp only [go_sem]; (first | exact VLe.refl _ | refine qh ?_ | refine qd ?_ | refine ql ?_ | skip))
  | with_reducible first | refine And.intro ?_ ?_ | intro _
 all_goals first
  | omega
  | grind [zk]
theorem p61 (l : List It) (h : List AObj) (hl : l.length ≤ 9223372036854775807) : qs Tryz.prog 40 [qt l] h (.int .i64 (ji l)) h := by
 refine qn quC (by simp) ?_
 simp only [lcP, lnP, Nat.reduceAdd, Nat.reduceSub, List.replicate, caP, naP, List.append_nil]
 simp (disch := omega) only [qoo, qt, qH, go_sem, qc, dvP, mdP]
 repeat' first
  | (with_reducible refine And.intro ?_ ?_)
  | (with_reducible intro _)
 all_goals first
  | omega
  | skip
 ·repeat' first
   | ((first | refine qe ?_ ?_ | refine qg ?_ ?_); (next => exact rvk); simp only [go_sem]; (first | exact VLe.refl _ | refine qh ?_ | refine qd ?_ | refine ql ?_ | skip))
   | with_reducible first | refine And.intro ?_ ?_ | intro _
  simp [ji]; omega
 ·rename_i hlen
  refine qJ (T := fun i : Nat × Int × AObj => qu 34 [(3, .int .i64 i.2.1), (10, qt l), (11, .int .i64 l.length), (12, .int .i64 i.1)]) (H := fun i => h ++ [i.2.2])
   (inv := fun i => i.1 ≤ l.length ∧ zc [i.2.2] 0 = true ∧ ky (l.drop i.1) i.2.1 = ji l ∧ 0 ≤ i.2.1 ∧ i.2.1 ≤ 4000000000 * i.1) (m := fun i => l.length - i.1) (0, 0, .emp 0)
   ⟨by simp only; omega, rfl, by simp only [ji, List.drop_zero]; rw [if_neg (by omega)], by simp only; omega, by simp only; omega⟩ (Wk.temps ?_) ?_
  ·simp only [qt, qH, qu, List.foldl, List.replicate, go_sem, qr, qp, qm, qq]
   try (repeat' first | (with_reducible refine And.intro ?_ ?_) | (refine qh ?_; omega) | (refine qd ?_; rfl))
  ·rintro ⟨i, s, O⟩ ⟨i1, i2, i3, i4, i5⟩ K hK
   simp only at i1 i2 i3 i4 i5 hK
   by_cases hi : i < l.length
   ·rw [qcW hi, ky] at i3
    by_cases hx : zk (it l i) = 0
    ·rw [if_pos hx] at i3
     obtain ⟨a1, a2, a3, a4, a5, a6, a7, a8, a9, b1, b2, b3⟩ := kR.1 hx
     simp (disch := omega) only [qu, qt, qH, List.foldl, List.replicate, i2, go_sem, qc, dvP, mdP]
     repeat' first
      | ((first | refine qj (p89 (it l i) _) ?_ ?_); (next => exact flk); simp (disch := omega) only [go_sem, qc, dvP, mdP])
      | ((first | refine qo (fun _ => p89 (it l i) _) ?_ ?_); (next => exact flk); simp (disch := omega) only [go_sem, qc, dvP, mdP])
      | ((first | refine qk (fun e => ⟨?_, p89 (it l i) _⟩) ?_); (next => exact flk); simp (disch := omega) only [go_sem, qc, dvP, mdP])
      | ((first | refine qe ?_ ?_ | refine qg ?_ ?_); (next => exact rvk); simp only [go_sem]; (first | exact VLe.refl _ | refine qh ?_ | refine qd ?_ | refine ql ?_ | skip))
      | with_reducible first | refine And.intro ?_ ?_ | intro _
     all_goals first
      | omega
      | skip
     refine hK _ _ (i + 1, s + (it l i).width + (it l i).stretch + (it l i).shrink, .mem (qz (some O) + 1) 58 (qH (it l i))) ⟨by simp only; omega, rfl, i3, by simp only; omega, by simp only; omega⟩ (by simp only; omega) (Wk.temps ?_)
     simp only [qt, qH, qu, List.foldl, List.replicate, go_sem, qr, qp, qm, qq]
     try (repeat' first | (with_reducible refine And.intro ?_ ?_) | (refine qh ?_; omega) | (refine qd ?_; rfl))
    ·rw [if_neg hx] at i3
     simp (disch := omega) only [qu, qt, qH, List.foldl, List.replicate, i2, go_sem, qc, dvP, mdP]
     repeat' first
      | ((first | refine qj (p89 (it l i) _) ?_ ?_); (next => exact flk); simp (disch := omega) only [go_sem, qc, dvP, mdP])
      | ((first | refine qo (fun _ => p89 (it l i) _) ?_ ?_); (next => exact flk); simp (disch := omega) only [go_sem, qc, dvP, mdP])
      | ((first | refine qk (fun e => ⟨?_, p89 (it l i) _⟩) ?_); (next => exact flk); simp (disch := omega) only [go_sem, qc, dvP, mdP])
      | ((first | refine qe ?_ ?_ | refine qg ?_ ?_); (next => exact rvk); simp only [go_sem]; (first | exact VLe.refl _ | refine qh ?_ | refine qd ?_ | refine ql ?_ | skip))
      | with_reducible first | refine And.intro ?_ ?_ | intro _
     all_goals first
      | omega
      | exact i3
   ·have e : i = l.length := by omega
    subst e
    rw [List.drop_length, ky] at i3
    simp (disch := omega) only [qu, qt, qH, List.foldl, List.replicate, i2, go_sem, qc, dvP, mdP]
    repeat' first
     | ((first | refine qe ?_ ?_ | refine qg ?_ ?_); (next => exact rvk); simp only [go_sem]; (first | exact VLe.refl _ | refine qh ?_ | refine qd ?_ | refine ql ?_ | skip))
     | with_reducible first | refine And.intro ?_ ?_ | intro _
    all_goals first
     | omega
     | grind
theorem i2' {l : List It} (h : ∀ j, j < l.length → zk (it l j) = 0) : ∀ x ∈ l, zk x = 0 := by
 intro x hx
 obtain ⟨j, hj, rfl⟩ := List.getElem_of_mem hx
 rw [← qpc hj]
 exact h j hj
end LN
end
section
open Go Go.Proofs AF HY P48
namespace LN
set_option maxRecDepth 100000
structure Ln where
 frm : Int
 to : Int
 bad : Int
 chg : Int
 text : List UInt8
 deriving Inhabited
def qS (x : Ln) : List AV := [.int .i64 x.frm, .int .i64 x.to, .int .i64 x.bad, .int .i64 x.chg, .str x.text]
def qD (ls : List Ln) : AV := .sl ls.length fun i => qS (ls.getD i default)
theorem qgy (l : List Ln) : (qD l).flag = true := rfl
theorem qf2 (l : List Ln) : (qD l).strip = qD l := rfl
attribute [go_sem] qgy qf2
def qi3 (i : Int) : List Ln → Nat → Int → Option Int
 | [], _, c => some c
 | x :: r, n, c => if i < x.frm ∨ x.to ≤ i then qi3 i r (n + 1) c else if 0 < c then none else qi3 i r (n + 1) ((n : Int) + 1)
def jr (ls : List Ln) : List It → Nat → Int → List Int → Option (List Int)
 | [], _, _, out => some out
 | x :: r, i, last, out => if x.kind ≠ 1 then jr ls r (i + 1) last out else match qi3 i ls 0 0 with
  | none => none
  | some c => if c = 0 ∨ c < last then none else jr ls r (i + 1) c (out.set i c)
def qbV (l : List It) (ls : List Ln) : Option (List Int) := jr ls l 0 0 (List.replicate l.length 0)
def qgK : Option (List Int) → AV
 | none => .tup [.nl, .bool false]
 | some out => .tup [qw out, .bool true]
theorem qrv {ls : List Ln} {k : Nat} (h : k < ls.length) : ls.drop k = ls.getD k default :: ls.drop (k + 1) := by
 rw [List.drop_eq_getElem_cons h]; simp [List.getD_eq_getElem?_getD, h]
theorem qpU {out : List Int} {i : Nat} (h : out.getD i 0 = 0) (hi : i < out.length) : out.set i 0 = out := by
 apply List.ext_getElem (by simp)
 intro j h1 h2
 rw [List.getElem_set]
 split
 ·rename_i e; subst e
  rw [List.getD_eq_getElem?_getD, List.getElem?_eq_getElem hi] at h
  exact h.symm
 ·rfl
theorem qiJ : ∀ n, qM [AV.int .i64 0] n = qX (List.replicate n 0) := by
 intro n
 induction n with
 | zero => rfl
 | succ n ih => rw [qM, ih]; rfl
set_option maxHeartbeats 8000000 in
theorem t62 (l : List It) (ls : List Ln) (h : List AObj) (hl : l.length ≤ 100000) (hls : ls.length ≤ 100000) : qs Tryz.prog 87 [qt l, qD ls] h (qgK (qbV l ls)) h := by
 obtain ⟨R, hR⟩ : ∃ R, R = qbV l ls := ⟨_, rfl⟩
 rw [← hR]
 have hR2 : R = jr ls l 0 0 (List.replicate l.length 0) := hR
 refine qn qw7 (by simp) ?_
 simp only [lcP, lnP, Nat.reduceAdd, Nat.reduceSub, List.replicate, caP, naP, List.append_nil]
 simp (disch := omega) only [qyk, qt, qH, qD, qS, go_sem, qc, dvP, mdP]
 repeat' first
  | ((first | refine qe ?_ ?_ | refine qg ?_ ?_); (next => exact rvk); simp only [go_sem]; (first | exact VLe.refl _ | refine qh ?_ | refine qd ?_ | refine ql ?_ | skip))
  | with_reducible first | refine And.intro ?_ ?_ | intro _
 all_goals try exact clz
 rw [qiJ]
 refine qJ (T := fun i : Nat × Int × List Int × AObj × AObj => qu 72 [(1, qD ls), (6, .osl (h.length + 1) 1 1 0 l.length), (7, .int .i64 i.2.1), (15, qt l), (16, .int .i64 l.length), (17, .int .i64 i.1)])
  (H := fun i => h ++ [.emp 1, .mem 1 3 (qX i.2.2.1), i.2.2.2.1, i.2.2.2.2])
  (inv := fun i => i.1 ≤ l.length ∧ i.2.2.1.length = l.length ∧ (∀ j, i.1 ≤ j → i.2.2.1.getD j 0 = 0) ∧ R = jr ls (l.drop i.1) i.1 i.2.1 i.2.2.1 ∧ zc [i.2.2.2.1] 0 = true ∧ zc [i.2.2.2.2] 0 = true) (m := fun i => l.length - i.1)
  (0, 0, List.replicate l.length 0, .emp 0, .emp 0) ⟨Nat.zero_le _, by simp, fun j _ => qn3 _ _, hR2, rfl, rfl⟩ (Wk.temps ?_) ?_
 ·(simp only [qt, qH, qD, qS, qu, List.foldl, List.replicate, go_sem, qr, qp, qm, qq]; try (repeat' first | (with_reducible refine And.intro ?_ ?_) | (refine qh ?_; omega) | (refine qd ?_; rfl) | exact VLe.refl _))
 rintro ⟨i, last, out, O1, O2⟩ ⟨i1, i2, i3, i4, i5, i6⟩ K hK
 simp only at i1 i2 i3 i4 i5 i6 hK
 have i5' : ∀ m, zc (O1 :: m) 0 = true := fun _ => i5
 have i6' : ∀ m, zc (O2 :: m) 0 = true := fun _ => i6
 by_cases hi : i < l.length
 ·have hdr := qcW hi
  rw [hdr] at i4
  simp only [jr] at i4
  by_cases hk : (it l i).kind = 1
  ·have q1 : ((it l i).kind = 1) = True := eq_true hk
   rw [if_neg (fun hc => hc hk)] at i4
   simp (disch := omega) only [qu, qt, qH, qD, qS, List.foldl, List.replicate, i5', i6', q1, go_sem, qc, dvP, mdP]
   repeat' first
    | ((first | refine qe ?_ ?_ | refine qg ?_ ?_); (next => exact rvk); simp only [go_sem]; (first | exact VLe.refl _ | refine qh ?_ | refine qd ?_ | refine ql ?_ | skip))
    | with_reducible first | refine And.intro ?_ ?_ | intro _
   all_goals try exact clz
   have e0 := qpU (i3 i (Nat.le_refl _)) (by omega)
   rw [show qX out = qX (out.set i 0) by rw [e0]]
   refine qJ (T := fun k : Nat × Int × AObj => qu 72 [(1, qD ls), (6, .osl (h.length + 1) 1 1 0 l.length), (7, .int .i64 last), (8, .int .i64 i), (15, qt l), (16, .int .i64 l.length), (17, .int .i64 i), (25, qD ls), (26, .int .i64 ls.length), (27, .int .i64 k.1)])
    (H := fun k => h ++ [.emp 1, .mem 1 3 (qX (out.set i k.2.1)), .mem (qz (some O1) + 1) 58 (qH (it l i)), k.2.2])
    (inv := fun k => k.1 ≤ ls.length ∧ qi3 i ls 0 0 = qi3 i (ls.drop k.1) k.1 k.2.1 ∧ 0 ≤ k.2.1 ∧ zc [k.2.2] 0 = true) (m := fun k => ls.length - k.1) (0, 0, O2)
    ⟨Nat.zero_le _, rfl, Int.le_refl _, i6⟩ (Wk.temps ?_) ?_
   ·(simp only [qt, qH, qD, qS, hk, qu, List.foldl, List.replicate, go_sem, qr, qp, qm, qq]; try (repeat' first | (with_reducible refine And.intro ?_ ?_) | (refine qh ?_; omega) | (refine qd ?_; rfl) | exact VLe.refl _))
   rintro ⟨k, c, O⟩ ⟨k1, k2, k3, k4⟩ K2 hK2
   simp only at k1 k2 k3 k4 hK2
   have k4' : ∀ m, zc (O :: m) 0 = true := fun _ => k4
   have hsl : (out.set i c).length = l.length := by simp [i2]
   have eC := zm (out.set i c)
   rw [hsl] at eC
   have eg := qbn (all := out.set i c) (a := i) (by omega)
   have egc : (out.set i c).getD i 0 = c := by rw [qcE, if_pos ⟨rfl, by omega⟩]
   rw [egc] at eg
   have q0 : ((i : Int) < l.length) = True := eq_true (by omega)
   by_cases hk2 : k < ls.length
   ·rw [qrv hk2] at k2
    simp only [qi3] at k2
    obtain ⟨x, hx⟩ : ∃ x, x = ls.getD k default := ⟨_, rfl⟩
    have ex := hx.symm
    rw [ex] at k2
    by_cases a1 : (i : Int) < x.frm
    ·have q2 : ((i : Int) < x.frm) = True := eq_true a1
     rw [if_pos (.inl a1)] at k2
     simp (disch := omega) only [qu, qt, qH, qD, qS, List.foldl, List.replicate, k4', ex, q2, go_sem, qc, dvP, mdP]
     repeat' first
      | ((first | refine qe ?_ ?_ | refine qg ?_ ?_); (next => exact rvk); simp only [go_sem]; (first | exact VLe.refl _ | refine qh ?_ | refine qd ?_ | refine ql ?_ | skip))
      | with_reducible first | refine And.intro ?_ ?_ | intro _
     all_goals try exact clz
     refine hK2 _ _ (k + 1, c, .mem (qz (some O) + 1) 49 (qS x)) ⟨hk2, k2, k3, rfl⟩ (by simp only; omega) (Wk.temps ?_)
     (simp only [qt, qH, qD, qS, qu, List.foldl, List.replicate, go_sem, qr, qp, qm, qq]; try (repeat' first | (with_reducible refine And.intro ?_ ?_) | (refine qh ?_; omega) | (refine qd ?_; rfl) | exact VLe.refl _))
    have q2 : ((i : Int) < x.frm) = False := eq_false a1
    by_cases a2 : x.to ≤ i
    ·have q3 : (x.to ≤ (i : Int)) = True := eq_true a2
     rw [if_pos (.inr a2)] at k2
     simp (disch := omega) only [qu, qt, qH, qD, qS, List.foldl, List.replicate, k4', ex, q2, q3, go_sem, qc, dvP, mdP]
     repeat' first
      | ((first | refine qe ?_ ?_ | refine qg ?_ ?_); (next => exact rvk); simp only [go_sem]; (first | exact VLe.refl _ | refine qh ?_ | refine qd ?_ | refine ql ?_ | skip))
      | with_reducible first | refine And.intro ?_ ?_ | intro _
     all_goals try exact clz
     refine hK2 _ _ (k + 1, c, .mem (qz (some O) + 1) 49 (qS x)) ⟨hk2, k2, k3, rfl⟩ (by simp only; omega) (Wk.temps ?_)
     (simp only [qt, qH, qD, qS, qu, List.foldl, List.replicate, go_sem, qr, qp, qm, qq]; try (repeat' first | (with_reducible refine And.intro ?_ ?_) | (refine qh ?_; omega) | (refine qd ?_; rfl) | exact VLe.refl _))
    have q3 : (x.to ≤ (i : Int)) = False := eq_false a2
    rw [if_neg (by rintro (h | h) <;> contradiction)] at k2
    by_cases a3 : 0 < c
    ·have q4 : (0 < c) = True := eq_true a3
     rw [if_pos a3] at k2
     have hV : R = none := by rw [i4, k2]
     rw [hV]
     simp (disch := omega) only [qu, qt, qH, qD, qS, List.foldl, List.replicate, k4', ex, q2, q3, q4, eC, eg, q0, go_sem, qc, dvP, mdP]
     repeat' first
      | ((first | refine qe ?_ ?_ | refine qg ?_ ?_); (next => exact rvk); simp only [go_sem]; (first | exact VLe.refl _ | refine qh ?_ | refine qd ?_ | refine ql ?_ | skip))
      | with_reducible first | refine And.intro ?_ ?_ | intro _
     all_goals try exact clz
    ·have q4 : (0 < c) = False := eq_false a3
     rw [if_neg a3] at k2
     have es := qfq (out.set i c) (a := i) ((k : Int) + 1) (by omega)
     rw [List.set_set] at es
     simp (disch := omega) only [qu, qt, qH, qD, qS, List.foldl, List.replicate, k4', ex, q2, q3, q4, eC, eg, q0, go_sem, qc, dvP, mdP]
     repeat' first
      | ((first | refine qe ?_ ?_ | refine qg ?_ ?_); (next => exact rvk); simp only [go_sem]; (first | exact VLe.refl _ | refine qh ?_ | refine qd ?_ | refine ql ?_ | skip))
      | with_reducible first | refine And.intro ?_ ?_ | intro _
     all_goals try exact clz
     rw [es]
     refine hK2 _ _ (k + 1, (k : Int) + 1, .mem (qz (some O) + 1) 49 (qS x)) ⟨hk2, k2, by simp only; omega, rfl⟩ (by simp only; omega) (Wk.temps ?_)
     (simp only [qt, qH, qD, qS, qu, List.foldl, List.replicate, go_sem, qr, qp, qm, qq]; try (repeat' first | (with_reducible refine And.intro ?_ ?_) | (refine qh ?_; omega) | (refine qd ?_; rfl) | exact VLe.refl _))
   ·have e : k = ls.length := by omega
    subst e
    rw [List.drop_length] at k2
    simp only [qi3] at k2
    rw [k2] at i4
    simp only at i4
    by_cases b1 : c = 0
    ·have q5 : (c = 0) = True := eq_true b1
     rw [if_pos (.inl b1)] at i4
     rw [i4]
     simp (disch := omega) only [qu, qt, qH, qD, qS, List.foldl, List.replicate, k4', eC, eg, q0, q5, go_sem, qc, dvP, mdP]
     repeat' first
      | ((first | refine qe ?_ ?_ | refine qg ?_ ?_); (next => exact rvk); simp only [go_sem]; (first | exact VLe.refl _ | refine qh ?_ | refine qd ?_ | refine ql ?_ | skip))
      | with_reducible first | refine And.intro ?_ ?_ | intro _
     all_goals try exact clz
    have q5 : (c = 0) = False := eq_false b1
    by_cases b2 : c < last
    ·have q6 : (c < last) = True := eq_true b2
     rw [if_pos (.inr b2)] at i4
     rw [i4]
     simp (disch := omega) only [qu, qt, qH, qD, qS, List.foldl, List.replicate, k4', eC, eg, q0, q5, q6, go_sem, qc, dvP, mdP]
     repeat' first
      | ((first | refine qe ?_ ?_ | refine qg ?_ ?_); (next => exact rvk); simp only [go_sem]; (first | exact VLe.refl _ | refine qh ?_ | refine qd ?_ | refine ql ?_ | skip))
      | with_reducible first | refine And.intro ?_ ?_ | intro _
     all_goals try exact clz
    have q6 : (c < last) = False := eq_false b2
    rw [if_neg (by rintro (h | h) <;> contradiction)] at i4
    simp (disch := omega) only [qu, qt, qH, qD, qS, List.foldl, List.replicate, k4', eC, eg, q0, q5, q6, go_sem, qc, dvP, mdP]
    repeat' first
     | ((first | refine qe ?_ ?_ | refine qg ?_ ?_); (next => exact rvk); simp only [go_sem]; (first | exact VLe.refl _ | refine qh ?_ | refine qd ?_ | refine ql ?_ | skip))
     | with_reducible first | refine And.intro ?_ ?_ | intro _
    all_goals try exact clz
    refine hK _ _ (i + 1, c, out.set i c, .mem (qz (some O1) + 1) 58 (qH (it l i)), O) ⟨hi, hsl, fun j hj => ?_, i4, rfl, k4⟩ (by simp only; omega) (Wk.temps ?_)
    ·rw [qcE, if_neg (by rintro ⟨h, _⟩; simp only at hj; omega)]
     exact i3 j (by simp only at hj; omega)
    ·(simp only [qt, qH, qD, qS, qu, List.foldl, List.replicate, go_sem, qr, qp, qm, qq]; try (repeat' first | (with_reducible refine And.intro ?_ ?_) | (refine qh ?_; omega) | (refine qd ?_; rfl) | exact VLe.refl _))
  ·have q1 : ((it l i).kind = 1) = False := eq_false hk
   rw [if_pos hk] at i4
   simp (disch := omega) only [qu, qt, qH, qD, qS, List.foldl, List.replicate, i5', i6', q1, go_sem, qc, dvP, mdP]
   repeat' first
    | ((first | refine qe ?_ ?_ | refine qg ?_ ?_); (next => exact rvk); simp only [go_sem]; (first | exact VLe.refl _ | refine qh ?_ | refine qd ?_ | refine ql ?_ | skip))
    | with_reducible first | refine And.intro ?_ ?_ | intro _
   all_goals try exact clz
   refine hK _ _ (i + 1, last, out, .mem (qz (some O1) + 1) 58 (qH (it l i)), O2) ⟨hi, i2, fun j hj => i3 j (by simp only at hj; omega), i4, rfl, i6⟩ (by simp only; omega) (Wk.temps ?_)
   (simp only [qt, qH, qD, qS, qu, List.foldl, List.replicate, go_sem, qr, qp, qm, qq]; try (repeat' first | (with_reducible refine And.intro ?_ ?_) | (refine qh ?_; omega) | (refine qd ?_; rfl) | exact VLe.refl _))
 ·have e : i = l.length := by omega
  subst e
  rw [List.drop_length] at i4
  have hV : R = some out := i4
  rw [hV]
  have eC := zm out
  simp (disch := omega) only [qu, qt, qH, qD, qS, List.foldl, List.replicate, go_sem, qc, dvP, mdP]
  repeat' first
   | ((first | refine qe ?_ ?_ | refine qg ?_ ?_); (next => exact rvk); simp only [go_sem]; (first | exact VLe.refl _ | refine qh ?_ | refine qd ?_ | refine ql ?_ | skip))
   | with_reducible first | refine And.intro ?_ ?_ | intro _
  all_goals try exact clz
  rw [if_pos (by omega)]
  exact zg ⟨qcG i2, VLe.refl _, trivial⟩
end LN
end
section
open Go Go.Proofs AF HY P48
namespace LN
set_option maxRecDepth 100000
def qaN (l : List It) (i : Nat) : Bool := decide (2 ≤ i) && (decide ((it l (i - 1)).kind = 3) && (decide ((it l (i - 1)).penalty ≠ -10000) && decide ((it l (i - 2)).kind = 1)))
def qB (l : List It) : Nat → List (Int × Int) × Int × Int
 | 0 => ([], -1, -1)
 | i + 1 => if (it l i).kind ≠ 1 then qB l i else if qaN l i = true then ((qB l i).1, (qB l i).2.1, i) else
   (if 0 ≤ (qB l i).2.1 then (qB l i).1 ++ [(qB l i).2] else (qB l i).1, i, i)
def zb (l : List It) : List (Int × Int) := if 0 ≤ (qB l l.length).2.1 then (qB l l.length).1 ++ [(qB l l.length).2] else (qB l l.length).1
def ju (l : List It) : List (List AV) := (zb l).map fun p => [.int .i64 p.1, .int .i64 p.2]
theorem qjK (l : List It) (i : Nat) : (qB l i).1 <+: (qB l (i + 1)).1 := by
 rw [qB]
 split
 ·exact List.prefix_rfl
 ·split
  ·exact List.prefix_rfl
  ·split
   ·exact List.prefix_append _ _
   ·exact List.prefix_rfl
theorem qn0 (l : List It) : ∀ n i, (qB l i).1 <+: (qB l (i + n)).1 := by
 intro n
 induction n with
 | zero => intro i; exact List.prefix_rfl
 | succ n ih => intro i; exact (ih i).trans (qjK l (i + n))
theorem qnY (l : List It) {i : Nat} (hi : i ≤ l.length) : (qB l i).1 <+: zb l := by
 have h := qn0 l (l.length - i) i
 rw [show i + (l.length - i) = l.length by omega] at h
 refine h.trans ?_
 unfold zb
 split
 ·exact List.prefix_append _ _
 ·exact List.prefix_rfl
def qa9 (l : List It) : AV := .fn (.func 122) [] [.ip [qt l]]
theorem qfg (l : List It) : (qa9 l).flag = true := rfl
theorem qeJ (l : List It) : (qa9 l).strip = qa9 l := rfl
attribute [go_sem] qfg qeJ
theorem t63 (l : List It) (h : List AObj) : qs Tryz.prog 88 [qt l] h (qa9 l) h := by
 refine qn qw8 (by simp) ?_
 simp only [lcP, lnP, Nat.reduceAdd, Nat.reduceSub, List.replicate, caP, naP, List.append_nil]
 simp (disch := omega) only [qyl, qt, qH, go_sem, qc, dvP, mdP]
 repeat' first
  | ((first | refine qe ?_ ?_ | refine qg ?_ ?_); (next => exact rvk); simp only [go_sem]; (first | exact VLe.refl _ | refine qh ?_ | refine qd ?_ | refine ql ?_ | skip))
  | with_reducible first | refine And.intro ?_ ?_ | intro _
 all_goals try exact clz
theorem qhg (l : List It) : ∀ i, -1 ≤ (qB l i).2.1 ∧ (qB l i).2.1 < i + 1 := by
 intro i
 induction i with
 | zero => simp [qB]
 | succ i ih =>
  rw [qB]
  split
  ·omega
  ·split
   ·simp only; omega
   ·simp only; omega
end LN
end
section
open Go Go.Proofs AF HY P48
namespace LN
set_option maxRecDepth 100000
set_option maxHeartbeats 8000000 in
theorem qyW (l : List It) (hl : l.length ≤ 100000) : qv3 Tryz.prog 122 [.ip [qt l]] (ju l) := by
 intro h ts L S E hS hE body start hts
 refine kB quh (by simp) ?_
 simp only [lcP, lnP, Nat.reduceAdd, Nat.reduceSub, List.replicate, caP, naP, List.append_nil]
 simp (disch := omega) only [qtv, qt, qH, go_sem, qc, dvP, mdP]
 repeat' first
  | ((first | refine qe ?_ ?_ | refine qg ?_ ?_); (next => exact rvk); simp only [go_sem]; (first | exact VLe.refl _ | refine qh ?_ | refine qd ?_ | refine ql ?_ | skip))
  | with_reducible first | refine And.intro ?_ ?_ | intro _
 all_goals try exact clz
 refine qJ (T := fun i : Nat × List AObj × AObj => qu 65 [(0, .yld h.length), (1, .ip [qt l]), (3, .int .i64 (qB l i.1).2.1), (4, .int .i64 (qB l i.1).2.2), (7, qt l), (8, .int .i64 l.length), (9, .int .i64 i.1)])
  (H := fun i => i.2.1 ++ [.lp .ready ts L] ++ [i.2.2])
  (inv := fun i => i.1 ≤ l.length ∧ S (qB l i.1).1.length i.2.1 ∧ zc [i.2.2] 0 = true) (m := fun i => l.length - i.1) (0, h, .emp 0) ⟨Nat.zero_le _, start, rfl⟩ (Wk.temps ?_) ?_
 ·(simp only [qt, qH, qB, qu, List.foldl, List.replicate, go_sem, qr, qp, qm, qq]; try (repeat' first | (with_reducible refine And.intro ?_ ?_) | (refine qh ?_; omega) | (refine qd ?_; rfl) | exact VLe.refl _))
 rintro ⟨i, hh, O⟩ ⟨i1, i2, i3⟩ K hK
 simp only at i1 i2 i3 hK
 obtain ⟨hlen, hlow⟩ := hS _ _ i2
 have hb : (h ++ [AObj.lp LS.ready ts L]).length = (hh ++ [AObj.lp LS.ready ts L]).length := by simp [hlen]
 rw [hb]
 have i3' : ∀ m, zc (O :: m) 0 = true := fun _ => i3
 have hrg := qhg l i
 have hfin := fun (h : i + 1 ≤ l.length) => qnY l h
 obtain ⟨d, f, t, hW⟩ : ∃ d f t, qB l i = (d, f, t) := ⟨_, _, _, rfl⟩
 rw [hW] at i2 hrg
 simp only at i2 hrg
 by_cases hi : i < l.length
 ·have q0 : ((i : Int) < l.length) = True := eq_true (by omega)
  have hst : qB l (i + 1) = if (it l i).kind ≠ 1 then (d, f, t) else if qaN l i = true then (d, f, (i : Int)) else (if 0 ≤ f then d ++ [(f, t)] else d, (i : Int), (i : Int)) := by
   rw [qB, hW]
  by_cases hk : (it l i).kind = 1
  ·have q1 : ((it l i).kind = 1) = True := eq_true hk
   rw [if_neg (fun hc => hc hk)] at hst
   simp (disch := omega) only [qu, qt, qH, List.foldl, List.replicate, i3', q0, q1, hW, go_sem, qc, dvP, mdP]
   repeat' first
    | ((first | refine qe ?_ ?_ | refine qg ?_ ?_); (next => exact rvk); simp only [go_sem]; (first | exact VLe.refl _ | refine qh ?_ | refine qd ?_ | refine ql ?_ | skip))
    | with_reducible first | refine And.intro ?_ ?_ | intro _
   all_goals try exact clz
   ·rename_i a1
    have hc : qaN l i = true := by
     unfold qaN
     rw [show (i - 1 : Nat) = ((i : Int) - 1).toNat by omega, show (i - 2 : Nat) = ((i : Int) - 2).toNat by omega]
     simp only [Bool.and_eq_true, decide_eq_true_eq]
     exact ⟨by omega, a1.1.1.2, a1.1.2, a1.2⟩
    rw [if_pos hc] at hst
    refine hK _ _ (i + 1, hh, .mem (qz (some O) + 1) 58 (qH (it l i))) ⟨hi, by simp only; rw [hst]; exact i2, rfl⟩ (by simp only; omega) ?_
    simp only
    rw [hst]
    refine Wk.temps ?_
    (simp only [qt, qH, qu, List.foldl, List.replicate, go_sem, qr, qp, qm, qq]; try (repeat' first | (with_reducible refine And.intro ?_ ?_) | (refine qh ?_; omega) | (refine qd ?_; rfl) | exact VLe.refl _))
   ·exact ⟨.ready, ts, L, by rw [List.append_assoc]; exact qcb hlen⟩
   ·rename_i a1 hf
    have hc : ¬ qaN l i = true := by
     unfold qaN
     rw [show (i - 1 : Nat) = ((i : Int) - 1).toNat by omega, show (i - 2 : Nat) = ((i : Int) - 2).toNat by omega]
     simp only [Bool.and_eq_true, decide_eq_true_eq]
     rintro ⟨b1, b2, b3, b4⟩
     exact a1 ⟨⟨by omega, b2⟩, b3⟩ b4
    have qf : (0 ≤ f) = True := eq_true hf
    rw [if_neg hc, if_pos hf] at hst
    have hpre : d ++ [(f, t)] <+: zb l := by have := hfin hi; rwa [hst] at this
    obtain ⟨r, hr⟩ := hpre
    have hlt : d.length < (ju l).length := by unfold ju; rw [List.length_map, ← hr]; simp
    have hx : (ju l)[d.length] = [.int .i64 f, .int .i64 t] := by
     unfold ju
     simp only [List.getElem_map, ← hr]
     simp
    have hb' := body d.length hh [.mem (qz (some O) + 1) 58 (qH (it l i))] hlt i2
    rw [hx] at hb'
    rw [List.append_assoc]
    refine kf.mono ?_ hb'
    rintro v h' ⟨hh', ⟨rfl, hn, rfl⟩ | ⟨st, rfl, hs', rfl⟩⟩
    ·simp (disch := omega) only [qf, go_sem, qc, dvP, mdP]
     repeat' first
      | ((first | refine qe ?_ ?_ | refine qg ?_ ?_); (next => exact rvk); simp only [go_sem]; (first | exact VLe.refl _ | refine qh ?_ | refine qd ?_ | refine ql ?_ | skip))
      | with_reducible first | refine And.intro ?_ ?_ | intro _
     all_goals try exact clz
     refine hK _ _ (i + 1, hh', .mem (qz (some O) + 1) 58 (qH (it l i))) ⟨hi, by simp only; rw [hst]; simpa using hn, rfl⟩ (by simp only; omega) ?_
     simp only
     rw [hst, List.append_assoc]
     refine Wk.temps ?_
     (simp only [qt, qH, qu, List.foldl, List.replicate, go_sem, qr, qp, qm, qq]; try (repeat' first | (with_reducible refine And.intro ?_ ?_) | (refine qh ?_; omega) | (refine qd ?_; rfl) | exact VLe.refl _))
    ·simp (disch := omega) only [qf, go_sem, qc, dvP, mdP]
     obtain ⟨r1, r2⟩ := (hE _ _ hs').ret (L := L) st hts
     rw [show hh' ++ AObj.lp st ts L :: [AObj.mem (qz (some O) + 1) 58 (qH (it l i))] = (hh' ++ [AObj.lp st ts L]) ++ [AObj.mem (qz (some O) + 1) 58 (qH (it l i))] by simp]
     exact kV trivial r1 r2 ⟨_, .inr ⟨st, hs', rfl⟩⟩ (VLe.refl _)
   ·rename_i a1 hf _
    have hc : ¬ qaN l i = true := by
     unfold qaN
     rw [show (i - 1 : Nat) = ((i : Int) - 1).toNat by omega, show (i - 2 : Nat) = ((i : Int) - 2).toNat by omega]
     simp only [Bool.and_eq_true, decide_eq_true_eq]
     rintro ⟨b1, b2, b3, b4⟩
     exact a1 ⟨⟨by omega, b2⟩, b3⟩ b4
    rw [if_neg hc, if_neg hf] at hst
    refine hK _ _ (i + 1, hh, .mem (qz (some O) + 1) 58 (qH (it l i))) ⟨hi, by simp only; rw [hst]; exact i2, rfl⟩ (by simp only; omega) ?_
    simp only
    rw [hst]
    refine Wk.temps ?_
    (simp only [qt, qH, qu, List.foldl, List.replicate, go_sem, qr, qp, qm, qq]; try (repeat' first | (with_reducible refine And.intro ?_ ?_) | (refine qh ?_; omega) | (refine qd ?_; rfl) | exact VLe.refl _))
  ·have q1 : ((it l i).kind = 1) = False := eq_false hk
   rw [if_pos hk] at hst
   simp (disch := omega) only [qu, qt, qH, List.foldl, List.replicate, i3', q0, q1, hW, go_sem, qc, dvP, mdP]
   repeat' first
    | ((first | refine qe ?_ ?_ | refine qg ?_ ?_); (next => exact rvk); simp only [go_sem]; (first | exact VLe.refl _ | refine qh ?_ | refine qd ?_ | refine ql ?_ | skip))
    | with_reducible first | refine And.intro ?_ ?_ | intro _
   all_goals try exact clz
   refine hK _ _ (i + 1, hh, .mem (qz (some O) + 1) 58 (qH (it l i))) ⟨hi, by simp only; rw [hst]; exact i2, rfl⟩ (by simp only; omega) ?_
   simp only
   rw [hst]
   refine Wk.temps ?_
   (simp only [qt, qH, qu, List.foldl, List.replicate, go_sem, qr, qp, qm, qq]; try (repeat' first | (with_reducible refine And.intro ?_ ?_) | (refine qh ?_; omega) | (refine qd ?_; rfl) | exact VLe.refl _))
 ·have e : i = l.length := by omega
  subst e
  by_cases hf : 0 ≤ f
  ·have q1 : (0 ≤ f) = True := eq_true hf
   simp (disch := omega) only [qu, qt, qH, List.foldl, List.replicate, q1, hW, go_sem, qc, dvP, mdP]
   repeat' first
    | ((first | refine qe ?_ ?_ | refine qg ?_ ?_); (next => exact rvk); simp only [go_sem]; (first | exact VLe.refl _ | refine qh ?_ | refine qd ?_ | refine ql ?_ | skip))
    | with_reducible first | refine And.intro ?_ ?_ | intro _
   all_goals try exact clz
   ·exact ⟨.ready, ts, L, by rw [List.append_assoc]; exact qcb hlen⟩
   ·have hF : zb l = d ++ [(f, t)] := by unfold zb; rw [hW]; simp only; rw [if_pos hf]
    have hlX : (ju l).length = d.length + 1 := by unfold ju; rw [hF]; simp
    have hx : (ju l)[d.length]'(by omega) = [.int .i64 f, .int .i64 t] := by
     unfold ju
     simp only [List.getElem_map, hF]
     simp
    have hb' := body d.length hh [O] (by omega) i2
    rw [hx] at hb'
    rw [List.append_assoc]
    refine kf.mono ?_ hb'
    rintro v h' ⟨hh', ⟨rfl, hn, rfl⟩ | ⟨st, rfl, hs', rfl⟩⟩
    ·obtain ⟨r1, r2⟩ := (hS _ _ hn).ret (L := L) .ready hts
     rw [show hh' ++ AObj.lp LS.ready ts L :: [O] = (hh' ++ [AObj.lp LS.ready ts L]) ++ [O] by simp]
     exact qax trivial r1 r2 ⟨hh', .inl ⟨by rw [hlX]; exact hn, rfl⟩⟩ (VLe.refl _)
    ·obtain ⟨r1, r2⟩ := (hE _ _ hs').ret (L := L) st hts
     rw [show hh' ++ AObj.lp st ts L :: [O] = (hh' ++ [AObj.lp st ts L]) ++ [O] by simp]
     exact qax trivial r1 r2 ⟨_, .inr ⟨st, hs', rfl⟩⟩ (VLe.refl _)
  ·have q1 : (0 ≤ f) = False := eq_false hf
   simp (disch := omega) only [qu, qt, qH, List.foldl, List.replicate, q1, hW, go_sem, qc, dvP, mdP]
   repeat' first
    | ((first | refine qe ?_ ?_ | refine qg ?_ ?_); (next => exact rvk); simp only [go_sem]; (first | exact VLe.refl _ | refine qh ?_ | refine qd ?_ | refine ql ?_ | skip))
    | with_reducible first | refine And.intro ?_ ?_ | intro _
   all_goals try exact clz
   have hF : zb l = d := by unfold zb; rw [hW]; simp only; rw [if_neg hf]
   have hlX : (ju l).length = d.length := by unfold ju; rw [hF]; simp
   obtain ⟨r1, r2⟩ := (hS _ _ i2).ret (L := L) .ready hts
   exact qax trivial r1 r2 ⟨hh, .inl ⟨by rw [hlX]; exact i2, rfl⟩⟩ (VLe.refl _)
end LN
end
section
open Go Go.Proofs AF HY P48
namespace LN
set_option maxRecDepth 100000
theorem qqA (l : List It) : ∀ i : Nat, (∀ p ∈ (qB l i).1, 0 ≤ p.1 ∧ p.1 < i ∧ 0 ≤ p.2 ∧ p.2 < i) ∧ (0 ≤ (qB l i).2.1 → (qB l i).2.1 < i ∧ 0 ≤ (qB l i).2.2 ∧ (qB l i).2.2 < i) := by
 intro i
 induction i with
 | zero => exact ⟨by simp [qB], by simp [qB]⟩
 | succ i ih =>
  obtain ⟨h1, h2⟩ := ih
  rw [qB]
  split
  ·exact ⟨fun p hp => by have := h1 p hp; omega, fun h => by have := h2 h; omega⟩
  ·split
   ·exact ⟨fun p hp => by have := h1 p hp; omega, fun h => by have := h2 h; simp only; omega⟩
   ·refine ⟨fun p hp => ?_, fun _ => by simp only; omega⟩
    simp only at hp
    split at hp
    ·rename_i hf
     rcases List.mem_append.1 hp with hp | hp
     ·have := h1 p hp; omega
     ·rw [List.mem_singleton] at hp
      subst hp
      have := h2 hf
      omega
    ·have := h1 p hp; omega
theorem qqB {l : List It} : ∀ p ∈ zb l, 0 ≤ p.1 ∧ p.1 < l.length ∧ 0 ≤ p.2 ∧ p.2 < l.length := by
 intro p hp
 obtain ⟨h1, h2⟩ := qqA l l.length
 unfold zb at hp
 split at hp
 ·rename_i hf
  rcases List.mem_append.1 hp with hp | hp
  ·exact h1 p hp
  ·rw [List.mem_singleton] at hp
   subst hp
   have := h2 hf
   omega
 ·exact h1 p hp
theorem qnX (l : List It) : ∀ i : Nat, (qB l i).1.length ≤ i := by
 intro i
 induction i with
 | zero => simp [qB]
 | succ i ih =>
  rw [qB]
  split
  ·omega
  ·split
   ·simp only; omega
   ·simp only
    split
    ·rw [List.length_append, List.length_singleton]; omega
    ·omega
theorem qjF (l : List It) : (zb l).length ≤ l.length + 1 := by
 have := qnX l l.length
 unfold zb
 split
 ·rw [List.length_append, List.length_singleton]; omega
 ·omega
def qeN (pk : Int → Int → Int) (l : List It) (out : List Int) : List Int := (zb l).map fun p => pk (out.getD p.1.toNat 0) (out.getD p.2.toNat 0)
def kH (pk : Int → Int → Int) (l : List It) (ls : List Ln) : Int × List Int :=
 if ji l ≠ 0 then (1, []) else if 4096 < ls.length then (4, []) else match qbV l ls with
  | none => (9, [])
  | some out => (0, qeN pk l out)
theorem ql0 {L : List Int} {n : Nat} {c : AV} (h : c ∈ qX L) : zX n c = true := by
 unfold qX at h
 obtain ⟨x, _, rfl⟩ := List.mem_map.1 h
 rfl
theorem qnu (L : List Int) {i : Nat} (h : i < L.length) : L.take (i + 1) = L.take i ++ [L.getD i 0] := by
 rw [List.take_add_one, List.getElem?_eq_getElem h]
 simp [List.getD_eq_getElem?_getD, h]
theorem qiU {ls : List Ln} : ∀ {l : List It} {i : Nat} {last : Int} {out R : List Int}, jr ls l i last out = some R → R.length = out.length := by
 intro l
 induction l with
 | nil => intro i last out R h; cases h; rfl
 | cons x l ih =>
  intro i last out R h
  unfold jr at h
  split at h
  ·exact ih h
  ·split at h
   ·cases h
   ·split at h
    ·cases h
    ·rw [ih h]; simp
set_option maxHeartbeats 8000000 in
theorem t38 (pk : Int → Int → Int) (F : Nat) (l : List It) (ls : List Ln) (h : List AObj) (hl : l.length ≤ 100000) (hls : ls.length ≤ 100000)
  (hp : ∀ (a b : Int) (h : List AObj), qs Tryz.prog F [.int .i64 a, .int .i64 b] h (.int .i64 (pk a b)) h) :
  qs Tryz.prog 55 [qt l, qD ls, .fn (.func F) [] []] h (.tup [jB (kH pk l ls).2, .int .i64 (kH pk l ls).1]) h := by
 have c61 := fun h => p61 l h (by omega)
 obtain ⟨R, hR⟩ : ∃ R, R = kH pk l ls := ⟨_, rfl⟩
 rw [← hR]
 obtain ⟨e, he⟩ : ∃ e, e = ji l := ⟨_, rfl⟩
 rw [← he] at c61
 by_cases g1 : e = 0
 ·have k1 : (e = 0) = True := eq_true g1
  by_cases g2 : 4096 < ls.length
  ·have k2 : (4096 < (ls.length : Int)) = True := eq_true (by omega)
   have hV : R = (4, []) := by rw [hR]; unfold kH; rw [if_neg (by rw [← he]; exact fun hc => hc g1), if_pos g2]
   rw [hV]
   refine qn qo3 (by simp) ?_
   simp only [lcP, lnP, Nat.reduceAdd, Nat.reduceSub, List.replicate, caP, naP, List.append_nil]
   simp (disch := omega) only [qtJ, k1, k2, qD, go_sem, qc, dvP, mdP]
   repeat' first
    | ((first | refine qj (c61 _) ?_ ?_); (next => exact flk); simp (disch := omega) only [k1, k2, qD, go_sem, qc, dvP, mdP])
    | ((first | refine qo (fun _ => c61 _) ?_ ?_); (next => exact flk); simp (disch := omega) only [k1, k2, qD, go_sem, qc, dvP, mdP])
    | ((first | refine qk (fun e => ⟨?_, c61 _⟩) ?_); (next => exact flk); simp (disch := omega) only [k1, k2, qD, go_sem, qc, dvP, mdP])
    | ((first | refine qe ?_ ?_ | refine qg ?_ ?_); (next => exact rvk); simp only [go_sem]; (first | exact VLe.refl _ | refine qh ?_ | refine qd ?_ | refine ql ?_ | skip))
    | with_reducible first | refine And.intro ?_ ?_ | intro _
   all_goals try exact clz
  have k2 : (4096 < (ls.length : Int)) = False := eq_false (by omega)
  have c62 := fun h => t62 l ls h hl hls
  have c63 := fun h => t63 l h
  have hV : R = match qbV l ls with
   | none => (9, [])
   | some out => (0, qeN pk l out) := by rw [hR]; unfold kH; rw [if_neg (by rw [← he]; exact fun hc => hc g1), if_neg g2]
  cases ho : qbV l ls with
  | none =>
   rw [ho] at c62 hV
   rw [hV]
   have e0 : qgK none = .tup [.nl, .bool false] := rfl
   rw [e0] at c62
   refine qn qo3 (by simp) ?_
   simp only [lcP, lnP, Nat.reduceAdd, Nat.reduceSub, List.replicate, caP, naP, List.append_nil]
   simp (disch := omega) only [qtJ, k1, k2, qD, go_sem, qc, dvP, mdP]
   repeat' first
    | ((first | refine qj (c61 _) ?_ ?_ | refine qj (c62 _) ?_ ?_); (next => exact flk); simp (disch := omega) only [k1, k2, qD, go_sem, qc, dvP, mdP])
    | ((first | refine qo (fun _ => c61 _) ?_ ?_ | refine qo (fun _ => c62 _) ?_ ?_); (next => exact flk); simp (disch := omega) only [k1, k2, qD, go_sem, qc, dvP, mdP])
    | ((first | refine qk (fun e => ⟨?_, c61 _⟩) ?_ | refine qk (fun e => ⟨?_, c62 _⟩) ?_); (next => exact flk); simp (disch := omega) only [k1, k2, qD, go_sem, qc, dvP, mdP])
    | ((first | refine qe ?_ ?_ | refine qg ?_ ?_); (next => exact rvk); simp only [go_sem]; (first | exact VLe.refl _ | refine qh ?_ | refine qd ?_ | refine ql ?_ | skip))
    | with_reducible first | refine And.intro ?_ ?_ | intro _
   all_goals try exact clz
  | some out =>
   rw [ho] at c62 hV
   rw [hV]
   have e0 : qgK (some out) = .tup [qw out, .bool true] := rfl
   rw [e0] at c62
   have hol : out.length = l.length := by have := qiU ho; rw [this]; simp
   refine qn qo3 (by simp) ?_
   simp only [lcP, lnP, Nat.reduceAdd, Nat.reduceSub, List.replicate, caP, naP, List.append_nil]
   simp (disch := omega) only [qtJ, k1, k2, qD, kQ, kY, go_sem, qc, dvP, mdP]
   repeat' first
    | ((first | refine qj (c61 _) ?_ ?_ | refine qj (c62 _) ?_ ?_ | refine qj (c63 _) ?_ ?_); (next => exact flk); simp (disch := omega) only [k1, k2, qD, qa9, kQ, kY, go_sem, qc, dvP, mdP])
    | ((first | refine qo (fun _ => c61 _) ?_ ?_ | refine qo (fun _ => c62 _) ?_ ?_ | refine qo (fun _ => c63 _) ?_ ?_); (next => exact flk); simp (disch := omega) only [k1, k2, qD, qa9, kQ, kY, go_sem, qc, dvP, mdP])
    | ((first | refine qk (fun e => ⟨?_, c61 _⟩) ?_ | refine qk (fun e => ⟨?_, c62 _⟩) ?_ | refine qk (fun e => ⟨?_, c63 _⟩) ?_); (next => exact flk); simp (disch := omega) only [k1, k2, qD, qa9, kQ, kY, go_sem, qc, dvP, mdP])
    | ((first | refine qe ?_ ?_ | refine qg ?_ ?_); (next => exact rvk); simp only [go_sem]; (first | exact VLe.refl _ | refine qh ?_ | refine qd ?_ | refine ql ?_ | skip))
    | with_reducible first | refine And.intro ?_ ?_ | intro _
   all_goals try exact clz
   obtain ⟨V, hVl⟩ : ∃ V, V = qeN pk l out := ⟨_, rfl⟩
   have hlX : (ju l).length = V.length := by rw [hVl]; simp [ju, qeN]
   have hVn : V.length ≤ 100001 := by rw [hVl, qeN, List.length_map]; have := qjF l; omega
   have hVi : ∀ i (hi : i < (ju l).length), ∃ a b : Nat, (ju l)[i] = [.int .i64 (a : Int), .int .i64 (b : Int)] ∧ a < out.length ∧ b < out.length ∧ V.getD i 0 = pk (out.getD a 0) (out.getD b 0) := by
    intro i hi
    have hi' : i < (zb l).length := by simpa [ju] using hi
    have hw := qqB ((zb l)[i]) (List.getElem_mem hi')
    refine ⟨((zb l)[i]).1.toNat, ((zb l)[i]).2.toNat, ?_, by omega, by omega, ?_⟩
    ·have e1 : (ju l)[i] = [.int .i64 ((zb l)[i]).1, .int .i64 ((zb l)[i]).2] := List.getElem_map _
     rw [e1]
     rw [show ((((zb l)[i]).1.toNat : Nat) : Int) = ((zb l)[i]).1 by omega, show ((((zb l)[i]).2.toNat : Nat) : Int) = ((zb l)[i]).2 by omega]
    ·rw [hVl, qeN, List.getD_eq_getElem?_getD, List.getElem?_map, List.getElem?_eq_getElem hi']
     rfl
   refine qaH (xs := ju l) (qyW l hl) (by intro a ha; simp [ju] at ha; obtain ⟨_, _, _, rfl⟩ := ha; rfl)
    (S := fun i hh => (i = 0 ∧ hh = h ++ [.mem 1 95 [.fn (.func F) [] []], .emp 1, .mem 1 42 [qw out], .mem 1 42 [.nl], .emp 0, .emp 0]) ∨ (0 < i ∧ ∃ (v w : Nat) (x : Int), hh = h ++ [.mem 1 95 [.fn (.func F) [] []], .emp 1, .mem 1 42 [qw out], .mem 1 42 [.osl (h.length + 5) v 1 0 i], .mem w 3 [.int .i64 x], .mem v 3 (qX (V.take i))]))
    (E := fun _ _ => False) ?_ (fun _ _ h => h.elim) ?_ ?_ ?_ ?_ (fun _ _ h => h.elim)
   ·rintro i hh (⟨rfl, rfl⟩ | ⟨_, v, w, x, rfl⟩)
    ·exact LowI.refl _
    ·refine LowI.app rfl (fun o ho => ?_)
     simp only [List.mem_cons, List.not_mem_nil, or_false] at ho
     rcases ho with rfl | rfl | rfl | rfl | rfl | rfl
     ·left; simp
     ·left; simp
     ·left; simp
     ·right; constructor <;> (intro c hc; simp at hc; subst hc; simp [zX] <;> omega)
     ·right; constructor <;> (intro c hc; simp at hc; subst hc; rfl)
     ·right; constructor <;> exact fun c hc => ql0 hc
   ·exact .inl ⟨rfl, rfl⟩
   ·simp [zX, zX.lowVs, qt, qw]
    try omega
   ·rintro i hh tl L hi hS hlen
    obtain ⟨a, b, hx, ha, hb, hv⟩ := hVi i hi
    rw [hlX] at hi
    rw [hx]
    have hts := qnu V hi
    have qa : ((a : Int) < out.length) = True := eq_true (by omega)
    have qb : ((b : Int) < out.length) = True := eq_true (by omega)
    simp only [qa5]
    rcases hS with ⟨rfl, rfl⟩ | ⟨hpos, v, w, x, rfl⟩
    ·simp (disch := omega) only [List.append_assoc, eq_self, qM, qw, go_sem, qc, dvP, mdP]
     repeat' first
      | ((first | refine qe ?_ ?_ | refine qg ?_ ?_); (next => exact rvk); simp only [go_sem]; (first | exact VLe.refl _ | refine qh ?_ | refine qd ?_ | refine ql ?_ | skip))
      | with_reducible first | refine And.intro ?_ ?_ | intro _
     all_goals try exact clz
     refine qgu ?T ?H ?h1 ?h2
     case h1 =>
      simp (disch := omega) only [qa, qb, go_sem, qc, dvP, mdP]
      repeat' first
       | (refine qcR (fun _ => hp _ _ _) ⟨rfl, rfl, rfl, trivial⟩ ?_; simp (disch := omega) only [qa, qb, qM, go_sem, qc])
       | with_reducible first | refine And.intro ?_ ?_ | intro _
      all_goals first
       | omega
       | rfl
       | (simp; done)
       | skip
     case h2 =>
      simp (disch := omega) only [go_sem, qc, dvP, mdP]
      repeat' first
       | ((first | refine qe ?_ ?_ | refine qg ?_ ?_); (next => exact rvk); simp only [go_sem]; (first | exact VLe.refl _ | refine qh ?_ | refine qd ?_ | refine ql ?_ | skip))
       | with_reducible first | refine And.intro ?_ ?_ | intro _
      all_goals try exact clz
      refine ⟨h ++ [.mem 1 95 [.fn (.func F) [] []], .emp 1, .mem 1 42 [qw out], .mem 1 42 [.osl (h.length + 5) 1 1 0 1], .mem 1 3 [.int .i64 (pk (out.getD a 0) (out.getD b 0))], .mem 1 3 [.int .i64 (pk (out.getD a 0) (out.getD b 0))]], by simp [qw], by simp, .inr ⟨by omega, 1, 1, pk (out.getD a 0) (out.getD b 0), ?_⟩⟩
      rw [hts, hv]
      rfl
    ·have eL : (qX (V.take i)).length = i := by rw [zm, List.length_take]; omega
     have eT : List.take i (qX (V.take i)) = qX (V.take i) := List.take_of_length_le (by omega)
     simp (disch := omega) only [List.append_assoc, eq_self, qM, qw, go_sem, qc, dvP, mdP]
     repeat' first
      | ((first | refine qe ?_ ?_ | refine qg ?_ ?_); (next => exact rvk); simp only [go_sem]; (first | exact VLe.refl _ | refine qh ?_ | refine qd ?_ | refine ql ?_ | skip))
      | with_reducible first | refine And.intro ?_ ?_ | intro _
     all_goals try exact clz
     refine qgu ?T2 ?H2 ?h3 ?h4
     case h3 =>
      simp (disch := omega) only [qa, qb, eL, eT, go_sem, qc, dvP, mdP]
      repeat' first
       | (refine qcR (fun _ => hp _ _ _) ⟨rfl, rfl, rfl, trivial⟩ ?_; simp (disch := omega) only [qa, qb, eL, eT, qM, go_sem, qc])
       | with_reducible first | refine And.intro ?_ ?_ | intro _
      all_goals first
       | omega
       | rfl
       | (simp; done)
       | skip
     case h4 =>
      simp (disch := omega) only [go_sem, qc, dvP, mdP]
      repeat' first
       | ((first | refine qe ?_ ?_ | refine qg ?_ ?_); (next => exact rvk); simp only [go_sem]; (first | exact VLe.refl _ | refine qh ?_ | refine qd ?_ | refine ql ?_ | skip))
       | with_reducible first | refine And.intro ?_ ?_ | intro _
      all_goals try exact clz
      refine ⟨h ++ [.mem 1 95 [.fn (.func F) [] []], .emp 1, .mem 1 42 [qw out], .mem 1 42 [.osl (h.length + 5) (v + 1) 1 0 (i + 1)], .mem (w + 1) 3 [.int .i64 (pk (out.getD a 0) (out.getD b 0))], .mem (v + 1) 3 (qX (V.take i) ++ [.int .i64 (pk (out.getD a 0) (out.getD b 0))])], by simp [qw], by simp, ?_⟩
      have hfin : ∃ (v' w' : Nat) (x' : Int), h ++ [AObj.mem 1 95 [.fn (.func F) [] []], .emp 1, .mem 1 42 [qw out], .mem 1 42 [.osl (h.length + 5) (v + 1) 1 0 (i + 1)], .mem (w + 1) 3 [.int .i64 (pk (out.getD a 0) (out.getD b 0))], .mem (v + 1) 3 (qX (V.take i) ++ [.int .i64 (pk (out.getD a 0) (out.getD b 0))])] = h ++ [.mem 1 95 [.fn (.func F) [] []], .emp 1, .mem 1 42 [qw out], .mem 1 42 [.osl (h.length + 5) v' 1 0 (i + 1)], .mem w' 3 [.int .i64 x'], .mem v' 3 (qX (V.take (i + 1)))] := ⟨v + 1, w + 1, pk (out.getD a 0) (out.getD b 0), by rw [hts, hv, qaz]⟩
      first
       | exact .inr ⟨by omega, hfin⟩
       | exact .inr hfin
       | exact hfin
   ·rintro hh hS
    rw [hlX] at hS
    rw [← hVl]
    rcases hS with ⟨h0, rfl⟩ | ⟨hpos, v, w, x, rfl⟩
    ·have e0 : V = [] := List.eq_nil_of_length_eq_zero h0
     rw [e0]
     simp (disch := omega) only [go_sem, qc, dvP, mdP]
     repeat' first
      | ((first | refine qe ?_ ?_ | refine qg ?_ ?_); (next => exact rvk); simp only [go_sem]; (first | exact VLe.refl _ | refine qh ?_ | refine qd ?_ | refine ql ?_ | skip))
      | with_reducible first | refine And.intro ?_ ?_ | intro _
     all_goals try exact clz
    ·rw [List.take_length]
     have eL := zm V
     simp (disch := omega) only [eL, go_sem, qc, dvP, mdP]
     repeat' first
      | ((first | refine qe ?_ ?_ | refine qg ?_ ?_); (next => exact rvk); simp only [go_sem]; (first | exact VLe.refl _ | refine qh ?_ | refine qd ?_ | refine ql ?_ | skip))
      | with_reducible first | refine And.intro ?_ ?_ | intro _
     all_goals try exact clz
     rw [if_pos (by omega)]
     have en : jB V = qw V := by
      unfold jB
      rw [if_neg (by intro hc; rw [hc] at hpos; simp at hpos)]
     rw [en]
     exact zg ⟨qcG rfl, VLe.refl _, trivial⟩
 ·have k1 : (e = 0) = False := eq_false g1
  have hV : R = (1, []) := by rw [hR]; unfold kH; rw [if_pos (by rw [← he]; exact g1)]
  rw [hV]
  refine qn qo3 (by simp) ?_
  simp only [lcP, lnP, Nat.reduceAdd, Nat.reduceSub, List.replicate, caP, naP, List.append_nil]
  simp (disch := omega) only [qtJ, k1, go_sem, qc, dvP, mdP]
  repeat' first
   | ((first | refine qj (c61 _) ?_ ?_); (next => exact flk); simp (disch := omega) only [k1, go_sem, qc, dvP, mdP])
   | ((first | refine qo (fun _ => c61 _) ?_ ?_); (next => exact flk); simp (disch := omega) only [k1, go_sem, qc, dvP, mdP])
   | ((first | refine qk (fun e => ⟨?_, c61 _⟩) ?_); (next => exact flk); simp (disch := omega) only [k1, go_sem, qc, dvP, mdP])
   | ((first | refine qe ?_ ?_ | refine qg ?_ ?_); (next => exact rvk); simp only [go_sem]; (first | exact VLe.refl _ | refine qh ?_ | refine qd ?_ | refine ql ?_ | skip))
   | with_reducible first | refine And.intro ?_ ?_ | intro _
  all_goals try exact clz
end LN
end
section
open Go Go.Proofs AF HY P48
namespace LN
set_option maxRecDepth 100000
theorem t39 (a b : Int) (h : List AObj) : qs Tryz.prog 56 [.int .i64 a, .int .i64 b] h (.int .i64 a) h := by
 refine qn qwT (by simp) ?_
 simp only [lcP, lnP, Nat.reduceAdd, Nat.reduceSub, List.replicate, caP, naP, List.append_nil]
 simp (disch := omega) only [qx6, go_sem, qc, dvP, mdP]
 repeat' first
  | ((first | refine qe ?_ ?_ | refine qg ?_ ?_); (next => exact rvk); simp only [go_sem]; (first | exact VLe.refl _ | refine qh ?_ | refine qd ?_ | refine ql ?_ | skip))
  | with_reducible first | refine And.intro ?_ ?_ | intro _
 all_goals try exact clz
theorem t41 (a b : Int) (h : List AObj) : qs Tryz.prog 57 [.int .i64 a, .int .i64 b] h (.int .i64 b) h := by
 refine qn qwU (by simp) ?_
 simp only [lcP, lnP, Nat.reduceAdd, Nat.reduceSub, List.replicate, caP, naP, List.append_nil]
 simp (disch := omega) only [qx7, go_sem, qc, dvP, mdP]
 repeat' first
  | ((first | refine qe ?_ ?_ | refine qg ?_ ?_); (next => exact rvk); simp only [go_sem]; (first | exact VLe.refl _ | refine qh ?_ | refine qd ?_ | refine ql ?_ | skip))
  | with_reducible first | refine And.intro ?_ ?_ | intro _
 all_goals try exact clz
theorem t12 (l : List It) (ls : List Ln) (h : List AObj) (hl : l.length ≤ 100000) (hls : ls.length ≤ 100000) : qs Tryz.prog 19 [qt l, qD ls] h (.tup [jB (kH (fun a _ => a) l ls).2, .int .i64 (kH (fun a _ => a) l ls).1]) h := by
 have c38 := fun h => t38 (fun a _ => a) 56 l ls h hl hls t39
 obtain ⟨A, hA⟩ : ∃ A, A = (kH (fun a _ => a) l ls).2 := ⟨_, rfl⟩
 obtain ⟨e, he⟩ : ∃ e, e = (kH (fun a _ => a) l ls).1 := ⟨_, rfl⟩
 rw [← hA, ← he] at c38 ⊢
 refine qn qwC (by simp) ?_
 simp only [lcP, lnP, Nat.reduceAdd, Nat.reduceSub, List.replicate, caP, naP, List.append_nil]
 simp (disch := omega) only [qxQ, qD, go_sem, qc, dvP, mdP]
 repeat' first
  | ((first | refine qj (c38 _) ?_ ?_); (next => exact flk); simp (disch := omega) only [qD, go_sem, qc, dvP, mdP])
  | ((first | refine qo (fun _ => c38 _) ?_ ?_); (next => exact flk); simp (disch := omega) only [qD, go_sem, qc, dvP, mdP])
  | ((first | refine qk (fun e => ⟨?_, c38 _⟩) ?_); (next => exact flk); simp (disch := omega) only [qD, go_sem, qc, dvP, mdP])
  | ((first | refine qe ?_ ?_ | refine qg ?_ ?_); (next => exact rvk); simp only [go_sem]; (first | exact VLe.refl _ | refine qh ?_ | refine qd ?_ | refine ql ?_ | skip))
  | with_reducible first | refine And.intro ?_ ?_ | intro _
 all_goals try exact clz
theorem t14 (l : List It) (ls : List Ln) (h : List AObj) (hl : l.length ≤ 100000) (hls : ls.length ≤ 100000) : qs Tryz.prog 20 [qt l, qD ls] h (.tup [jB (kH (fun _ b => b) l ls).2, .int .i64 (kH (fun _ b => b) l ls).1]) h := by
 have c38 := fun h => t38 (fun _ b => b) 57 l ls h hl hls t41
 obtain ⟨A, hA⟩ : ∃ A, A = (kH (fun _ b => b) l ls).2 := ⟨_, rfl⟩
 obtain ⟨e, he⟩ : ∃ e, e = (kH (fun _ b => b) l ls).1 := ⟨_, rfl⟩
 rw [← hA, ← he] at c38 ⊢
 refine qn qwD (by simp) ?_
 simp only [lcP, lnP, Nat.reduceAdd, Nat.reduceSub, List.replicate, caP, naP, List.append_nil]
 simp (disch := omega) only [qxR, qD, go_sem, qc, dvP, mdP]
 repeat' first
  | ((first | refine qj (c38 _) ?_ ?_); (next => exact flk); simp (disch := omega) only [qD, go_sem, qc, dvP, mdP])
  | ((first | refine qo (fun _ => c38 _) ?_ ?_); (next => exact flk); simp (disch := omega) only [qD, go_sem, qc, dvP, mdP])
  | ((first | refine qk (fun e => ⟨?_, c38 _⟩) ?_); (next => exact flk); simp (disch := omega) only [qD, go_sem, qc, dvP, mdP])
  | ((first | refine qe ?_ ?_ | refine qg ?_ ?_); (next => exact rvk); simp only [go_sem]; (first | exact VLe.refl _ | refine qh ?_ | refine qd ?_ | refine ql ?_ | skip))
  | with_reducible first | refine And.intro ?_ ?_ | intro _
 all_goals try exact clz
end LN
end
section
open Go Go.Proofs AF HY P48
namespace LN
set_option maxRecDepth 100000
def qs6 (s : List UInt8) : It := { kind := 1, width := 10, stretch := 0, shrink := 0, penalty := 0, text := s }
def quW : It := { kind := 2, width := 5, stretch := 0, shrink := 0, penalty := 0, text := [] }
def qyS : It := { kind := 3, width := 5, stretch := 0, shrink := 0, penalty := 50, text := [61] }
def exL : List It := [qs6 [100, 101, 117, 115], quW, qs6 [101], qyS, qs6 [115, 116], quW, qs6 [98, 111, 110, 117, 115]]
def qt0 : List Ln := [⟨0, 3, 0, 0, []⟩, ⟨4, 7, 0, 0, []⟩]
theorem t37 (s : List UInt8) (h : List AObj) : qs Tryz.prog 52 [.str s] h (.agg (qH (qs6 s))) h := by
 refine qn qwS (by simp) ?_
 simp only [lcP, lnP, Nat.reduceAdd, Nat.reduceSub, List.replicate, caP, naP, List.append_nil]
 simp (disch := omega) only [qx5, go_sem, qc, dvP, mdP]
 repeat' first
  | ((first | refine qe ?_ ?_ | refine qg ?_ ?_); (next => exact rvk); simp only [go_sem]; (first | exact VLe.refl _ | refine qh ?_ | refine qd ?_ | refine ql ?_ | skip))
  | with_reducible first | refine And.intro ?_ ?_ | intro _
 all_goals try exact clz
 all_goals exact VLe.refl _
theorem qoM : kH (fun a _ => a) exL qt0 = (0, [1, 1, 2]) := by decide +kernel
theorem qrI : kH (fun _ b => b) exL qt0 = (0, [1, 2, 2]) := by decide +kernel
theorem qt1 : qjN (fun n => qft n.toNat) [[99, 102, 46, 32, 64, 97]] [[97]] [12] = (0, [[99, 102, 46, 32, 49, 50]]) := by decide +kernel
end LN
end
section
open Go Go.Proofs AF HY P48
namespace LN
set_option maxRecDepth 100000
theorem qyr (k : Nat) (H : List AObj) (hk : qK k H = some (.mem 1 3 [.int .i64 1, .int .i64 1, .int .i64 2])) : qs Tryz.prog 34 [qw [1, 1, 2], .osl k 1 1 0 3] H (.bool true) H := by
 have := qyH [1, 1, 2] [1, 1, 2] k 1 H hk (by decide)
 rwa [decide_eq_true rfl] at this
theorem qys (k : Nat) (H : List AObj) (hk : qK k H = some (.mem 1 3 [.int .i64 1, .int .i64 2, .int .i64 2])) : qs Tryz.prog 34 [qw [1, 2, 2], .osl k 1 1 0 3] H (.bool true) H := by
 have := qyH [1, 2, 2] [1, 2, 2] k 1 H hk (by decide)
 rwa [decide_eq_true rfl] at this
theorem q31 (k : Nat) (H : List AObj) (hk : qK k H = some (.mem 1 9 [.str [99, 102, 46, 32, 49, 50]])) : qs Tryz.prog 54 [qF [[99, 102, 46, 32, 49, 50]], .osl k 1 1 0 1] H (.bool true) H := qzo [[99, 102, 46, 32, 49, 50]] [[99, 102, 46, 32, 49, 50]] k 1 H hk (by decide)
set_option maxHeartbeats 8000000 in
theorem t10 (h : List AObj) : qs Tryz.prog 18 [] h (.bool true) h := by
 have c37 := fun (s : List UInt8) (h : List AObj) => t37 s h
 have e37 : ∀ s, qH (qs6 s) = [.int .i64 1, .int .i64 10, .int .i64 0, .int .i64 0, .int .i64 0, .str s] := fun _ => rfl
 refine qn qwB (by simp) ?_
 simp only [lcP, lnP, Nat.reduceAdd, Nat.reduceSub, List.replicate, caP, naP, List.append_nil]
 simp (disch := omega) only [qxP, go_sem, qc, dvP, mdP]
 repeat' first
  | ((first | refine qe ?_ ?_ | refine qg ?_ ?_); (next => exact rvk); simp only [go_sem]; (first | exact VLe.refl _ | refine qh ?_ | refine qd ?_ | refine ql ?_ | skip))
  | with_reducible first | refine And.intro ?_ ?_ | intro _
 all_goals try exact clz
 refine qgu ?T ?H ?h1 ?h2
 case h1 =>
  simp (disch := omega) only [go_sem, qc, dvP, mdP]
  repeat' first
   | (refine qcR (fun _ => c37 _ _) ⟨rfl, rfl, trivial⟩ ?_; simp (disch := omega) only [e37, qM, go_sem])
   | with_reducible first | refine And.intro ?_ ?_ | intro _
  all_goals first
   | omega
   | rfl
   | (simp; done)
   | skip
 case h2 =>
 simp (disch := omega) only [qM, go_sem, qc, dvP, mdP]
 repeat' first
  | ((first | refine qe ?_ ?_ | refine qg ?_ ?_); (next => exact rvk); simp only [go_sem]; (first | exact VLe.refl _ | refine qh ?_ | refine qd ?_ | refine ql ?_ | skip))
  | with_reducible first | refine And.intro ?_ ?_ | intro _
 all_goals try exact clz
 refine ⟨qu 73 [(4, qt exL), (5, qD qt0)], _, Wk.trans (Wk.freeze [h.length + 2, h.length + 3] ?_) (Wk.temps ?_), ?_⟩
 ·simp only [qa6, go_sem]
 ·simp only [List.map, qu, List.foldl, List.replicate, go_sem, qr, qp, qm, qq]
  have m2 : [h.length + 2, h.length + 3].contains (h.length + 2) = true := by simp
  have m3 : [h.length + 2, h.length + 3].contains (h.length + 3) = true := by simp
  rw [if_pos m2, if_pos m2, if_pos m3, if_pos m3]
  refine ⟨VLe.sl_eq rfl (fun i hi => ?_), VLe.sl_eq rfl (fun i hi => ?_)⟩
  ·match i, hi with
   | 0, _ => rfl
   | 1, _ => rfl
   | 2, _ => rfl
   | 3, _ => rfl
   | 4, _ => rfl
   | 5, _ => rfl
   | 6, _ => rfl
   | n + 7, hi => exact absurd hi (by omega)
  ·match i, hi with
   | 0, _ => rfl
   | 1, _ => rfl
   | n + 2, hi => exact absurd hi (by omega)
 have c12 := fun h => t12 exL qt0 h (by decide) (by decide)
 have c14 := fun h => t14 exL qt0 h (by decide) (by decide)
 rw [qoM] at c12
 rw [qrI] at c14
 have n1 : jB [1, 1, 2] = qw [1, 1, 2] := rfl
 have n2 : jB [1, 2, 2] = qw [1, 2, 2] := rfl
 simp only [n1] at c12
 simp only [n2] at c14
 simp only [qgB, qu, List.foldl, List.replicate, go_sem]
 repeat' first
  | ((first | refine qj (c12 _) ?_ ?_ | refine qj (c14 _) ?_ ?_); (next => exact flk); simp (disch := omega) only [qM, go_sem, qc, dvP, mdP])
  | ((first | refine qo (fun _ => c12 _) ?_ ?_ | refine qo (fun _ => c14 _) ?_ ?_); (next => exact flk); simp (disch := omega) only [qM, go_sem, qc, dvP, mdP])
  | ((first | refine qk (fun e => ⟨?_, c12 _⟩) ?_ | refine qk (fun e => ⟨?_, c14 _⟩) ?_); (next => exact flk); simp (disch := omega) only [qM, go_sem, qc, dvP, mdP])
  | ((first | refine qe ?_ ?_ | refine qg ?_ ?_); (next => exact rvk); simp only [go_sem]; (first | exact VLe.refl _ | refine qh ?_ | refine qd ?_ | refine ql ?_ | skip))
  | with_reducible first | refine And.intro ?_ ?_ | intro _
 all_goals try exact clz
 refine qV (qyR [h.length + 4, h.length + 5, h.length + 6] (by simp only [qa6, go_sem]) (qs.le (t21 (fun n => qft n.toNat) [[99, 102, 46, 32, 64, 97]] [[97]] [12] _ (by decide) (by decide) (by decide) ?_ ?_ ?_) ?_ (VLe.refl _))) ⟨rfl, rfl, rfl, trivial⟩ ?_
 ·intro i hi
  match i, hi with
  | 0, _ => decide
  | n + 1, hi => exact absurd hi (by simp)
 ·intro i hi
  match i, hi with
  | 0, _ => decide
  | n + 1, hi => exact absurd hi (by simp)
 ·intro n hn _ _
  simp at hn
  subst hn
  exact ⟨by decide, fun l => qzj 12 _ (by decide)⟩
 ·have m4 : [h.length + 4, h.length + 5, h.length + 6].contains (h.length + 4) = true := by simp
  have m5 : [h.length + 4, h.length + 5, h.length + 6].contains (h.length + 5) = true := by simp
  have m6 : [h.length + 4, h.length + 5, h.length + 6].contains (h.length + 6) = true := by simp
  simp only [qdm, List.map, go_sem]
  rw [if_pos m4, if_pos m4, if_pos m5, if_pos m5, if_pos m6, if_pos m6]
  refine zN (VLe.sl_eq rfl (fun i hi => ?_)) (zN (VLe.sl_eq rfl (fun i hi => ?_)) (zN (VLe.sl_eq rfl (fun i hi => ?_)) jR.nil))
  ·obtain rfl : i = 0 := by omega
   rfl
  ·obtain rfl : i = 0 := by omega
   rfl
  ·obtain rfl : i = 0 := by omega
   rfl
 ·rw [qt1]
  simp only [qgB, go_sem]
  repeat' first
   | ((first | refine qj ((qyr _ _ (by simp only [go_sem] <;> rfl))) ?_ ?_ | refine qj ((qys _ _ (by simp only [go_sem] <;> rfl))) ?_ ?_ | refine qj ((q31 _ _ (by simp only [go_sem] <;> rfl))) ?_ ?_); (next => exact flk); simp (disch := omega) only [qM, go_sem, qc, dvP, mdP])
   | ((first | refine qk (fun e => ⟨?_, (qyr _ _ (by simp only [go_sem] <;> rfl))⟩) ?_ | refine qk (fun e => ⟨?_, (qys _ _ (by simp only [go_sem] <;> rfl))⟩) ?_ | refine qk (fun e => ⟨?_, (q31 _ _ (by simp only [go_sem] <;> rfl))⟩) ?_); (next => exact flk); simp (disch := omega) only [qM, go_sem, qc, dvP, mdP])
   | ((first | refine qe ?_ ?_ | refine qg ?_ ?_); (next => exact rvk); simp only [go_sem]; (first | exact VLe.refl _ | refine qh ?_ | refine qd ?_ | refine ql ?_ | skip))
   | with_reducible first | refine And.intro ?_ ?_ | intro _
  all_goals try exact clz
end LN
end
section
open Go Go.Proofs AF HY P48
namespace LN
set_option maxRecDepth 100000
def qcc (l : List It) (ls : List Ln) : Bool := decide (∃ j, j < l.length ∧ 66 < (it l j).text.length) || (decide (30 < l.length) || decide (12 < ls.length))
theorem t11 (l : List It) (ls : List Ln) (h : List AObj) (hl : l.length ≤ 9223372036854775807) : qs Tryz.prog 51 [qt l, qD ls] h (.bool (qcc l ls)) h := by
 obtain ⟨R, hR⟩ : ∃ R, R = qcc l ls := ⟨_, rfl⟩
 rw [← hR]
 refine qn qwR (by simp) ?_
 simp only [lcP, lnP, Nat.reduceAdd, Nat.reduceSub, List.replicate, caP, naP, List.append_nil]
 simp (disch := omega) only [qx4, qt, qH, qD, qS, go_sem, qc, dvP, mdP]
 repeat' first
  | ((first | refine qe ?_ ?_ | refine qg ?_ ?_); (next => exact rvk); simp only [go_sem]; (first | exact VLe.refl _ | refine qh ?_ | refine qd ?_ | refine ql ?_ | skip))
  | with_reducible first | refine And.intro ?_ ?_ | intro _
 all_goals try exact clz
 refine qJ (T := fun i : Nat => qu 27 [(0, qt l), (1, qD ls), (5, .int .i64 i)]) (H := fun _ => h)
  (inv := fun i => i ≤ l.length ∧ ∀ j, j < i → (it l j).text.length ≤ 66) (m := fun i => l.length - i) 0 ⟨Nat.zero_le _, by omega⟩ (Wk.temps ?_) ?_
 ·(simp only [qt, qH, qD, qS, qu, List.foldl, List.replicate, go_sem, qr, qp, qm, qq]; try (repeat' first | (with_reducible refine And.intro ?_ ?_) | (refine qh ?_; omega) | (refine qd ?_; rfl) | exact VLe.refl _))
 rintro i ⟨i1, i2⟩ K hK
 by_cases hi : i < l.length
 ·have qi : ((i : Int) < l.length) = True := eq_true (by omega)
  by_cases hx : 66 < (it l i).text.length
  ·have qx : (66 < ((it l i).text.length : Int)) = True := eq_true (by omega)
   have hV : R = true := by
    rw [hR]
    unfold qcc
    rw [decide_eq_true (⟨i, hi, hx⟩ : ∃ j, j < l.length ∧ 66 < (it l j).text.length)]
    rfl
   rw [hV]
   simp (disch := omega) only [qu, qt, qH, qD, qS, List.foldl, List.replicate, qi, qx, go_sem, qc, dvP, mdP]
   repeat' first
    | ((first | refine qe ?_ ?_ | refine qg ?_ ?_); (next => exact rvk); simp only [go_sem]; (first | exact VLe.refl _ | refine qh ?_ | refine qd ?_ | refine ql ?_ | skip))
    | with_reducible first | refine And.intro ?_ ?_ | intro _
   all_goals try exact clz
  ·have qx : (66 < ((it l i).text.length : Int)) = False := eq_false (by omega)
   simp (disch := omega) only [qu, qt, qH, qD, qS, List.foldl, List.replicate, qi, qx, go_sem, qc, dvP, mdP]
   repeat' first
    | ((first | refine qe ?_ ?_ | refine qg ?_ ?_); (next => exact rvk); simp only [go_sem]; (first | exact VLe.refl _ | refine qh ?_ | refine qd ?_ | refine ql ?_ | skip))
    | with_reducible first | refine And.intro ?_ ?_ | intro _
   all_goals try exact clz
   refine hK _ _ (i + 1) ⟨hi, fun j hj => ?_⟩ (by omega) (Wk.temps ?_)
   ·rcases Nat.lt_succ_iff_lt_or_eq.1 hj with h | h
    ·exact i2 j h
    ·subst h; omega
   ·(simp only [qt, qH, qD, qS, qu, List.foldl, List.replicate, go_sem, qr, qp, qm, qq]; try (repeat' first | (with_reducible refine And.intro ?_ ?_) | (refine qh ?_; omega) | (refine qd ?_; rfl) | exact VLe.refl _))
 ·have e : i = l.length := by omega
  subst e
  have hV : R = (decide (30 < l.length) || decide (12 < ls.length)) := by
   rw [hR]
   unfold qcc
   rw [decide_eq_false (by rintro ⟨j, hj, hx⟩; have := i2 j hj; omega)]
   rfl
  by_cases g1 : 30 < l.length
  ·have q1 : (30 < (l.length : Int)) = True := eq_true (by omega)
   rw [hV, decide_eq_true g1]
   simp (disch := omega) only [qu, qt, qH, qD, qS, List.foldl, List.replicate, q1, go_sem, qc, dvP, mdP]
   repeat' first
    | ((first | refine qe ?_ ?_ | refine qg ?_ ?_); (next => exact rvk); simp only [go_sem]; (first | exact VLe.refl _ | refine qh ?_ | refine qd ?_ | refine ql ?_ | skip))
    | with_reducible first | refine And.intro ?_ ?_ | intro _
   all_goals try exact clz
  ·have q1 : (30 < (l.length : Int)) = False := eq_false (by omega)
   rw [hV, decide_eq_false g1]
   by_cases g2 : 12 < ls.length
   ·have q2 : (12 < (ls.length : Int)) = True := eq_true (by omega)
    rw [decide_eq_true g2]
    simp (disch := omega) only [qu, qt, qH, qD, qS, List.foldl, List.replicate, q1, q2, go_sem, qc, dvP, mdP]
    repeat' first
     | ((first | refine qe ?_ ?_ | refine qg ?_ ?_); (next => exact rvk); simp only [go_sem]; (first | exact VLe.refl _ | refine qh ?_ | refine qd ?_ | refine ql ?_ | skip))
     | with_reducible first | refine And.intro ?_ ?_ | intro _
    all_goals try exact clz
   ·have q2 : (12 < (ls.length : Int)) = False := eq_false (by omega)
    rw [decide_eq_false g2]
    simp (disch := omega) only [qu, qt, qH, qD, qS, List.foldl, List.replicate, q1, q2, go_sem, qc, dvP, mdP]
    repeat' first
     | ((first | refine qe ?_ ?_ | refine qg ?_ ?_); (next => exact rvk); simp only [go_sem]; (first | exact VLe.refl _ | refine qh ?_ | refine qd ?_ | refine ql ?_ | skip))
     | with_reducible first | refine And.intro ?_ ?_ | intro _
    all_goals try exact clz
end LN
end
section
open Go Go.Proofs AF HY P48
namespace LN
set_option maxRecDepth 100000
def qR (l : List It) (j : Nat) : Bool := decide ((it l j).kind = 1) && !qaN l j
def qhk (l : List It) (i : Nat) : Nat := ((List.range i).filter (qR l)).length
theorem qbi (l : List It) (i : Nat) : qhk l (i + 1) = qhk l i + if qR l i = true then 1 else 0 := by
 unfold qhk
 rw [List.range_succ, List.filter_append, List.length_append]
 congr 1
 simp only [List.filter_cons, List.filter_nil]
 split <;> rfl
theorem qjJ (l : List It) : ∀ i, (qB l i).1.length + (if 0 ≤ (qB l i).2.1 then 1 else 0) = qhk l i := by
 intro i
 induction i with
 | zero => simp [qB, qhk]
 | succ i ih =>
  rw [qbi, ← ih, qB]
  by_cases hk : (it l i).kind = 1
  ·rw [if_neg (fun hc => hc hk)]
   by_cases hc : qaN l i = true
   ·rw [if_pos hc]
    have e : qR l i = false := by unfold qR; rw [hc, decide_eq_true hk]; rfl
    rw [if_neg (c := qR l i = true) (by rw [e]; simp)]
    simp
   ·rw [if_neg hc]
    have e : qR l i = true := by unfold qR; rw [decide_eq_true hk]; simpa using hc
    rw [if_pos (c := qR l i = true) e]
    simp only
    rw [if_pos (show (0 : Int) ≤ (i : Int) by omega)]
    split
    ·rw [List.length_append]; rfl
    ·omega
  ·rw [if_pos hk]
   have e : qR l i = false := by unfold qR; rw [decide_eq_false hk]; rfl
   rw [if_neg (c := qR l i = true) (by rw [e]; simp)]
   simp
theorem qhf (l : List It) : (zb l).length = qhk l l.length := by
 rw [← qjJ]
 unfold zb
 split
 ·rw [List.length_append]; rfl
 ·rfl
inductive qn8 : List It → Prop
 | one {x : It} (h : x.kind = 1) : qn8 [x]
 | more {b : List It} {p x : It} (hb : qn8 b) (hp : p.kind = 3) (hq : p.penalty ≠ -10000) (hx : x.kind = 1) : qn8 (b ++ [p, x])
def qsz (s : List It) : Prop := s = [] ∨ ∃ a : It, s = [a] ∧ (a.kind = 2 ∨ a.kind = 3 ∧ a.penalty = -10000)
inductive Wds : List It → Nat → Prop
 | nil : Wds [] 0
 | snoc {l s b : List It} {n : Nat} (h : Wds l n) (hs : qsz s) (h0 : n = 0 → s = []) (hb : qn8 b) : Wds (l ++ s ++ b) (n + 1)
theorem zJ {l m : List It} {i : Nat} (h : i < l.length) : it (l ++ m) i = it l i := by
 unfold it; rw [List.getD_eq_getElem?_getD, List.getD_eq_getElem?_getD, List.getElem?_append_left h]
theorem qbp {l m : List It} {i : Nat} : it (l ++ m) (l.length + i) = it m i := by
 unfold it; rw [List.getD_eq_getElem?_getD, List.getD_eq_getElem?_getD, List.getElem?_append_right (by omega), Nat.add_sub_cancel_left]
theorem qe9 {l m : List It} {i : Nat} (h : i < l.length) : qaN (l ++ m) i = qaN l i := by
 unfold qaN
 by_cases g : 2 ≤ i
 ·rw [zJ (i := i - 1) (by omega), zJ (i := i - 2) (by omega)]
 ·rw [decide_eq_false g]; rfl
theorem qk7 {l m : List It} : ∀ i, i ≤ l.length → qhk (l ++ m) i = qhk l i := by
 intro i
 induction i with
 | zero => intro _; rfl
 | succ i ih =>
  intro h
  rw [qbi, qbi, ih (by omega)]
  have : qR (l ++ m) i = qR l i := by unfold qR; rw [zJ (by omega), qe9 (by omega)]
  rw [this]
theorem qcB {l : List It} {x : It} : qhk (l ++ [x]) (l ++ [x]).length = qhk l l.length + if qR (l ++ [x]) l.length = true then 1 else 0 := by
 rw [List.length_append, List.length_singleton, qbi, qk7 _ (Nat.le_refl _)]
def qc4 (l : List It) : Prop := 0 < l.length ∧ (it l (l.length - 1)).kind = 1
theorem jb {l : List It} {x : It} : it (l ++ [x]) l.length = x := by
 have := qbp (l := l) (m := [x]) (i := 0)
 rw [Nat.add_zero] at this
 rw [this]
 rfl
theorem qol {l : List It} (hl : ∀ x, x.kind = 1 → qR (l ++ [x]) l.length = true) {b : List It} (hb : qn8 b) : qhk (l ++ b) (l ++ b).length = qhk l l.length + 1 ∧ qc4 (l ++ b) := by
 induction hb with
 | one h =>
  rw [qcB, if_pos (hl _ h)]
  refine ⟨rfl, by simp, ?_⟩
  rw [List.length_append, List.length_singleton, Nat.add_sub_cancel, jb]
  exact h
 | @more b p x hb hp hq hx ih =>
  obtain ⟨i1, i2, i3⟩ := ih
  have e : l ++ (b ++ [p, x]) = (l ++ b ++ [p]) ++ [x] := by simp
  rw [e, qcB, qcB]
  have e1 : qR (l ++ b ++ [p]) (l ++ b).length = false := by unfold qR; rw [jb, hp]; rfl
  have e2 : qR (l ++ b ++ [p] ++ [x]) (l ++ b ++ [p]).length = false := by
   have hc : qaN (l ++ b ++ [p] ++ [x]) (l ++ b ++ [p]).length = true := by
    unfold qaN
    have n1 : (l ++ b ++ [p]).length - 1 = (l ++ b).length := by simp
    have n2 : (l ++ b ++ [p]).length - 2 = (l ++ b).length - 1 := by simp; omega
    rw [n1, n2, zJ (l := l ++ b ++ [p]) (by simp), jb, zJ (l := l ++ b ++ [p]) (by simp; omega), zJ (l := l ++ b) (by omega), decide_eq_true hp, decide_eq_true hq, decide_eq_true i3]
    simp at i2 ⊢
    try omega
   unfold qR
   rw [hc]
   simp
  rw [e1, e2, i1]
  refine ⟨rfl, by simp; omega, ?_⟩
  rw [List.length_append, List.length_singleton, Nat.add_sub_cancel, jb]
  exact hx
theorem qnT {l : List It} {n : Nat} (h : Wds l n) : qhk l l.length = n ∧ (n = 0 → l = []) ∧ (0 < n → qc4 l) := by
 induction h with
 | nil => exact ⟨rfl, fun _ => rfl, fun h => by omega⟩
 | @snoc l s b n h hs h0 hb ih =>
  obtain ⟨i1, i2, i3⟩ := ih
  have hsn : qhk (l ++ s) (l ++ s).length = n := by
   rcases hs with rfl | ⟨a, rfl, ha⟩
   ·rw [List.append_nil]; exact i1
   ·rw [qcB, i1]
    have : qR (l ++ [a]) l.length = false := by
     unfold qR
     rw [jb]
     rcases ha with ha | ⟨ha, _⟩ <;> rw [ha] <;> rfl
    rw [this]; rfl
  have hst : ∀ x : It, x.kind = 1 → qR (l ++ s ++ [x]) (l ++ s).length = true := by
   intro x hx
   unfold qR
   rw [jb, decide_eq_true hx]
   have hc : qaN (l ++ s ++ [x]) (l ++ s).length = false := by
    unfold qaN
    by_cases g : 2 ≤ (l ++ s).length
    ·rw [zJ (l := l ++ s) (m := [x]) (i := (l ++ s).length - 1) (by omega)]
     have hk : decide ((it (l ++ s) ((l ++ s).length - 1)).kind = 3) = false ∨ decide ((it (l ++ s) ((l ++ s).length - 1)).penalty ≠ -10000) = false := by
      rcases hs with rfl | ⟨a, rfl, ha⟩
      ·left
       rw [List.append_nil] at g ⊢
       have hn : 0 < n := by
        rcases Nat.eq_zero_or_pos n with e | e
        ·rw [i2 e] at g; simp at g
        ·exact e
       rw [(i3 hn).2]
       rfl
      ·rw [List.length_append, List.length_singleton, Nat.add_sub_cancel, jb]
       rcases ha with ha | ⟨_, ha⟩
       ·left; rw [ha]; rfl
       ·right; rw [ha]; rfl
     rcases hk with hk | hk <;> rw [hk] <;> simp
    ·rw [decide_eq_false g]; rfl
   rw [hc]; rfl
  obtain ⟨b1, b2⟩ := qol hst hb
  exact ⟨by rw [b1, hsn], fun h => by omega, fun _ => b2⟩
theorem qsT {l : List It} {n : Nat} (h : Wds l n) : (zb l).length = n := by rw [qhf]; exact (qnT h).1
end LN
end
section
namespace P48
def qwa (l : List Item) (width : Int) : Nat → List Nat → Option Int
 | _, [] => none
 | frm, b :: r => if b = l.length then (if r = [] ∧ frm ≤ b then arc l width frm b else none)
  else if frm ≤ b ∧ b < l.length then (arc l width frm b).bind fun c => (qwa l width (b + 1) r).map (c + ·) else none
theorem qdd {l : List Item} {width : Int} (hc : ji l = 0) {frm : Nat} (hf : frm ≤ l.length) (hp : 0 ≤ (kM l width).getD frm 0) : ∃ to c, pick l (kM l width) frm (qcy l width frm) = some to ∧ frm ≤ to ∧ to ≤ l.length ∧ arc l width frm to = some c ∧
  0 ≤ qP l.length (kM l width) to ∧ c + qP l.length (kM l width) to = (kM l width).getD frm 0 := by
 have pa := qsn (width := width) hc frm hf
 rcases pa with ⟨a1, _⟩ | ⟨_, ⟨x, a2, a3, a4⟩, _⟩
 ·omega
 ·unfold pick
  cases hx : (qcy l width frm).find? (fun x => decide (0 ≤ qP l.length (kM l width) x.1 ∧ x.2 + qP l.length (kM l width) x.1 = (kM l width).getD frm 0)) with
  | none =>
   rw [List.find?_eq_none] at hx
   have := hx x a2
   simp only [decide_eq_true_eq] at this
   exact absurd ⟨a3, a4.symm⟩ this
  | some y =>
   obtain ⟨to, c⟩ := y
   have h1 := List.find?_some hx
   have h2 := List.mem_of_find?_eq_some hx
   simp only [decide_eq_true_eq] at h1
   obtain ⟨g1, g2, g3⟩ := qaE.1 h2
   exact ⟨to, c, rfl, g1, g2, g3, h1.1, h1.2⟩
theorem qom {l : List Item} {width : Int} (hc : ji l = 0) : ∀ (k frm : Nat), l.length + 1 - frm ≤ k → frm ≤ l.length → 0 ≤ (kM l width).getD frm 0 → qwa l width frm (qaI l width (kM l width) k frm) = some ((kM l width).getD frm 0) := by
 intro k
 induction k with
 | zero => intro frm h1 h2; omega
 | succ k ih =>
  intro frm h1 h2 hp
  obtain ⟨to, c, e1, g1, g2, g3, g4, g5⟩ := qdd hc h2 hp
  unfold qaI
  rw [e1]
  simp only
  split
  ·rename_i hlt
   have hb : qP l.length (kM l width) to = (kM l width).getD (to + 1) 0 := by simp [qP]; intro h; omega
   rw [hb] at g4 g5
   have := ih (to + 1) (by omega) (by omega) g4
   unfold qwa
   rw [if_neg (by omega), if_pos ⟨g1, hlt⟩, g3, this]
   simp only [Option.bind_some, Option.map_some]
   rw [g5]
  ·have e : to = l.length := by omega
   have hb : qP l.length (kM l width) to = 0 := by simp [qP, e]
   unfold qwa
   rw [if_pos e, if_pos ⟨rfl, g1⟩, g3]
   congr 1
   omega
end P48
end
section
namespace P48
def asc (l : List Item) : Int → List Int → Bool
 | _, [] => true
 | p, k :: r => (decide (0 ≤ k) && (decide (k ≤ l.length) && (decide (p < k) && qhp l k.toNat))) && asc l k r
def jX (l : List Item) (bs : List Int) : Bool := (List.range l.length).all fun i => !jx l i || bs.contains (i : Int)
def qfw (l : List Item) (bs : List Int) : Bool := decide (bs.getLast? = some (l.length : Int))
def jI (l : List Item) (bs : List Int) : Bool := qfw l bs && (asc l (-1) bs && jX l bs)
structure Line where
 frm : Int
 to : Int
 badness : Int
 change : Int
 text : List UInt8
 deriving DecidableEq, Inhabited
def j9 (l : List Item) : Nat → Nat → List UInt8
 | 0, _ => []
 | k + 1, i => (if (it l i).kind = 1 then (it l i).text else if (it l i).kind = 2 then [32] else []) ++ j9 l k (i + 1)
def qhN (l : List Item) (a b : Nat) : List UInt8 := j9 l (b - a) a ++ (if zV l b then (it l b).text else [])
def kr (l : List Item) (width : Int) (frm to : Nat) : Line :=
 ⟨qL l frm to, to, (kp l width frm to).1, (kp l width frm to).2.1, qhN l (qL l frm to) to⟩
def zK (l : List Item) (width : Int) : Nat → List Nat → Option (List Line)
 | _, [] => some []
 | frm, b :: r => if (kp l width frm b).2.2 then (zK l width (b + 1) r).map (kr l width frm b :: ·) else none
def qac (bs : List Int) : List Nat := bs.map Int.toNat
def jP (l : List Item) (width : Int) (bs : List Int) : List Line × Int :=
 if jw l width = 0 then (if jI l bs then (match zK l width 0 (qac bs) with
  | some ls => (ls, 0)
  | none => ([], 21)) else ([], 23)) else ([], jw l width)
theorem qbk {l : List Item} {a b : Nat} : qfi l a b = true ↔ ∀ i, a ≤ i → i < b → jx l i = false := by
 unfold qfi
 simp only [List.all_eq_true, List.mem_range'_1, Bool.not_eq_true']
 constructor
 ·intro h i h1 h2; exact h i ⟨h1, by omega⟩
 ·intro h i hi; exact h i hi.1 (by omega)
end P48
end

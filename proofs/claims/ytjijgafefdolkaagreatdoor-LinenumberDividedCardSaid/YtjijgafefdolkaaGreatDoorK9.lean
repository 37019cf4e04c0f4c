import Derived.Test.YtjijgafefdolkaaGreatDoorK8
import Derived.Test.YtjijgafefdolkaaGreatDoorK6
import Derived.Test.YtjijgafefdolkaaGreatDoorK3
import Derived.Test.YtjijgafefdolkaaGreatDoorK4
set_option linter.all false
set_option linter.unusedSimpArgs false
set_option linter.unusedVariables false
set_option linter.unusedSectionVars false
section
open Go Go.Proofs AF P48
open HY (bufO bufO_nil bufO_ne bytesA_app bytesA_low bufO_low bld_set bld_low bufO_if)
set_option maxRecDepth 100000
theorem Wk.nilcell {t : List AV} {h : List AObj} {k j v ver : Nat} {ty : TypeId} {cs cs' : List AV} (hk : qK k h = some (.mem ver ty cs)) (hj : qK j h = some (.emp v)) (hl : cs'.length = cs.length)
  (hc : ∀ (i : Nat) c c', cs[i]? = some c → cs'[i]? = some c' → c' = c ∨ (c = .nl ∧ ∃ sz, c' = .osl j v sz 0 0)) : Wk t h t (qN k h (.mem ver ty cs')) := by
 intro N w σ a H
 refine ⟨σ, ⟨⟨by rw [H.hr.len, zd], H.hr.inj, H.hr.lt, fun i x o hx ho => ?_⟩, H.sz, H.tm, H.df⟩, Ext.refl w σ⟩
 have hkl := zS hk
 by_cases e : i = k
 ·subst e
  have := jF (o := .mem ver ty cs') hkl
  unfold qK at this
  rw [this] at hx
  cases hx
  obtain ⟨m1, m2, b, arr, m3, m4, m5, m6, m7, m8⟩ := H.hr.obj i _ o hk ho
  refine ⟨m1, m2, b, arr, m3, m4, m5, by omega, fun n y hn hy => m7 n y (by omega) hy, fun n c' y hc' hy => ?_⟩
  have hn : n < cs.length := by have := (List.getElem?_eq_some_iff.1 hc').1; omega
  have e1 : cs[n]? = some cs[n] := List.getElem?_eq_getElem hn
  rcases hc n _ _ e1 hc' with rfl | ⟨e2, sz, rfl⟩
  ·exact m8 n _ y e1 hy
  ·have := m8 n _ y e1 hy
   rw [e2] at this
   have e3 := qcw this
   subst e3
   have hjl : j < σ.length := by rw [H.hr.len]; exact zS hj
   have ej : σ[j]? = some σ[j] := List.getElem?_eq_getElem hjl
   obtain ⟨q1, q2⟩ := H.hr.obj j _ _ hj ej
   exact .osl _ ej ⟨_, _, _, rfl⟩ (by omega) (fun _ => .inl ⟨q2, rfl, rfl, rfl⟩)
 ·unfold qN at hx
  rw [List.getElem?_set_ne (fun e' => e e'.symm)] at hx
  exact H.hr.obj i x o hx ho
def qS (x : P48.Line) : List AV := [.int .i64 x.frm, .int .i64 x.to, .int .i64 x.badness, .int .i64 x.change, .str x.text]
def qde (x : It) : List UInt8 := if x.kind = 1 then x.text else if x.kind = 2 then [32] else []
theorem qg4 (l : List It) (k i : Nat) : j9 l (k + 1) i = j9 l k i ++ qde (it l (i + k)) := by
 induction k generalizing i with
 | zero => simp [j9, qde]
 | succ k ih =>
  rw [j9, ih (i + 1), show i + 1 + k = i + (k + 1) by omega]
  conv => rhs; rw [j9]
  simp
theorem qjp (l : List It) (B : Nat) (hB : ∀ i, (it l i).text.length ≤ B) (k i : Nat) : (j9 l k i).length ≤ k * (B + 1) := by
 induction k generalizing i with
 | zero => simp [j9]
 | succ k ih =>
  rw [j9, List.length_append, Nat.succ_mul]
  have h1 := ih (i + 1)
  have h2 := hB i
  split
  ·omega
  ·split <;> simp <;> omega
theorem t44 (l : List It) (width : Int) (frm to : Nat) (h : List AObj) (hv : Valid l) (hB : ∀ i, (it l i).text.length ≤ 1000000) (w0 : 0 ≤ width) (w1 : width ≤ 1073741824) (h1 : frm ≤ to) (h2 : to ≤ l.length) :
  qs Tryz.prog 46 [qt l, .int .i64 width, .int .i64 frm, .int .i64 to] h (.tup [.agg (qS (kr l width frm to)), .bool (kp l width frm to).2.2]) h := by
 have hl := hv.len
 have hbg := qcA l h1
 obtain ⟨a, ha⟩ : ∃ a, a = qL l frm to := ⟨_, rfl⟩
 rw [← ha] at hbg
 refine qn qwO (by simp) ?_
 simp only [lcP, lnP, Nat.reduceAdd, Nat.reduceSub, List.replicate, caP, naP, List.append_nil]
 simp (disch := omega) only [qx1, qt, go_sem, qc, dvP, mdP]
 repeat' first
  | ((first | refine qj (t75 l frm to _ h1 h2 (by omega)) ?_ ?_); (next => exact flk); simp (disch := omega) only [qt, go_sem, qc, dvP, mdP])
  | ((first | refine qk (fun e => ⟨?_, t75 l frm to _ h1 h2 (by omega)⟩) ?_); (next => exact flk); simp (disch := omega) only [qt, go_sem, qc, dvP, mdP])
  | ((first | refine qe ?_ ?_ | refine qg ?_ ?_); (next => exact rvk); simp only [go_sem]; (first | exact VLe.refl _ | refine qh ?_ | refine qd ?_ | refine ql ?_ | skip))
  | with_reducible first | refine And.intro ?_ ?_ | intro _
 all_goals first
  | omega
  | skip
 rw [← ha]
 show ∃ t' h', Wk _ _ t' h' ∧ _
 refine ⟨_, _, Wk.nilcell (k := h.length + 2) (j := h.length + 4) (v := 0) (ver := 1) (ty := 122) (cs := [.nilp, .nl]) (cs' := [.nilp, .osl (h.length + 4) 0 1 0 0]) (by simp only [go_sem]) (by simp only [go_sem]) rfl ?_, ?_⟩
 ·intro i c c' hc hc'
  match i, hc, hc' with
  | 0, hc, hc' => left; simp at hc hc'; rw [← hc, ← hc']
  | 1, hc, hc' => right; simp at hc hc'; exact ⟨hc.symm, 1, hc'.symm⟩
 simp (disch := omega) only [qt, qH, go_sem, qc, dvP, mdP]
 repeat' first
  | ((first | refine qe ?_ ?_ | refine qg ?_ ?_); (next => exact rvk); simp only [go_sem]; (first | exact VLe.refl _ | refine qh ?_ | refine qd ?_ | refine ql ?_ | skip))
  | with_reducible first | refine And.intro ?_ ?_ | intro _
 all_goals first
  | omega
  | skip
 refine qJ (T := fun i : Nat × AObj × AV × Nat => qu 77 [(0, qt l), (1, .int .i64 width), (2, .int .i64 a), (3, .int .i64 to), (8, .op h.length 1 0), (10, .op (h.length + 1) 1 0), (11, .op (h.length + 2) 1 0), (24, .sl (to - a) fun i => qH (it l (a + i))), (25, .int .i64 ((to - a : Nat) : Int)), (26, .int .i64 i.1)])
  (H := fun i => h ++ [.mem 1 49 [.int .i64 0, .int .i64 0, .int .i64 0, .int .i64 0, .str []], .mem 1 111 (qbT (kZ Item.width l i.1 a) (kZ Item.stretch l i.1 a) (kZ Item.shrink l i.1 a)),
   .mem 1 122 [i.2.2.1, .osl (h.length + 4) i.2.2.2 1 0 (j9 l i.1 a).length], i.2.1, bufO i.2.2.2 (j9 l i.1 a)])
  (inv := fun i => i.1 ≤ to - a ∧ zc [i.2.1] 0 = true ∧ (i.2.2.1 = .nilp ∨ i.2.2.1 = .op (h.length + 2) 1 0)) (m := fun i => to - a - i.1) (0, .emp 0, .nilp, 0) ⟨Nat.zero_le _, rfl, .inl rfl⟩ (Wk.temps ?_) ?_
 ·simp only [qt, qH, qu, List.foldl, List.replicate, go_sem, qr, qp, qm, qq]
  try (repeat' first | (with_reducible refine And.intro ?_ ?_) | (refine qh ?_; omega) | (refine qd ?_; rfl))
 ·rintro ⟨i, O, A, v⟩ ⟨i1, i2, i3⟩ K hK
  simp only at i1 i2 i3 hK
  have i2' : ∀ m, zc (O :: m) 0 = true := fun _ => i2
  have q1 := k9 Item.width l (fun i => (hv.num i).1) i a
  have q2 := k9 Item.stretch l (fun i => (hv.num i).2.1) i a
  have q3 := k9 Item.shrink l (fun i => (hv.num i).2.2.1) i a
  have q4 := qjp l 1000000 hB i a
  have q5 : i * (1000000 + 1) ≤ 300 * 1000001 := Nat.mul_le_mul_right _ (by omega)
  obtain ⟨s, hs⟩ : ∃ s, s = j9 l i a := ⟨_, rfl⟩
  have hsl : s.length ≤ 300300300 := by rw [hs]; omega
  by_cases hi : i < to - a
  ·have ok := hv.ok (a + i) (by omega)
   have hBi := hB (a + i)
   have key : ∀ (A' : AV) (v' : Nat), (A' = .nilp ∨ A' = .op (h.length + 2) 1 0) → ∀ t', jR t' (qu 77 [(0, qt l), (1, .int .i64 width), (2, .int .i64 a), (3, .int .i64 to), (8, .op h.length 1 0), (10, .op (h.length + 1) 1 0), (11, .op (h.length + 2) 1 0), (24, .sl (to - a) fun i => qH (it l (a + i))), (25, .int .i64 ((to - a : Nat) : Int)), (26, .int .i64 ((i + 1 : Nat) : Int))]) →
     K t' (h ++ [.mem 1 49 [.int .i64 0, .int .i64 0, .int .i64 0, .int .i64 0, .str []], .mem 1 111 (qbT (kZ Item.width l i a + sel (it l (a + i)) Item.width) (kZ Item.stretch l i a + sel (it l (a + i)) Item.stretch) (kZ Item.shrink l i a + sel (it l (a + i)) Item.shrink)),
      .mem 1 122 [A', .osl (h.length + 4) v' 1 0 (s ++ qde (it l (a + i))).length], .mem (qz (some O) + 1) 58 (qH (it l (a + i))), bufO v' (s ++ qde (it l (a + i)))]) := by
    intro A' v' hA' t' ht'
    refine hK t' _ (i + 1, .mem (qz (some O) + 1) 58 (qH (it l (a + i))), A', v') ⟨hi, rfl, hA'⟩ (by simp only; omega) ?_
    rw [hs]
    simp only [qec, qg4]
    exact Wk.temps ht'
   simp (disch := omega) only [qu, qt, List.foldl, List.replicate, i2', go_sem, qc, dvP, mdP]
   rw [← hs]
   repeat' first
    | ((first | refine qe ?_ ?_ | refine qg ?_ ?_); (next => exact rvk); simp only [go_sem]; (first | exact VLe.refl _ | refine qh ?_ | refine qd ?_ | refine ql ?_ | skip))
    | with_reducible first | refine And.intro ?_ ?_ | intro _
   all_goals first
    | omega
    | skip
   refine qV (t77 (h.length + 1) 1 _ _ _ (it l (a + i)) _ (by simp only [go_sem]) ok q1.1 (by omega) q2.1 (by omega) q3.1 (by omega)) ⟨rfl, rfl, trivial⟩ ?_
   have hkk : (it l (a + i)).kind = 1 ∨ (it l (a + i)).kind = 2 ∨ (it l (a + i)).kind = 3 := by have := ok.k1; have := ok.k3; omega
   have e0 : (qH (it l (a + i)))[0]? = some (.int .i64 (it l (a + i)).kind) := rfl
   have e5 : (qH (it l (a + i)))[5]? = some (.str (it l (a + i)).text) := rfl
   rcases hkk with hkd | hkd | hkd
   ·have hp : qde (it l (a + i)) = (it l (a + i)).text := by simp [qde, hkd]
    simp only [hp, List.length_append] at key
    simp (disch := omega) only [e0, e5, hkd, eq_self, go_sem, qc, dvP, mdP]
    repeat' first
     | (refine qV (t78 (h.length + 2) 1 (h.length + 4) v A s (it l (a + i)).text _ (by omega) (by simp only [go_sem]) i3 (by simp only [go_sem]) (by omega)) ⟨rfl, rfl, trivial⟩ ?_; simp (disch := omega) only [go_sem, qc])
     | (with_reducible refine And.intro ?_ ?_)
     | (with_reducible intro _)
    all_goals first
     | omega
     | skip
    refine key (.op (h.length + 2) 1 0) (v + 1) (.inr rfl) _ ?_
    simp only [qt, qH, qu, List.foldl, List.replicate, go_sem, qr, qp, qm, qq]
    try (repeat' first | (with_reducible refine And.intro ?_ ?_) | (refine qh ?_; omega) | (refine qd ?_; rfl))
   ·have hp : qde (it l (a + i)) = [32] := by simp [qde, hkd]
    simp only [hp, List.length_append, List.length_singleton] at key
    simp (disch := omega) only [e0, e5, hkd, eq_self, go_sem, qc, dvP, mdP]
    repeat' first
     | (refine qV (t79 (h.length + 2) 1 (h.length + 4) v A s 32 _ (by omega) (by simp only [go_sem]) i3 (by simp only [go_sem]) (by omega)) ⟨rfl, rfl, trivial⟩ ?_; simp (disch := omega) only [go_sem, qc])
     | (with_reducible refine And.intro ?_ ?_)
     | (with_reducible intro _)
    all_goals first
     | omega
     | skip
    refine key (.op (h.length + 2) 1 0) (v + 1) (.inr rfl) _ ?_
    simp only [qt, qH, qu, List.foldl, List.replicate, go_sem, qr, qp, qm, qq]
    try (repeat' first | (with_reducible refine And.intro ?_ ?_) | (refine qh ?_; omega) | (refine qd ?_; rfl))
   ·have hp : qde (it l (a + i)) = [] := by simp [qde, hkd]
    simp only [hp, List.append_nil] at key
    simp (disch := omega) only [e0, e5, hkd, eq_self, go_sem, qc, dvP, mdP]
    repeat' first
     | (with_reducible refine And.intro ?_ ?_)
     | (with_reducible intro _)
    all_goals first
     | omega
     | skip
    refine key A v i3 _ ?_
    simp only [qt, qH, qu, List.foldl, List.replicate, go_sem, qr, qp, qm, qq]
    try (repeat' first | (with_reducible refine And.intro ?_ ?_) | (refine qh ?_; omega) | (refine qd ?_; rfl))
  ·have e : i = to - a := by omega
   subst e
   have e1 : ∀ f, kZ f l (to - a) a = zM f l a to := fun _ => rfl
   simp only [e1] at q1 q2 q3 ⊢
   rw [← hs]
   have p1 := (hv.num to).2.2.2
   have hfit : fit l width (zM Item.width l a to) (zM Item.stretch l a to) (zM Item.shrink l a to) to = kp l width frm to := by rw [ha]; rfl
   have hmk : kr l width frm to = ⟨a, to, (kp l width frm to).1, (kp l width frm to).2.1, s ++ (if zV l to then (it l to).text else [])⟩ := by
    unfold kr qhN; rw [← ha, hs]
   have e0 : (qH (it l to))[0]? = some (.int .i64 (it l to).kind) := rfl
   have e5 : (qH (it l to))[5]? = some (.str (it l to).text) := rfl
   simp (disch := omega) only [qu, List.foldl, List.replicate, qt, e0, e5, go_sem, qc, dvP, mdP]
   refine ⟨fun hc => absurd hc (by omega), fun _ => ?_⟩
   repeat' first
    | (refine qV (t78 (h.length + 2) 1 (h.length + 4) v A s (it l to).text _ (by omega) (by simp only [go_sem]) i3 (by simp only [go_sem]) (by have := hB to; omega)) ⟨rfl, rfl, trivial⟩ ?_; simp (disch := omega) only [go_sem, qc])
    | (refine qj (t76 l width _ _ _ to _ hv w0 w1 q1.1 (by omega) q2.1 (by omega) q3.1 (by omega)) ⟨rfl, rfl, rfl, rfl, trivial⟩ ?_; simp (disch := omega) only [hfit, qlt, go_sem, qc])
    | (with_reducible refine And.intro ?_ ?_)
    | (with_reducible intro _)
   all_goals first
    | omega
    | skip
   all_goals first
    | (simp [qH]; done)
    | (simp [qbT]; done)
    | skip
   ·rename_i hbk
    have hab : zV l to = true := by unfold zV; simp only [Bool.and_eq_true, decide_eq_true_eq]; omega
    refine qV (t80 (h.length + 2) 1 (h.length + 4) (v + 1) (.op (h.length + 2) 1 0) (s ++ (it l to).text) _ (by omega) (by simp only [go_sem, List.length_append]) (by simp only [go_sem])) ⟨rfl, trivial⟩ ?_
    simp (disch := omega) only [go_sem, qc, dvP, mdP]
    repeat' first
     | ((first | refine qe ?_ ?_ | refine qg ?_ ?_); (next => exact rvk); simp only [go_sem]; (first | exact VLe.refl _ | refine qh ?_ | refine qd ?_ | refine ql ?_ | skip))
     | with_reducible first | refine And.intro ?_ ?_ | intro _
    all_goals first
     | omega
     | skip
    rw [hmk, hab]
    exact VLe.refl _
   ·rename_i hbk
    have hab : zV l to = false := by
     cases hx : zV l to with
     | false => rfl
     | true => unfold zV at hx; simp only [Bool.and_eq_true, decide_eq_true_eq] at hx; omega
    refine qV (t80 (h.length + 2) 1 (h.length + 4) v A s _ (by omega) (by simp only [go_sem]) (by simp only [go_sem])) ⟨rfl, trivial⟩ ?_
    simp (disch := omega) only [go_sem, qc, dvP, mdP]
    repeat' first
     | ((first | refine qe ?_ ?_ | refine qg ?_ ?_); (next => exact rvk); simp only [go_sem]; (first | exact VLe.refl _ | refine qh ?_ | refine qd ?_ | refine ql ?_ | skip))
     | with_reducible first | refine And.intro ?_ ?_ | intro _
    all_goals first
     | omega
     | skip
    rw [hmk, hab]
    simp only [Bool.false_eq_true, if_false, List.append_nil]
    exact VLe.refl _
end
section
open Go Go.Proofs AF P48
open HY (bufO bufO_nil bufO_ne bytesA_app bytesA_low bufO_low bld_set bld_low bufO_if)
set_option maxRecDepth 100000
def qct (bs : List Int) (x : Int) : Nat → Nat → Int
 | 0, _ => -1
 | k + 1, i => if bs.getD i 0 = x then i else qct bs x k (i + 1)
theorem qlN (bs : List Int) (x : Int) : ∀ (k i : Nat), -1 ≤ qct bs x k i ∧ (0 ≤ qct bs x k i ↔ ∃ j, i ≤ j ∧ j < i + k ∧ bs.getD j 0 = x) := by
 intro k
 induction k with
 | zero => intro i; simp only [qct]; refine ⟨by omega, fun h => by omega, ?_⟩; rintro ⟨j, h1, h2, _⟩; omega
 | succ k ih =>
  intro i
  simp only [qct]
  split
  ·rename_i h
   exact ⟨by omega, fun _ => ⟨i, by omega, by omega, h⟩, fun _ => by omega⟩
  ·rename_i h
   refine ⟨(ih (i + 1)).1, (ih (i + 1)).2.trans ⟨?_, ?_⟩⟩
   ·rintro ⟨j, h1, h2, h3⟩; exact ⟨j, by omega, by omega, h3⟩
   ·rintro ⟨j, h1, h2, h3⟩
    by_cases e : j = i
    ·subst e; exact absurd h3 h
    ·exact ⟨j, by omega, by omega, h3⟩
theorem qfl (bs : List Int) (x : Int) : decide (0 ≤ qct bs x bs.length 0) = bs.contains x := by
 rw [Bool.eq_iff_iff, decide_eq_true_eq, (qlN bs x _ _).2, List.contains_iff_mem, List.mem_iff_getElem]
 constructor
 ·rintro ⟨j, _, h2, h3⟩; exact ⟨j, by omega, by simpa [List.getD_eq_getElem?_getD, show j < bs.length by omega] using h3⟩
 ·rintro ⟨j, h2, h3⟩; exact ⟨j, by omega, by omega, by simpa [List.getD_eq_getElem?_getD, h2] using h3⟩
theorem t47 (bs : List Int) (x : Int) (h : List AObj) (hl : bs.length ≤ 1000000) : qs Tryz.prog 112 [zz bs, .int .i64 x] h (.int .i64 (qct bs x bs.length 0)) h := by
 refine qn quc (by simp) ?_
 simp only [lcP, lnP, Nat.reduceAdd, Nat.reduceSub, List.replicate, caP, naP, List.append_nil]
 simp (disch := omega) only [qtq, zz, go_sem, qc, dvP, mdP]
 refine qJ (T := fun i : Nat => qu 19 [(0, zz bs), (1, .int .i64 x), (6, zz bs), (7, .int .i64 bs.length), (8, .int .i64 i)]) (H := fun _ => h) (inv := fun i => i ≤ bs.length ∧ qct bs x bs.length 0 = qct bs x (bs.length - i) i) (m := fun i => bs.length - i) 0 ⟨by omega, rfl⟩ (Wk.temps ?_) ?_
 ·(simp only [qt, zz, qu, List.foldl, List.replicate, go_sem, qr, qp, qm, qq]; try (repeat' first | (with_reducible refine And.intro ?_ ?_) | (refine qh ?_; omega) | (refine qd ?_; rfl) | exact VLe.refl _))
 ·rintro i ⟨i1, i2⟩ K hK
  rw [i2]
  by_cases hi : i < bs.length
  ·rw [show bs.length - i = (bs.length - (i + 1)) + 1 by omega] at i2 ⊢
   by_cases e : bs.getD i 0 = x
   ·simp (disch := omega) only [qu, List.foldl, List.replicate, zz, e, go_sem, qc, dvP, mdP]
    repeat' first
     | ((first | refine qe ?_ ?_ | refine qg ?_ ?_); (next => exact rvk); simp only [go_sem]; (first | exact VLe.refl _ | refine qh ?_ | refine qd ?_ | refine ql ?_ | skip))
     | with_reducible first | refine And.intro ?_ ?_ | intro _
    all_goals first
     | omega
     | skip
    simp only [qct, if_pos e]
   ·have e' : ¬ x = bs.getD i 0 := fun h => e h.symm
    simp (disch := omega) only [qu, List.foldl, List.replicate, zz, e', go_sem, qc, dvP, mdP]
    repeat' first
     | ((first | refine qe ?_ ?_ | refine qg ?_ ?_); (next => exact rvk); simp only [go_sem]; (first | exact VLe.refl _ | refine qh ?_ | refine qd ?_ | refine ql ?_ | skip))
     | with_reducible first | refine And.intro ?_ ?_ | intro _
    all_goals first
     | omega
     | skip
    refine hK _ _ (i + 1) ⟨by omega, ?_⟩ (by omega) (Wk.temps ?_)
    ·rw [i2]; simp only [qct, if_neg e]
    ·(simp only [qt, zz, qu, List.foldl, List.replicate, go_sem, qr, qp, qm, qq]; try (repeat' first | (with_reducible refine And.intro ?_ ?_) | (refine qh ?_; omega) | (refine qd ?_; rfl) | exact VLe.refl _))
  ·have e : i = bs.length := by omega
   subst e
   simp (disch := omega) only [qu, List.foldl, List.replicate, zz, go_sem, qc, dvP, mdP]
   repeat' first
    | ((first | refine qe ?_ ?_ | refine qg ?_ ?_); (next => exact rvk); simp only [go_sem]; (first | exact VLe.refl _ | refine qh ?_ | refine qd ?_ | refine ql ?_ | skip))
    | with_reducible first | refine And.intro ?_ ?_ | intro _
   all_goals first
    | omega
    | skip
   simp only [Nat.sub_self, qct]
theorem t17 (bs : List Int) (x : Int) (h : List AObj) (hl : bs.length ≤ 1000000) : qs Tryz.prog 77 [zz bs, .int .i64 x] h (.bool (bs.contains x)) h := by
 rw [← qfl]
 refine qn qw4 (by simp) ?_
 simp only [lcP, lnP, Nat.reduceAdd, Nat.reduceSub, List.replicate, caP, naP, List.append_nil]
 simp (disch := omega) only [qyh, go_sem, qc, dvP, mdP]
 repeat' first
  | ((first | refine qj (t47 bs x _ hl) ?_ ?_); (next => exact flk); simp (disch := omega) only [go_sem, qc, dvP, mdP])
  | ((first | refine qk (fun e => ⟨?_, t47 bs x _ hl⟩) ?_); (next => exact flk); simp (disch := omega) only [go_sem, qc, dvP, mdP])
  | ((first | refine qe ?_ ?_ | refine qg ?_ ?_); (next => exact rvk); simp only [go_sem]; (first | exact VLe.refl _ | refine qh ?_ | refine qd ?_ | refine ql ?_ | skip))
  | with_reducible first | refine And.intro ?_ ?_ | intro _
 all_goals first
  | omega
  | trace_state
def qa1 (bs : List Int) (i : Nat) : Int := if i = 0 then -1 else bs.getD (i - 1) 0
theorem qcz (l : List It) (bs : List Int) (i : Nat) (h : i < bs.length) : asc l (qa1 bs i) (bs.drop i) = ((decide (0 ≤ bs.getD i 0) && (decide (bs.getD i 0 ≤ l.length) && (decide (qa1 bs i < bs.getD i 0) && qhp l (bs.getD i 0).toNat))) && asc l (qa1 bs (i + 1)) (bs.drop (i + 1))) := by
 rw [List.drop_eq_getElem_cons h]
 have e : bs[i] = bs.getD i 0 := by simp [List.getD_eq_getElem?_getD, h]
 have e2 : qa1 bs (i + 1) = bs.getD i 0 := by unfold qa1; rw [if_neg (by omega)]; rfl
 rw [e, e2]
 rfl
theorem qfx {bs : List Int} (h : bs.length ≠ 0) (n : Int) : decide (bs.getLast? = some n) = decide (bs.getD (bs.length - 1) 0 = n) := by
 rw [List.getLast?_eq_getElem?, List.getD_eq_getElem?_getD, List.getElem?_eq_getElem (by omega)]
 simp
theorem qdV {l : List It} {bs : List Int} : jX l bs = true ↔ ∀ j, j < l.length → (!jx l j || bs.contains (j : Int)) = true := by
 unfold jX
 rw [List.all_eq_true]
 simp only [List.mem_range]
set_option maxHeartbeats 2000000 in
theorem t46 (l : List It) (bs : List Int) (h : List AObj) (hl : l.length ≤ 300) (hb : bs.length ≤ 1000000) : qs Tryz.prog 45 [qt l, zz bs] h (.bool (jI l bs)) h := by
 by_cases h0 : bs.length = 0
 ·have e : bs = [] := List.eq_nil_of_length_eq_zero h0
  subst e
  refine qn qrV (by simp) ?_
  simp only [lcP, lnP, Nat.reduceAdd, Nat.reduceSub, List.replicate, caP, naP, List.append_nil]
  simp (disch := omega) only [qv7, qt, zz, List.length_nil, go_sem, qc, dvP, mdP]
  repeat' first
   | ((first | refine qe ?_ ?_ | refine qg ?_ ?_); (next => exact rvk); simp only [go_sem]; (first | exact VLe.refl _ | refine qh ?_ | refine qd ?_ | refine ql ?_ | skip))
   | with_reducible first | refine And.intro ?_ ?_ | intro _
  all_goals first
   | omega
   | trace_state
 ·cases hla : qfw l bs with
  | false =>
   have hx : jI l bs = false := by unfold jI; rw [hla]; rfl
   unfold qfw at hla
   rw [qfx h0, decide_eq_false_iff_not] at hla
   rw [hx]
   have ht : ((bs.length : Int) - 1).toNat = bs.length - 1 := by omega
   refine qn qrV (by simp) ?_
   simp only [lcP, lnP, Nat.reduceAdd, Nat.reduceSub, List.replicate, caP, naP, List.append_nil]
   simp (disch := omega) only [qv7, qt, zz, h0, ht, go_sem, qc, dvP, mdP]
   repeat' first
    | ((first | refine qe ?_ ?_ | refine qg ?_ ?_); (next => exact rvk); simp only [go_sem]; (first | exact VLe.refl _ | refine qh ?_ | refine qd ?_ | refine ql ?_ | skip))
    | with_reducible first | refine And.intro ?_ ?_ | intro _
   all_goals first
    | omega
    | trace_state
  | true =>
   have hx : jI l bs = (asc l (-1) bs && jX l bs) := by unfold jI; rw [hla]; rfl
   unfold qfw at hla
   rw [qfx h0, decide_eq_true_eq] at hla
   rw [hx]
   have ht : ((bs.length : Int) - 1).toNat = bs.length - 1 := by omega
   refine qn qrV (by simp) ?_
   simp only [lcP, lnP, Nat.reduceAdd, Nat.reduceSub, List.replicate, caP, naP, List.append_nil]
   simp (disch := omega) only [qv7, qt, zz, h0, ht, hla, go_sem, qc, dvP, mdP]
   repeat' first
    | ((first | refine qe ?_ ?_ | refine qg ?_ ?_); (next => exact rvk); simp only [go_sem]; (first | exact VLe.refl _ | refine qh ?_ | refine qd ?_ | refine ql ?_ | skip))
    | with_reducible first | refine And.intro ?_ ?_ | intro _
   all_goals first
    | omega
    | skip
   have hs : asc l (-1) bs = asc l (qa1 bs 0) (bs.drop 0) := rfl
   refine qJ (T := fun i : Nat => qu 72 [(0, qt l), (1, zz bs), (4, .bool false), (22, zz bs), (23, .int .i64 bs.length), (24, .int .i64 i)]) (H := fun _ => h) (inv := fun i => i ≤ bs.length ∧ asc l (-1) bs = asc l (qa1 bs i) (bs.drop i)) (m := fun i => bs.length - i) 0 ⟨by omega, hs⟩ (Wk.temps ?_) ?_
   ·(simp only [qt, zz, qu, List.foldl, List.replicate, go_sem, qr, qp, qm, qq]; try (repeat' first | (with_reducible refine And.intro ?_ ?_) | (refine qh ?_; omega) | (refine qd ?_; rfl) | exact VLe.refl _))
   ·rintro i ⟨i1, i2⟩ K hK
    by_cases hi : i < bs.length
    ·have hstep := qcz l bs i hi
     have hc42 : ∀ h : List AObj, 0 ≤ bs.getD i 0 → bs.getD i 0 ≤ l.length → qs Tryz.prog 72 [qt l, .int .i64 (bs.getD i 0)] h (.bool (qhp l (bs.getD i 0).toNat)) h := fun h a b => by
      have := t42 l (bs.getD i 0).toNat h (by omega) (by omega)
      rwa [Int.toNat_of_nonneg a] at this
     have hm1 : ((i : Int) - 1).toNat = i - 1 := by omega
     have hpv : qa1 bs i = if i = 0 then -1 else bs.getD (i - 1) 0 := rfl
     cases hen : qhp l (bs.getD i 0).toNat
     all_goals rw [hen] at hc42 hstep
     ·simp (disch := omega) only [qu, List.foldl, List.replicate, qt, zz, hm1, go_sem, qc, dvP, mdP]
      repeat' first
       | ((first | refine qj (hc42 _ (by simp only [Bool.not_eq_true', Bool.or_eq_false_iff, decide_eq_false_iff_not] at e; omega) (by simp only [Bool.not_eq_true', Bool.or_eq_false_iff, decide_eq_false_iff_not] at e; omega)) ?_ ?_); (next => exact flk); simp (disch := omega) only [go_sem, qc, dvP, mdP])
       | ((first | refine qk (fun e => ⟨?_, hc42 _ (by simp only [Bool.not_eq_true', Bool.or_eq_false_iff, decide_eq_false_iff_not] at e; omega) (by simp only [Bool.not_eq_true', Bool.or_eq_false_iff, decide_eq_false_iff_not] at e; omega)⟩) ?_); (next => exact flk); simp (disch := omega) only [go_sem, qc, dvP, mdP])
       | ((first | refine qe ?_ ?_ | refine qg ?_ ?_); (next => exact rvk); simp only [go_sem]; (first | exact VLe.refl _ | refine qh ?_ | refine qd ?_ | refine ql ?_ | skip))
       | with_reducible first | refine And.intro ?_ ?_ | intro _
      all_goals first
       | omega
       | skip
      rw [i2, hstep]
      simp
     ·simp (disch := omega) only [qu, List.foldl, List.replicate, qt, zz, hm1, go_sem, qc, dvP, mdP]
      repeat' first
       | ((first | refine qj (hc42 _ (by simp only [Bool.not_eq_true', Bool.or_eq_false_iff, decide_eq_false_iff_not] at e; omega) (by simp only [Bool.not_eq_true', Bool.or_eq_false_iff, decide_eq_false_iff_not] at e; omega)) ?_ ?_); (next => exact flk); simp (disch := omega) only [go_sem, qc, dvP, mdP])
       | ((first | refine qk (fun e => ⟨?_, hc42 _ (by simp only [Bool.not_eq_true', Bool.or_eq_false_iff, decide_eq_false_iff_not] at e; omega) (by simp only [Bool.not_eq_true', Bool.or_eq_false_iff, decide_eq_false_iff_not] at e; omega)⟩) ?_); (next => exact flk); simp (disch := omega) only [go_sem, qc, dvP, mdP])
       | ((first | refine qe ?_ ?_ | refine qg ?_ ?_); (next => exact rvk); simp only [go_sem]; (first | exact VLe.refl _ | refine qh ?_ | refine qd ?_ | refine ql ?_ | skip))
       | with_reducible first | refine And.intro ?_ ?_ | intro _
      all_goals first
       | omega
       | skip
      ·rename_i hxx
       rw [i2, hstep]
       have : (decide (0 ≤ bs.getD i 0) && (decide (bs.getD i 0 ≤ ↑l.length) && (decide (qa1 bs i < bs.getD i 0) && true))) = false := by
        rw [Bool.eq_false_iff]; intro hq; simp only [Bool.and_eq_true, decide_eq_true_eq] at hq; rw [hpv] at hq
        split at hq <;> omega
       rw [this]
       rfl
      ·rename_i hxx
       refine hK _ _ (i + 1) ⟨by omega, ?_⟩ (by omega) (Wk.temps ?_)
       ·rw [i2, hstep]
        have : (decide (0 ≤ bs.getD i 0) && (decide (bs.getD i 0 ≤ ↑l.length) && (decide (qa1 bs i < bs.getD i 0) && true))) = true := by
         simp only [Bool.and_eq_true, decide_eq_true_eq]; rw [hpv]
         refine ⟨by omega, by omega, ?_, trivial⟩
         split <;> omega
        rw [this]
        rfl
       ·(simp only [qt, zz, qu, List.foldl, List.replicate, go_sem, qr, qp, qm, qq]; try (repeat' first | (with_reducible refine And.intro ?_ ?_) | (refine qh ?_; omega) | (refine qd ?_; rfl) | exact VLe.refl _))
    ·have e : i = bs.length := by omega
     subst e
     rw [List.drop_length] at i2
     have i3 : asc l (-1) bs = true := i2
     rw [i3, Bool.true_and]
     simp (disch := omega) only [qu, List.foldl, List.replicate, qt, zz, go_sem, qc, dvP, mdP]
     refine ⟨fun hc => absurd hc (by omega), fun _ => ?_⟩
     refine qJ (T := fun i : Nat => qu 72 [(0, qt l), (1, zz bs), (4, .bool false), (57, qt l), (58, .int .i64 l.length), (59, .int .i64 i)]) (H := fun _ => h) (inv := fun i => i ≤ l.length ∧ ∀ j, j < i → (!jx l j || bs.contains (j : Int)) = true) (m := fun i => l.length - i) 0 ⟨by omega, fun j hj => absurd hj (by omega)⟩ (Wk.temps ?_) ?_
     ·(simp only [qt, zz, qu, List.foldl, List.replicate, go_sem, qr, qp, qm, qq]; try (repeat' first | (with_reducible refine And.intro ?_ ?_) | (refine qh ?_; omega) | (refine qd ?_; rfl) | exact VLe.refl _))
     ·rintro i ⟨i1, i2⟩ K hK
      by_cases hi : i < l.length
      ·cases hfo : jx l i
       ·simp (disch := omega) only [qu, List.foldl, List.replicate, qt, zz, go_sem, qc, dvP, mdP]
        repeat' first
         | ((first | refine qj (t43 l i _) ?_ ?_ | refine qj (t17 bs i _ hb) ?_ ?_); (next => exact flk); simp (disch := omega) only [hfo, go_sem, qc, dvP, mdP])
         | ((first | refine qo (fun _ => t43 l i _) ?_ ?_); (next => exact flk); simp (disch := omega) only [hfo, go_sem, qc, dvP, mdP])
         | ((first | refine qk (fun e => ⟨?_, t43 l i _⟩) ?_ | refine qk (fun e => ⟨?_, t17 bs i _ hb⟩) ?_); (next => exact flk); simp (disch := omega) only [hfo, go_sem, qc, dvP, mdP])
         | ((first | refine qe ?_ ?_ | refine qg ?_ ?_); (next => exact rvk); simp only [go_sem]; (first | exact VLe.refl _ | refine qh ?_ | refine qd ?_ | refine ql ?_ | skip))
         | with_reducible first | refine And.intro ?_ ?_ | intro _
        all_goals first
         | omega
         | (rename_i hx; revert hx; simp; done)
         | skip
        refine hK _ _ (i + 1) ⟨by omega, fun j hj => ?_⟩ (by omega) (Wk.temps ?_)
        ·by_cases ej : j = i
         ·rw [ej, hfo]; rfl
         ·exact i2 j (by omega)
        ·(simp only [qt, zz, qu, List.foldl, List.replicate, go_sem, qr, qp, qm, qq]; try (repeat' first | (with_reducible refine And.intro ?_ ?_) | (refine qh ?_; omega) | (refine qd ?_; rfl) | exact VLe.refl _))
       ·cases hco : bs.contains (i : Int)
        ·simp (disch := omega) only [qu, List.foldl, List.replicate, qt, zz, go_sem, qc, dvP, mdP]
         repeat' first
          | ((first | refine qj (t43 l i _) ?_ ?_ | refine qj (t17 bs i _ hb) ?_ ?_); (next => exact flk); simp (disch := omega) only [hfo, hco, go_sem, qc, dvP, mdP])
          | ((first | refine qo (fun _ => t43 l i _) ?_ ?_); (next => exact flk); simp (disch := omega) only [hfo, hco, go_sem, qc, dvP, mdP])
          | ((first | refine qk (fun e => ⟨?_, t43 l i _⟩) ?_ | refine qk (fun e => ⟨?_, t17 bs i _ hb⟩) ?_); (next => exact flk); simp (disch := omega) only [hfo, hco, go_sem, qc, dvP, mdP])
          | ((first | refine qe ?_ ?_ | refine qg ?_ ?_); (next => exact rvk); simp only [go_sem]; (first | exact VLe.refl _ | refine qh ?_ | refine qd ?_ | refine ql ?_ | skip))
          | with_reducible first | refine And.intro ?_ ?_ | intro _
         all_goals first
          | omega
          | skip
         have hne : jX l bs = false := by
          rw [Bool.eq_false_iff]; intro hq; have := qdV.1 hq i hi; rw [hfo, hco] at this; cases this
         rw [hne]
         all_goals trace_state
        ·simp (disch := omega) only [qu, List.foldl, List.replicate, qt, zz, go_sem, qc, dvP, mdP]
         repeat' first
          | ((first | refine qj (t43 l i _) ?_ ?_ | refine qj (t17 bs i _ hb) ?_ ?_); (next => exact flk); simp (disch := omega) only [hfo, hco, go_sem, qc, dvP, mdP])
          | ((first | refine qo (fun _ => t43 l i _) ?_ ?_); (next => exact flk); simp (disch := omega) only [hfo, hco, go_sem, qc, dvP, mdP])
          | ((first | refine qk (fun e => ⟨?_, t43 l i _⟩) ?_ | refine qk (fun e => ⟨?_, t17 bs i _ hb⟩) ?_); (next => exact flk); simp (disch := omega) only [hfo, hco, go_sem, qc, dvP, mdP])
          | ((first | refine qe ?_ ?_ | refine qg ?_ ?_); (next => exact rvk); simp only [go_sem]; (first | exact VLe.refl _ | refine qh ?_ | refine qd ?_ | refine ql ?_ | skip))
          | with_reducible first | refine And.intro ?_ ?_ | intro _
         all_goals first
          | omega
          | skip
         refine hK _ _ (i + 1) ⟨by omega, fun j hj => ?_⟩ (by omega) (Wk.temps ?_)
         ·by_cases ej : j = i
          ·rw [ej, hfo, hco]; rfl
          ·exact i2 j (by omega)
         ·(simp only [qt, zz, qu, List.foldl, List.replicate, go_sem, qr, qp, qm, qq]; try (repeat' first | (with_reducible refine And.intro ?_ ?_) | (refine qh ?_; omega) | (refine qd ?_; rfl) | exact VLe.refl _))
      ·have e : i = l.length := by omega
       subst e
       have hne : jX l bs = true := qdV.2 i2
       rw [hne]
       simp (disch := omega) only [qu, List.foldl, List.replicate, qt, zz, go_sem, qc, dvP, mdP]
       repeat' first
        | ((first | refine qe ?_ ?_ | refine qg ?_ ?_); (next => exact rvk); simp only [go_sem]; (first | exact VLe.refl _ | refine qh ?_ | refine qd ?_ | refine ql ?_ | skip))
        | with_reducible first | refine And.intro ?_ ?_ | intro _
       all_goals first
        | omega
        | trace_state
end
section
open Go Go.Proofs AF P48
open HY (bufO bufO_nil bufO_ne bytesA_app bytesA_low bufO_low bld_set bld_low bufO_if)
set_option maxRecDepth 100000
def qu0 (ls : List P48.Line) : AV := .sl ls.length fun i => qS (ls.getD i default)
def kk (ls : List P48.Line) : List AV := ls.flatMap qS
def qsi (v : Nat) (ls : List P48.Line) : AObj := if ls = [] then .emp 1 else .mem v 49 (kk ls)
theorem qdb (v : Nat) : qsi v [] = .emp 1 := rfl
theorem qby {ls : List P48.Line} (h : ls ≠ []) (v : Nat) : qsi v ls = .mem v 49 (kk ls) := if_neg h
theorem qfy (x : P48.Line) : (qS x).length = 5 := rfl
theorem qbN (l : List P48.Line) : (kk l).length = l.length * 5 := by
 induction l with
 | nil => rfl
 | cons x l ih => unfold kk at *; rw [List.flatMap_cons, List.length_append, ih, qfy, List.length_cons]; omega
theorem qe6 (l : List P48.Line) : (List.range l.length).flatMap (fun i => qS (l.getD i default)) = kk l := by
 have : l = (List.range l.length).map (fun i => l.getD i default) := by
  apply List.ext_getElem
  ·simp
  ·intro i h1 h2; simp [List.getD_eq_getElem?_getD, h1]
 unfold kk
 conv => rhs; rw [this]
 rw [List.flatMap_map]
theorem qu2 {L : List P48.Line} {n m : Nat} {fz : Nat → Bool} {h : List AObj} (e : L.length = m) : VLe (.sl m fun i => (((kk L).drop (i * 5)).take 5).map (rei fz h (n + 1))) (qu0 L) := by
 subst e
 refine qcM rfl (fun i hi => ?_)
 rw [← qe6, qwu (fun j _ => qfy _) hi]
 rfl
theorem qgo (L : List P48.Line) (x : P48.Line) : kk (L ++ [x]) = kk L ++ qS x := by simp [kk]
def qfj (bs : List Int) (i : Nat) : Nat := if i = 0 then 0 else (bs.getD (i - 1) 0).toNat + 1
theorem qdO {l : List It} {bs : List Int} (h : jI l bs = true) : ∀ i, i ≤ bs.length → asc l (qa1 bs i) (bs.drop i) = true := by
 have h1 : asc l (-1) bs = true := by
  unfold jI at h
  simp only [Bool.and_eq_true] at h
  exact h.2.1
 intro i
 induction i with
 | zero => intro _; exact h1
 | succ i ih =>
  intro hi
  have := ih (by omega)
  rw [qcz l bs i (by omega)] at this
  simp only [Bool.and_eq_true] at this
  exact this.2
theorem qei {l : List It} {bs : List Int} (h : jI l bs = true) (i : Nat) (hi : i < bs.length) : 0 ≤ bs.getD i 0 := by
 have h1 := qdO h i (by omega)
 rw [qcz l bs i hi] at h1
 simp only [Bool.and_eq_true, decide_eq_true_eq] at h1
 exact h1.1.1
theorem qkE {l : List It} {bs : List Int} (h : jI l bs = true) {i : Nat} (hi : i < bs.length) : 0 ≤ bs.getD i 0 ∧ bs.getD i 0 ≤ l.length ∧ (qfj bs i : Int) ≤ bs.getD i 0 := by
 have h1 := qdO h i (by omega)
 rw [qcz l bs i hi] at h1
 simp only [Bool.and_eq_true, decide_eq_true_eq] at h1
 refine ⟨h1.1.1, h1.1.2.1, ?_⟩
 have h2 := h1.1.2.2.1
 unfold qa1 at h2
 unfold qfj
 have h3 := h1.1.1
 split at h2
 ·rename_i e; rw [if_pos e]; omega
 ·rename_i e; rw [if_neg e]
  have h5 := qei h (i - 1) (by omega)
  omega
theorem ql7 (bs : List Int) {i : Nat} (hi : i < bs.length) : (qac bs).drop i = (bs.getD i 0).toNat :: (qac bs).drop (i + 1) := by
 unfold qac
 rw [List.drop_eq_getElem_cons (by simpa using hi)]
 simp [List.getD_eq_getElem?_getD, hi]
set_option maxHeartbeats 4000000 in
theorem t16 (l : List It) (width : Int) (bs : List Int) (h : List AObj) (hl : l.length ≤ 300) (hb : bs.length ≤ 1000000) (hB : ∀ i, (it l i).text.length ≤ 1000000) :
  qs Tryz.prog 14 [qt l, .int .i64 width, zz bs] h (.tup [qu0 (jP l width bs).1, .int .i64 (jP l width bs).2]) h := by
 have hnl : VLe .nl (qu0 []) := kA
 by_cases hw : jw l width = 0
 ·obtain ⟨hc, w0, w1⟩ := qb8 l width hw
  have hv := Valid.of hl hc
  cases hbr : jI l bs with
  | false =>
   have e : jP l width bs = ([], 23) := by unfold jP; rw [if_pos hw, hbr]; rfl
   rw [e]
   refine qn qrS (by simp) ?_
   simp only [lcP, lnP, Nat.reduceAdd, Nat.reduceSub, List.replicate, caP, naP, List.append_nil]
   simp (disch := omega) only [qv5, go_sem, qc, dvP, mdP]
   repeat' first
    | ((first | refine qj (t38 l width _ (by omega)) ?_ ?_ | refine qj (t46 l bs _ hl hb) ?_ ?_); (next => exact flk); simp (disch := omega) only [hw, hbr, go_sem, qc, dvP, mdP])
    | ((first | refine qk (fun e => ⟨?_, t38 l width _ (by omega)⟩) ?_ | refine qk (fun e => ⟨?_, t46 l bs _ hl hb⟩) ?_); (next => exact flk); simp (disch := omega) only [hw, hbr, go_sem, qc, dvP, mdP])
    | ((first | refine qe ?_ ?_ | refine qg ?_ ?_); (next => exact rvk); simp only [go_sem]; (first | exact VLe.refl _ | refine qh ?_ | refine qd ?_ | refine ql ?_ | skip))
    | with_reducible first | refine And.intro ?_ ?_ | intro _
   all_goals first
    | omega
    | skip
   exact zg (zN hnl (zN (VLe.refl _) jR.nil))
  | true =>
   refine qn qrS (by simp) ?_
   simp only [lcP, lnP, Nat.reduceAdd, Nat.reduceSub, List.replicate, caP, naP, List.append_nil]
   simp (disch := omega) only [qv5, go_sem, qc, dvP, mdP]
   repeat' first
    | ((first | refine qj (t38 l width _ (by omega)) ?_ ?_ | refine qj (t46 l bs _ hl hb) ?_ ?_); (next => exact flk); simp (disch := omega) only [hw, hbr, zz, go_sem, qc, dvP, mdP])
    | ((first | refine qk (fun e => ⟨?_, t38 l width _ (by omega)⟩) ?_ | refine qk (fun e => ⟨?_, t46 l bs _ hl hb⟩) ?_); (next => exact flk); simp (disch := omega) only [hw, hbr, zz, go_sem, qc, dvP, mdP])
    | ((first | refine qe ?_ ?_ | refine qg ?_ ?_); (next => exact rvk); simp only [go_sem]; (first | exact VLe.refl _ | refine qh ?_ | refine qd ?_ | refine ql ?_ | skip))
    | with_reducible first | refine And.intro ?_ ?_ | intro _
   all_goals first
    | omega
    | skip
   have hnl0 : (qac bs).length = bs.length := by simp [qac]
   refine qJ (T := fun i : Nat × List P48.Line × AObj × AObj × Nat => qu 49 [(0, qt l), (1, .int .i64 width), (2, zz bs), (9, .osl (h.length + 1) i.2.2.2.2 5 0 i.2.1.length), (10, .int .i64 (qfj bs i.1)), (25, zz bs), (26, .int .i64 bs.length), (27, .int .i64 i.1)])
    (H := fun i => h ++ [.emp 1, qsi i.2.2.2.2 i.2.1, i.2.2.1, i.2.2.2.1, .emp 0])
    (inv := fun i => i.1 ≤ bs.length ∧ i.2.1.length = i.1 ∧ zK l width 0 (qac bs) = (zK l width (qfj bs i.1) ((qac bs).drop i.1)).map (i.2.1 ++ ·) ∧ zc [i.2.2.1] 0 = true ∧ zc [i.2.2.2.1] 0 = true ∧ (i.2.1 = [] → i.2.2.2.2 = 1)) (m := fun i => bs.length - i.1) (0, [], .emp 0, .emp 0, 1)
    ⟨by simp only; omega, rfl, ?_, rfl, rfl, fun _ => rfl⟩ (Wk.temps ?_) ?_
   ·simp only [List.drop_zero, List.nil_append]
    show _ = Option.map _ (zK l width 0 (qac bs))
    simp
   ·(simp only [List.length_nil, qt, zz, qu, List.foldl, List.replicate, go_sem, qr, qp, qm, qq]; try (repeat' first | (with_reducible refine And.intro ?_ ?_) | (refine qh ?_; omega) | (refine qd ?_; rfl) | exact VLe.refl _))
    all_goals trace_state
   ·rintro ⟨i, L, O2, O3, v⟩ ⟨i1, i2, i3, i4, i5, i6⟩ K hK
    simp only at i1 i2 i3 i4 i5 i6 hK
    have i4' : ∀ m, zc (O2 :: m) 0 = true := fun _ => i4
    have i5' : ∀ m, zc (O3 :: m) 0 = true := fun _ => i5
    by_cases hi : i < bs.length
    ·obtain ⟨b0, b1, b2⟩ := qkE hbr hi
     rw [ql7 bs hi] at i3
     obtain ⟨to, hto⟩ : ∃ to : Nat, bs.getD i 0 = to := ⟨(bs.getD i 0).toNat, by omega⟩
     rw [hto] at b0 b1 b2
     have hto2 : (bs.getD i 0).toNat = to := by omega
     have hfr : qfj bs (i + 1) = to + 1 := by unfold qfj; rw [if_neg (by omega)]; show (bs.getD i 0).toNat + 1 = _; omega
     rw [hto2] at i3
     simp only [zK] at i3
     have hc44 : ∀ h : List AObj, qs Tryz.prog 46 [qt l, .int .i64 width, .int .i64 (qfj bs i), .int .i64 to] h (.tup [.agg (qS (kr l width (qfj bs i) to)), .bool (kp l width (qfj bs i) to).2.2]) h := fun h => t44 l width (qfj bs i) to h hv hB w0 w1 (by omega) (by omega)
     cases hfe : (kp l width (qfj bs i) to).2.2 with
     | false =>
      rw [hfe] at i3 hc44
      have e : jP l width bs = ([], 21) := by unfold jP; rw [if_pos hw, if_pos hbr, i3]; rfl
      rw [e]
      by_cases hL : L = []
      ·subst hL
       have hv1 := i6 rfl
       subst hv1
       simp (disch := omega) only [qu, List.foldl, List.replicate, zz, hto, i4', i5', qdb, List.length_nil, go_sem, qc, dvP, mdP]
       repeat' first
        | ((first | refine qj (hc44 _) ?_ ?_); (next => exact flk); simp (disch := omega) only [i4', i5', qM, qS, go_sem, qc, dvP, mdP])
        | ((first | refine qo (fun _ => hc44 _) ?_ ?_); (next => exact flk); simp (disch := omega) only [i4', i5', qM, qS, go_sem, qc, dvP, mdP])
        | ((first | refine qk (fun e => ⟨?_, hc44 _⟩) ?_); (next => exact flk); simp (disch := omega) only [i4', i5', qM, qS, go_sem, qc, dvP, mdP])
        | ((first | refine qe ?_ ?_ | refine qg ?_ ?_); (next => exact rvk); simp only [go_sem]; (first | exact VLe.refl _ | refine qh ?_ | refine qd ?_ | refine ql ?_ | skip))
        | with_reducible first | refine And.intro ?_ ?_ | intro _
       all_goals first
        | omega
        | (simp; done)
        | skip
       exact zg (zN hnl (zN (VLe.refl _) jR.nil))
      ·have eO := qby hL v
       have eL := qbN L
       have eT : List.take (L.length * 5) (kk L) = kk L := List.take_of_length_le (by omega)
       simp (disch := omega) only [qu, List.foldl, List.replicate, zz, hto, i4', i5', eO, go_sem, qc, dvP, mdP]
       repeat' first
        | ((first | refine qj (hc44 _) ?_ ?_); (next => exact flk); simp (disch := omega) only [i4', i5', qM, qS, eL, eT, go_sem, qc, dvP, mdP])
        | ((first | refine qo (fun _ => hc44 _) ?_ ?_); (next => exact flk); simp (disch := omega) only [i4', i5', qM, qS, eL, eT, go_sem, qc, dvP, mdP])
        | ((first | refine qk (fun e => ⟨?_, hc44 _⟩) ?_); (next => exact flk); simp (disch := omega) only [i4', i5', qM, qS, eL, eT, go_sem, qc, dvP, mdP])
        | ((first | refine qe ?_ ?_ | refine qg ?_ ?_); (next => exact rvk); simp only [go_sem]; (first | exact VLe.refl _ | refine qh ?_ | refine qd ?_ | refine ql ?_ | skip))
        | with_reducible first | refine And.intro ?_ ?_ | intro _
       all_goals first
        | omega
        | (simp; done)
        | skip
       exact zg (zN hnl (zN (VLe.refl _) jR.nil))
     | true =>
      rw [hfe] at i3 hc44
      by_cases hL : L = []
      ·subst hL
       have hv1 := i6 rfl
       subst hv1
       simp (disch := omega) only [qu, List.foldl, List.replicate, zz, hto, i4', i5', qdb, List.length_nil, go_sem, qc, dvP, mdP]
       repeat' first
        | ((first | refine qj (hc44 _) ?_ ?_); (next => exact flk); simp (disch := omega) only [i4', i5', qM, qS, go_sem, qc, dvP, mdP])
        | ((first | refine qo (fun _ => hc44 _) ?_ ?_); (next => exact flk); simp (disch := omega) only [i4', i5', qM, qS, go_sem, qc, dvP, mdP])
        | ((first | refine qk (fun e => ⟨?_, hc44 _⟩) ?_); (next => exact flk); simp (disch := omega) only [i4', i5', qM, qS, go_sem, qc, dvP, mdP])
        | ((first | refine qe ?_ ?_ | refine qg ?_ ?_); (next => exact rvk); simp only [go_sem]; (first | exact VLe.refl _ | refine qh ?_ | refine qd ?_ | refine ql ?_ | skip))
        | with_reducible first | refine And.intro ?_ ?_ | intro _
       all_goals first
        | omega
        | (simp; done)
        | skip
       refine hK _ _ (i + 1, [kr l width (qfj bs i) to], .mem (qz (some O2) + 1) 49 (qS (kr l width (qfj bs i) to)), .mem (qz (some O3) + 1) 49 (qS (kr l width (qfj bs i) to)), 2) ⟨by simp only; omega, by simp at i2 ⊢; omega, ?_, rfl, rfl, by simp⟩ (by simp only; omega) ?_
       ·simp only [hfr]
        rw [i3]
        simp [Option.map_map, Function.comp_def]
       ·rw [qby (by simp)]
        simp only [hfr]
        refine Wk.temps ?_
        (simp only [List.length_singleton, qt, zz, qu, List.foldl, List.replicate, go_sem, qr, qp, qm, qq]; try (repeat' first | (with_reducible refine And.intro ?_ ?_) | (refine qh ?_; omega) | (refine qd ?_; rfl) | exact VLe.refl _))
      ·have eO := qby hL v
       have eL := qbN L
       have eT : List.take (L.length * 5) (kk L) = kk L := List.take_of_length_le (by omega)
       simp (disch := omega) only [qu, List.foldl, List.replicate, zz, hto, i4', i5', eO, go_sem, qc, dvP, mdP]
       repeat' first
        | ((first | refine qj (hc44 _) ?_ ?_); (next => exact flk); simp (disch := omega) only [i4', i5', qM, qS, eL, eT, go_sem, qc, dvP, mdP])
        | ((first | refine qo (fun _ => hc44 _) ?_ ?_); (next => exact flk); simp (disch := omega) only [i4', i5', qM, qS, eL, eT, go_sem, qc, dvP, mdP])
        | ((first | refine qk (fun e => ⟨?_, hc44 _⟩) ?_); (next => exact flk); simp (disch := omega) only [i4', i5', qM, qS, eL, eT, go_sem, qc, dvP, mdP])
        | ((first | refine qe ?_ ?_ | refine qg ?_ ?_); (next => exact rvk); simp only [go_sem]; (first | exact VLe.refl _ | refine qh ?_ | refine qd ?_ | refine ql ?_ | skip))
        | with_reducible first | refine And.intro ?_ ?_ | intro _
       all_goals first
        | omega
        | (simp; done)
        | skip
       refine hK _ _ (i + 1, L ++ [kr l width (qfj bs i) to], .mem (qz (some O2) + 1) 49 (qS (kr l width (qfj bs i) to)), .mem (qz (some O3) + 1) 49 (qS (kr l width (qfj bs i) to)), v + 1) ⟨by simp only; omega, by simp; omega, ?_, rfl, rfl, by simp⟩ (by simp only; omega) ?_
       ·simp only [hfr]
        rw [i3]
        simp [Option.map_map, Function.comp_def]
       ·rw [qby (by simp)]
        simp only [hfr, qgo]
        refine Wk.temps ?_
        (simp only [List.length_append, List.length_singleton, qt, zz, qu, List.foldl, List.replicate, go_sem, qr, qp, qm, qq]; try (repeat' first | (with_reducible refine And.intro ?_ ?_) | (refine qh ?_; omega) | (refine qd ?_; rfl) | exact VLe.refl _))
    ·have e : i = bs.length := by omega
     subst e
     have e0 : (qac bs).drop bs.length = [] := by rw [← hnl0, List.drop_length]
     rw [e0] at i3
     have e : jP l width bs = (L, 0) := by unfold jP; rw [if_pos hw, if_pos hbr, i3]; simp [zK]
     rw [e]
     by_cases hL : L = []
     ·subst hL
      have hv1 := i6 rfl
      subst hv1
      simp (disch := omega) only [qu, List.foldl, List.replicate, zz, qdb, List.length_nil, go_sem, qc, dvP, mdP]
      repeat' first
       | ((first | refine qe ?_ ?_ | refine qg ?_ ?_); (next => exact rvk); simp only [go_sem]; (first | exact VLe.refl _ | refine qh ?_ | refine qd ?_ | refine ql ?_ | skip))
       | with_reducible first | refine And.intro ?_ ?_ | intro _
      all_goals first
       | omega
       | skip
      exact zg (zN hnl (zN (VLe.refl _) jR.nil))
     ·have eO := qby hL v
      have eL := qbN L
      simp (disch := omega) only [qu, List.foldl, List.replicate, zz, eO, eL, go_sem, qc, dvP, mdP]
      repeat' first
       | ((first | refine qe ?_ ?_ | refine qg ?_ ?_); (next => exact rvk); simp only [go_sem]; (first | exact VLe.refl _ | refine qh ?_ | refine qd ?_ | refine ql ?_ | skip))
       | with_reducible first | refine And.intro ?_ ?_ | intro _
      all_goals first
       | omega
       | skip
      rw [if_pos (by omega)]
      exact zg (zN (qu2 rfl) (zN (VLe.refl _) jR.nil))
 ·have e : jP l width bs = ([], jw l width) := by unfold jP; rw [if_neg hw]
  rw [e]
  refine qn qrS (by simp) ?_
  simp only [lcP, lnP, Nat.reduceAdd, Nat.reduceSub, List.replicate, caP, naP, List.append_nil]
  simp (disch := omega) only [qv5, go_sem, qc, dvP, mdP]
  repeat' first
   | ((first | refine qj (t38 l width _ (by omega)) ?_ ?_); (next => exact flk); simp (disch := omega) only [hw, go_sem, qc, dvP, mdP])
   | ((first | refine qk (fun e => ⟨?_, t38 l width _ (by omega)⟩) ?_); (next => exact flk); simp (disch := omega) only [hw, go_sem, qc, dvP, mdP])
   | ((first | refine qe ?_ ?_ | refine qg ?_ ?_); (next => exact rvk); simp only [go_sem]; (first | exact VLe.refl _ | refine qh ?_ | refine qd ?_ | refine ql ?_ | skip))
   | with_reducible first | refine And.intro ?_ ?_ | intro _
  all_goals first
   | omega
   | skip
  exact zg (zN hnl (zN (VLe.refl _) jR.nil))
end
section
open Go Go.Proofs AF HY
namespace HY
set_option maxRecDepth 100000
theorem qfp (L : List Int) : (List.range L.length).flatMap (fun i => [AV.int .i64 (L.getD i 0)]) = qX L := by
 rw [← List.map_eq_flatMap]
 unfold qX
 apply List.ext_getElem
 ·simp
 ·intro i h1 h2
  simp at h1
  simp [List.getD_eq_getElem?_getD, h1]
theorem qxt (h : List AObj) : qs Tryz.prog 67 [.nl] h .nl h := by
 refine qn quH (by simp) ?_
 simp only [lcP, lnP, Nat.reduceAdd, Nat.reduceSub, List.replicate, caP, naP, List.append_nil]
 simp (disch := omega) only [qwm, go_sem, qc, dvP, mdP]
 repeat' first
  | ((first | refine qe ?_ ?_ | refine qg ?_ ?_); (next => exact rvk); simp only [go_sem]; (first | exact VLe.refl _ | refine qh ?_ | refine qd ?_ | refine ql ?_ | skip))
  | with_reducible first | refine And.intro ?_ ?_ | intro _
 all_goals try exact clz
theorem t90 (L : List Int) (h : List AObj) (k : Nat) (hk : zc h k = true) (h0 : L.length ≠ 0) (hl : L.length ≤ 1000000) :
  qs Tryz.prog 67 [qw L] h (.osl k (qz (qK k h) + 1) 1 0 L.length) (qN k h (.mem (qz (qK k h) + 1) 3 (qX L))) := by
 refine qgg quH k (by simp) ?_
 simp only [lcP, lnP, Nat.reduceAdd, Nat.reduceSub, List.replicate, caP, naP, List.append_nil]
 have el := zm L
 simp (disch := omega) only [qwm, qw, h0, qM, qfp, el, go_sem, qc, dvP, mdP]
 exact ⟨by repeat' (first | rfl | omega | (with_reducible refine And.intro ?_ ?_)), h.length + 1, 2, 1, 0, L.length, 3, qX L, [AObj.emp 1, AObj.mem 2 3 (qX L), AObj.emp 0], ⟨trivial, trivial⟩, rfl, rfl, by omega, by simp only [go_sem], by
  intro c hc
  unfold qX at hc
  rw [List.mem_map] at hc
  obtain ⟨x, _, rfl⟩ := hc
  rfl, hk, rfl, rfl⟩
def kw (L : List Int) (j : Nat) : Int := if j = 0 then 0 else L.getD (j - 1) 0
def qaT (w : List UInt8) (L : List Int) (j : Nat) : List UInt8 := (w.drop (kw L j).toNat).take ((L.getD j 0).toNat - (kw L j).toNat)
def zw (w : List UInt8) (L : List Int) (j : Nat) : List (List UInt8) := (List.range j).map (qaT w L)
def qmd (w : List UInt8) (L : List Int) : Prop := ∀ j, j < L.length → 0 ≤ kw L j ∧ kw L j ≤ L.getD j 0 ∧ L.getD j 0 ≤ w.length
theorem qa2 (L : List Int) : kw L 0 = 0 := rfl
theorem qdh (L : List Int) (j : Nat) : kw L (j + 1) = L.getD j 0 := by simp [kw]
theorem qcj (w : List UInt8) (L : List Int) (j : Nat) : zw w L (j + 1) = zw w L j ++ [qaT w L j] := by unfold zw; rw [List.range_succ, List.map_append]; rfl
theorem jC (w : List UInt8) (L : List Int) (j : Nat) : (zw w L j).length = j := by simp [zw]
theorem qdl (L : List (List UInt8)) (x : List UInt8) : zZ L ++ [.str x] = zZ (L ++ [x]) := by simp [zZ]
theorem qeb {v n : Nat} {L : List (List UInt8)} {fz : Nat → Bool} {h : List AObj} : VLe (qn6 (some (ku v 9 (zZ L))) v 1 0 L.length (rei fz h (n + 1))) (qF L) := by
 unfold ku
 split
 ·rename_i e
  have : L = [] := by cases L with
   | nil => rfl
   | cons a l => simp [zZ] at e
  subst this
  rw [slOf_emp, if_pos rfl]
  exact kA
 ·rw [slOf_mem, if_pos ⟨rfl, by rw [zy]; omega⟩]
  simp only [Nat.zero_add, Nat.mul_one]
  exact qeK rfl
def jK (ps : List Pat) (w : List UInt8) : List Int := qap ps w ++ [(w.length : Int)]
def zP (ps : List Pat) (w : List UInt8) : List (List UInt8) := if qaO w = true then zw w (jK ps w) (jK ps w).length else [w]
theorem qd2 (own : List (List UInt8)) {i j : Nat} (h : i ≤ j) : qhz own i ≤ qhz own j := by
 unfold qhz
 have e : own.take i = (own.take j).take i := by rw [List.take_take, Nat.min_eq_left h]
 rw [e]
 exact jp _ _
theorem qfJ (own : List (List UInt8)) (lv : List Int) (m : Nat) : List.Pairwise (· ≤ ·) (qcu own lv m) := by
 unfold qcu qdi
 rw [List.pairwise_map]
 refine List.Pairwise.imp ?_ ((List.pairwise_lt_range (n := m)).filter _)
 intro a b hab
 have := qd2 own (show a + 1 ≤ b + 1 by omega)
 omega
theorem qgL (w : List UInt8) (lv : List Int) (m : Nat) : ∀ x ∈ qcu (qU w) lv m, 0 ≤ x ∧ x ≤ w.length := by
 intro x hx
 unfold qcu at hx
 rw [List.mem_map] at hx
 obtain ⟨i, _, rfl⟩ := hx
 have := qmb (qU w) (i + 1)
 rw [qbh] at this
 omega
theorem qiM {w : List UInt8} {L : List Int} (hs : List.Pairwise (· ≤ ·) L) (hb : ∀ x ∈ L, 0 ≤ x ∧ x ≤ w.length) : qmd w L := by
 intro j hj
 have g : ∀ i (hi : i < L.length), L.getD i 0 = L[i] := fun i hi => by simp [List.getD_eq_getElem?_getD, hi]
 have h1 := hb _ (List.getElem_mem hj)
 rw [g j hj]
 unfold kw
 split
 ·omega
 ·have hj' : j - 1 < L.length := by omega
  have h2 := hb _ (List.getElem_mem hj')
  have h3 := (List.pairwise_iff_getElem.1 hs) (j - 1) j hj' hj (by omega)
  rw [g (j - 1) hj']
  omega
theorem qaS (ps : List Pat) (w : List UInt8) : qmd w (jK ps w) := by
 unfold jK qap
 have hb : ∀ x ∈ (if qas ps w = 0 then qcu (qU w) (jg ps w) ((qU w).length - 1) else []), 0 ≤ x ∧ x ≤ (w.length : Int) := by
  split
  ·exact qgL w _ _
  ·simp
 have hs : List.Pairwise (· ≤ ·) (if qas ps w = 0 then qcu (qU w) (jg ps w) ((qU w).length - 1) else []) := by
  split
  ·exact qfJ _ _ _
  ·exact .nil
 refine qiM ?_ ?_
 ·rw [List.pairwise_append]
  refine ⟨hs, by simp, fun a ha b hb' => ?_⟩
  simp at hb'
  subst hb'
  exact (hb a ha).2
 ·intro x hx
  rcases List.mem_append.1 hx with h | h
  ·exact hb x h
  ·simp at h; subst h; omega
theorem qdg (ps : List Pat) (w : List UInt8) : (qap ps w).length ≤ w.length := by
 unfold qap
 split
 ·rw [qhD]
  have := qhE (qU w).length (jg ps w) ((qU w).length - 1)
  have := jo w
  omega
 ·simp
set_option maxHeartbeats 4000000 in
theorem t66 (ps : List Pat) (w : List UInt8) (h : List AObj) (hok : qbx ps) (hw : w.length ≤ 100000) (hc : jd ps = 0) : qs Tryz.prog 38 [qA ps, .str w] h (.tup [qF (zP ps w), .int .i64 0]) h := by
 have qbJ := fun h => t88 w h (by omega)
 have qkK := fun h => t89 ps w h hok (by omega)
 have hcut := qaS ps w
 have hpl := qdg ps w
 unfold zP
 by_cases g : qaO w = true
 case neg =>
  rw [if_neg g]
  have g' : qaO w = false := by simpa using g
  rw [g'] at qbJ
  refine qn qrU (by simp) ?_
  simp only [lcP, lnP, Nat.reduceAdd, Nat.reduceSub, List.replicate, caP, naP, List.append_nil]
  simp (disch := omega) only [qeT, qE, go_sem, qc, dvP, mdP]
  repeat' first
   | ((first | refine qj (qbJ _) ?_ ?_); (next => exact flk); simp (disch := omega) only [qE, go_sem, qc, dvP, mdP])
   | ((first | refine qo (fun _ => qbJ _) ?_ ?_); (next => exact flk); simp (disch := omega) only [qE, go_sem, qc, dvP, mdP])
   | ((first | refine qk (fun e => ⟨?_, qbJ _⟩) ?_); (next => exact flk); simp (disch := omega) only [qE, go_sem, qc, dvP, mdP])
   | ((first | refine qe ?_ ?_ | refine qg ?_ ?_); (next => exact rvk); simp only [go_sem]; (first | exact VLe.refl _ | refine qh ?_ | refine qd ?_ | refine ql ?_ | skip))
   | with_reducible first | refine And.intro ?_ ?_ | intro _
  all_goals try exact clz
  exact zg ⟨qcM rfl (fun i hi => by have e0 : i = 0 := (by have : i < 1 := hi; omega); subst e0; rfl), VLe.refl _, trivial⟩
 rw [if_pos g]
 rw [g] at qbJ
 have hs : qas ps w = 0 := by unfold qas; rw [if_pos hc, if_pos g]
 rw [hs] at qkK
 unfold jK at hcut ⊢
 obtain ⟨L, hL⟩ : ∃ L, L = qap ps w := ⟨_, rfl⟩
 rw [← hL] at qkK hcut hpl ⊢
 by_cases h0 : L = []
 ·obtain ⟨L', hLL⟩ : ∃ L', L' = L ++ [(w.length : Int)] := ⟨_, rfl⟩
  rw [← hLL] at hcut ⊢
  rw [h0] at hLL
  have hcs : [AV.int .i64 (w.length : Int)] = qX L' := by rw [hLL]; rfl
  have hln : L'.length = 1 := by rw [hLL]; rfl
  rw [h0, qfr] at qkK
  refine qn qrU (by simp) ?_
  simp only [lcP, lnP, Nat.reduceAdd, Nat.reduceSub, List.replicate, caP, naP, List.append_nil]
  simp (disch := omega) only [qeT, qE, go_sem, qc, dvP, mdP]
  repeat' first
   | ((first | refine qj (qbJ _) ?_ ?_ | refine qj (qkK _) ?_ ?_ | refine qj (qxt _) ?_ ?_); (next => exact flk); simp (disch := omega) only [qE, go_sem, qc, dvP, mdP])
   | ((first | refine qo (fun _ => qbJ _) ?_ ?_ | refine qo (fun _ => qkK _) ?_ ?_ | refine qo (fun _ => qxt _) ?_ ?_); (next => exact flk); simp (disch := omega) only [qE, go_sem, qc, dvP, mdP])
   | ((first | refine qk (fun e => ⟨?_, qbJ _⟩) ?_ | refine qk (fun e => ⟨?_, qkK _⟩) ?_ | refine qk (fun e => ⟨?_, qxt _⟩) ?_); (next => exact flk); simp (disch := omega) only [qE, go_sem, qc, dvP, mdP])
   | ((first | refine qe ?_ ?_ | refine qg ?_ ?_); (next => exact rvk); simp only [go_sem]; (first | exact VLe.refl _ | refine qh ?_ | refine qd ?_ | refine ql ?_ | skip))
   | with_reducible first | refine And.intro ?_ ?_ | intro _
  all_goals try exact clz
  rw [hcs]
  have hcl := zm L'
  refine qJ (T := fun j : Nat × Nat × AObj => qu 47 [(1, .str w), (8, .osl (h.length + 2) j.2.1 1 0 j.1), (9, .int .i64 (kw L' j.1)), (31, .osl (h.length + 4) 1 1 0 1), (32, .int .i64 L'.length), (33, .int .i64 j.1)])
   (H := fun j => h ++ [.emp 1, .emp 0, ku j.2.1 9 (zZ (zw w L' j.1)), .mem 1 3 (qX L'), .mem 1 3 (qX L'), j.2.2, .emp 0, .emp 0])
   (inv := fun j => j.1 ≤ L'.length ∧ zc [j.2.2] 0 = true) (m := fun j => L'.length - j.1) (0, 1, .emp 0) ⟨by simp, rfl⟩ (Wk.temps ?_) ?_
  ·simp only [qa2]
   (simp only [qu, List.foldl, List.replicate, go_sem, qr, qp, qm, qq]; try (repeat' first | (with_reducible refine And.intro ?_ ?_) | (refine qh ?_; omega) | (refine qd ?_; rfl) | exact VLe.refl _))
  rintro ⟨j, v, O⟩ ⟨j1, j2⟩ K hK
  simp only at j1 j2 hK
  have j2' : ∀ m, zc (O :: m) 0 = true := fun _ => j2
  have el := zy (zw w L' j)
  rw [jC] at el
  have f1 : List.take j (zZ (zw w L' j)) = zZ (zw w L' j) := List.take_of_length_le (by omega)
  by_cases hj : j < L'.length
  ·obtain ⟨q1, q2, q3⟩ := hcut j hj
   have hg := qbn hj
   have hp := qcj w L' j
   have hpr := qdh L' j
   simp (disch := omega) only [qu, List.foldl, List.replicate, qE, el, f1, hg, hcl, j2', go_sem, qc, dvP, mdP]
   repeat' first
    | ((first | refine qe ?_ ?_ | refine qg ?_ ?_); (next => exact rvk); simp only [go_sem]; (first | exact VLe.refl _ | refine qh ?_ | refine qd ?_ | refine ql ?_ | skip))
    | with_reducible first | refine And.intro ?_ ?_ | intro _
   all_goals try exact clz
   rw [qdl, show List.take ((L'.getD j 0).toNat - (kw L' j).toNat) (List.drop (kw L' j).toNat w) = qaT w L' j from rfl, ← hp, ← hpr]
   refine hK _ _ (j + 1, v + 1, .mem (qz (some O) + 1) 9 [.str (qaT w L' j)]) ⟨by simp only; omega, rfl⟩ (by simp only; omega) (Wk.temps ?_)
   (simp only [qu, List.foldl, List.replicate, go_sem, qr, qp, qm, qq]; try (repeat' first | (with_reducible refine And.intro ?_ ?_) | (refine qh ?_; omega) | (refine qd ?_; rfl) | exact VLe.refl _))
  ·have e : j = L'.length := by omega
   subst e
   have hsl := @qeb v 5 (zw w L' L'.length) (fun k => decide (h.length ≤ k)) (h ++ [.emp 1, .emp 0, ku v 9 (zZ (zw w L' L'.length)), .mem 1 3 (qX L'), .mem 1 3 (qX L'), O, .emp 0, .emp 0])
   rw [jC] at hsl
   simp (disch := omega) only [qu, List.foldl, List.replicate, qE, hcl, go_sem, qc, dvP, mdP]
   repeat' first
    | ((first | refine qe ?_ ?_ | refine qg ?_ ?_); (next => exact rvk); simp only [go_sem]; (first | exact VLe.refl _ | refine qh ?_ | refine qd ?_ | refine ql ?_ | skip))
    | with_reducible first | refine And.intro ?_ ?_ | intro _
   all_goals try exact clz
   exact zg ⟨hsl, VLe.refl _, trivial⟩
 ·have c66z' : ∀ h : List AObj, qs Tryz.prog 66 [qA ps, .str w] h (.tup [qw L, .int .i64 0]) h := fun h => by
   have := qkK h
   unfold jB at this
   rwa [if_neg h0] at this
  have hl0 : L.length ≠ 0 := fun e => h0 (List.eq_nil_of_length_eq_zero e)
  have el0 := zm L
  have et0 : List.take L.length (qX L) = qX L := List.take_of_length_le (by omega)
  obtain ⟨L', hLL⟩ : ∃ L', L' = L ++ [(w.length : Int)] := ⟨_, rfl⟩
  have hcs : qX L ++ [AV.int .i64 (w.length : Int)] = qX L' := by rw [hLL, qaz]
  have hln : L.length + 1 = L'.length := by rw [hLL]; simp
  rw [← hLL] at hcut ⊢
  refine qn qrU (by simp) ?_
  simp only [lcP, lnP, Nat.reduceAdd, Nat.reduceSub, List.replicate, caP, naP, List.append_nil]
  simp (disch := omega) only [qeT, qE, go_sem, qc, dvP, mdP]
  repeat' first
   | ((first | refine qj (qbJ _) ?_ ?_ | refine qj (c66z' _) ?_ ?_); (next => exact flk); simp (disch := omega) only [qE, go_sem, qc, dvP, mdP])
   | ((first | refine qo (fun _ => qbJ _) ?_ ?_ | refine qo (fun _ => c66z' _) ?_ ?_); (next => exact flk); simp (disch := omega) only [qE, go_sem, qc, dvP, mdP])
   | ((first | refine qk (fun e => ⟨?_, qbJ _⟩) ?_ | refine qk (fun e => ⟨?_, c66z' _⟩) ?_); (next => exact flk); simp (disch := omega) only [qE, go_sem, qc, dvP, mdP])
   | ((first | refine qe ?_ ?_ | refine qg ?_ ?_); (next => exact rvk); simp only [go_sem]; (first | exact VLe.refl _ | refine qh ?_ | refine qd ?_ | refine ql ?_ | skip))
   | with_reducible first | refine And.intro ?_ ?_ | intro _
  all_goals try exact clz
  refine qV (t90 L _ (h.length + 7) (by simp only [go_sem]) hl0 (by omega)) ⟨rfl, trivial⟩ ?_
  simp (disch := omega) only [qE, el0, et0, hcs, hln, go_sem, qc, dvP, mdP]
  repeat' first
   | ((first | refine qe ?_ ?_ | refine qg ?_ ?_); (next => exact rvk); simp only [go_sem]; (first | exact VLe.refl _ | refine qh ?_ | refine qd ?_ | refine ql ?_ | skip))
   | with_reducible first | refine And.intro ?_ ?_ | intro _
  all_goals try exact clz
  have hcl := zm L'
  refine qJ (T := fun j : Nat × Nat × AObj => qu 47 [(1, .str w), (8, .osl (h.length + 2) j.2.1 1 0 j.1), (9, .int .i64 (kw L' j.1)), (31, .osl (h.length + 7) 2 1 0 L'.length), (32, .int .i64 L'.length), (33, .int .i64 j.1)])
   (H := fun j => h ++ [.emp 1, .emp 0, ku j.2.1 9 (zZ (zw w L' j.1)), .mem 1 3 [.int .i64 w.length], .emp 0, j.2.2, .emp 0, .mem 2 3 (qX L')])
   (inv := fun j => j.1 ≤ L'.length ∧ zc [j.2.2] 0 = true) (m := fun j => L'.length - j.1) (0, 1, .emp 0) ⟨by simp, rfl⟩ (Wk.temps ?_) ?_
  ·simp only [qa2]
   (simp only [qu, List.foldl, List.replicate, go_sem, qr, qp, qm, qq]; try (repeat' first | (with_reducible refine And.intro ?_ ?_) | (refine qh ?_; omega) | (refine qd ?_; rfl) | exact VLe.refl _))
  rintro ⟨j, v, O⟩ ⟨j1, j2⟩ K hK
  simp only at j1 j2 hK
  have j2' : ∀ m, zc (O :: m) 0 = true := fun _ => j2
  have el := zy (zw w L' j)
  rw [jC] at el
  have f1 : List.take j (zZ (zw w L' j)) = zZ (zw w L' j) := List.take_of_length_le (by omega)
  by_cases hj : j < L'.length
  ·obtain ⟨q1, q2, q3⟩ := hcut j hj
   have hg := qbn hj
   have hp := qcj w L' j
   have hpr := qdh L' j
   simp (disch := omega) only [qu, List.foldl, List.replicate, qE, el, f1, hg, hcl, j2', go_sem, qc, dvP, mdP]
   repeat' first
    | ((first | refine qe ?_ ?_ | refine qg ?_ ?_); (next => exact rvk); simp only [go_sem]; (first | exact VLe.refl _ | refine qh ?_ | refine qd ?_ | refine ql ?_ | skip))
    | with_reducible first | refine And.intro ?_ ?_ | intro _
   all_goals try exact clz
   rw [qdl, show List.take ((L'.getD j 0).toNat - (kw L' j).toNat) (List.drop (kw L' j).toNat w) = qaT w L' j from rfl, ← hp, ← hpr]
   refine hK _ _ (j + 1, v + 1, .mem (qz (some O) + 1) 9 [.str (qaT w L' j)]) ⟨by simp only; omega, rfl⟩ (by simp only; omega) (Wk.temps ?_)
   (simp only [qu, List.foldl, List.replicate, go_sem, qr, qp, qm, qq]; try (repeat' first | (with_reducible refine And.intro ?_ ?_) | (refine qh ?_; omega) | (refine qd ?_; rfl) | exact VLe.refl _))
  ·have e : j = L'.length := by omega
   subst e
   have hsl := @qeb v 5 (zw w L' L'.length) (fun k => decide (h.length ≤ k)) (h ++ [.emp 1, .emp 0, ku v 9 (zZ (zw w L' L'.length)), .mem 1 3 [.int .i64 w.length], .emp 0, O, .emp 0, .mem 2 3 (qX L')])
   rw [jC] at hsl
   simp (disch := omega) only [qu, List.foldl, List.replicate, qE, hcl, go_sem, qc, dvP, mdP]
   repeat' first
    | ((first | refine qe ?_ ?_ | refine qg ?_ ?_); (next => exact rvk); simp only [go_sem]; (first | exact VLe.refl _ | refine qh ?_ | refine qd ?_ | refine ql ?_ | skip))
    | with_reducible first | refine And.intro ?_ ?_ | intro _
   all_goals try exact clz
   exact zg ⟨hsl, VLe.refl _, trivial⟩
end HY
end
section
open Go Go.Proofs AF HY
namespace HY
set_option maxRecDepth 100000
end HY
end
section
open Go Go.Proofs AF HY P48
namespace HY
set_option maxRecDepth 100000
structure Wd where
 text : List UInt8
 col : Int
 unit : Int
 dec : Int
 joined : Bool
 verse : Bool
 name : List UInt8
 deriving DecidableEq, Inhabited
def zG (w : Wd) : List AV := [.str w.text, .int .i64 w.col, .int .i64 w.unit, .int .i64 w.dec, .bool w.joined, .bool w.verse, .str w.name]
def qv (ws : List Wd) : AV := .sl ws.length fun i => zG (ws.getD i default)
theorem qrw {ws : List Wd} {i : Nat} (h : i < ws.length) : ws.drop i = ws.getD i default :: ws.drop (i + 1) := by
 rw [List.drop_eq_getElem_cons h]; simp [List.getD_eq_getElem?_getD, h]
def qaJ {α : Type} (p : α → Bool) : List α → Nat → Int
 | [], _ => -1
 | c :: r, i => if p c = true then i else qaJ p r (i + 1)
theorem qlq {α : Type} (p : α → Bool) : ∀ (s : List α) (i : Nat), (0 ≤ qaJ p s i ↔ s.any p = true) ∧ -1 ≤ qaJ p s i := by
 intro s
 induction s with
 | nil => intro i; simp [qaJ]
 | cons c r ih =>
  intro i
  by_cases hc : p c = true
  ·have e : qaJ p (c :: r) i = i := if_pos hc
   rw [e, List.any_cons, hc]
   simp
   try omega
  ·have e : qaJ p (c :: r) i = qaJ p r (i + 1) := if_neg hc
   rw [e, List.any_cons]
   have hc' : p c = false := by simpa using hc
   rw [hc', Bool.false_or]
   exact ih (i + 1)
theorem qfe {α : Type} (p : α → Bool) (s : List α) (i : Nat) : decide (0 ≤ qaJ p s i) = s.any p := by
 rw [Bool.eq_iff_iff, decide_eq_true_eq]; exact (qlq p s i).1
theorem t85 (s : List Wd) (p : Wd → Bool) (F : Nat) (h : List AObj) (hs : s.length ≤ 1000000000) (hp : ∀ (c : Wd) (h : List AObj), qs Tryz.prog F [.agg (zG c)] h (.bool (p c)) h) : qs Tryz.prog 24 [qv s, .fn (.func F) [] []] h (.int .i64 (qaJ p s 0)) h := by
 refine qn qwG (by simp) ?_
 simp only [lcP, lnP, Nat.reduceAdd, Nat.reduceSub, List.replicate, caP, naP, List.append_nil]
 simp (disch := omega) only [qxU, qv, go_sem, qc, dvP, mdP]
 repeat' first
  | ((first | refine qe ?_ ?_ | refine qg ?_ ?_); (next => exact rvk); simp only [go_sem]; (first | exact VLe.refl _ | refine qh ?_ | refine qd ?_ | refine ql ?_ | skip))
  | with_reducible first | refine And.intro ?_ ?_ | intro _
 all_goals try exact clz
 refine qJ (T := fun i : Nat => qu 19 [(0, qv s), (1, .fn (.func F) [] []), (6, qv s), (7, .int .i64 s.length), (8, .int .i64 i)]) (H := fun _ => h) (inv := fun i => i ≤ s.length ∧ qaJ p s 0 = qaJ p (s.drop i) i) (m := fun i => s.length - i) 0 ⟨by omega, by simp⟩ (Wk.temps ?_) ?_
 ·(simp only [qv, qu, List.foldl, List.replicate, go_sem, qr, qp, qm, qq]; try (repeat' first | (with_reducible refine And.intro ?_ ?_) | (refine qh ?_; omega) | (refine qd ?_; rfl) | exact VLe.refl _))
 ·rintro i ⟨i1, i2⟩ K hK
  rw [i2]
  by_cases hi : i < s.length
  ·rw [qrw hi] at i2 ⊢
   simp only [qaJ] at i2 ⊢
   have hpc := fun h => hp (s.getD i default) h
   cases hb : p (s.getD i default) with
   | true =>
    rw [hb] at hpc
    simp (disch := omega) only [qu, List.foldl, List.replicate, qv, zG, go_sem, qc, dvP, mdP]
    repeat' first
     | (refine zR (hpc _) ?_; simp (disch := omega) only [qv, zG, go_sem, qc, dvP, mdP])
     | ((first | refine qe ?_ ?_ | refine qg ?_ ?_); (next => exact rvk); simp only [go_sem]; (first | exact VLe.refl _ | refine qh ?_ | refine qd ?_ | refine ql ?_ | skip))
     | with_reducible first | refine And.intro ?_ ?_ | intro _
    all_goals try exact clz
   | false =>
    rw [hb] at hpc i2
    simp (disch := omega) only [qu, List.foldl, List.replicate, qv, zG, go_sem, qc, dvP, mdP]
    repeat' first
     | (refine zR (hpc _) ?_; simp (disch := omega) only [qv, zG, go_sem, qc, dvP, mdP])
     | ((first | refine qe ?_ ?_ | refine qg ?_ ?_); (next => exact rvk); simp only [go_sem]; (first | exact VLe.refl _ | refine qh ?_ | refine qd ?_ | refine ql ?_ | skip))
     | with_reducible first | refine And.intro ?_ ?_ | intro _
    all_goals try exact clz
    refine hK _ _ (i + 1) ⟨by omega, by rw [i2]; simp⟩ (by omega) (Wk.temps ?_)
    (simp only [qv, zG, qu, List.foldl, List.replicate, go_sem, qr, qp, qm, qq]; try (repeat' first | (with_reducible refine And.intro ?_ ?_) | (refine qh ?_; omega) | (refine qd ?_; rfl) | exact VLe.refl _))
  ·have e : i = s.length := by omega
   subst e
   rw [List.drop_length]
   simp (disch := omega) only [qu, List.foldl, List.replicate, qv, go_sem, qc, dvP, mdP]
   repeat' first
    | ((first | refine qe ?_ ?_ | refine qg ?_ ?_); (next => exact rvk); simp only [go_sem]; (first | exact VLe.refl _ | refine qh ?_ | refine qd ?_ | refine ql ?_ | skip))
    | with_reducible first | refine And.intro ?_ ?_ | intro _
   all_goals try exact clz
theorem t59 (s : List Wd) (p : Wd → Bool) (F : Nat) (h : List AObj) (hs : s.length ≤ 1000000000) (hp : ∀ (c : Wd) (h : List AObj), qs Tryz.prog F [.agg (zG c)] h (.bool (p c)) h) : qs Tryz.prog 7 [qv s, .fn (.func F) [] []] h (.bool (s.any p)) h := by
 rw [← qfe p s 0]
 refine qn qyQ (by simp) ?_
 simp only [lcP, lnP, Nat.reduceAdd, Nat.reduceSub, List.replicate, caP, naP, List.append_nil]
 simp (disch := omega) only [c7z, qv, go_sem, qc, dvP, mdP]
 repeat' first
  | ((first | refine qj (t85 s p F _ hs hp) ?_ ?_); (next => exact flk); simp (disch := omega) only [qv, go_sem, qc, dvP, mdP])
  | ((first | refine qk (fun e => ⟨?_, t85 s p F _ hs hp⟩) ?_); (next => exact flk); simp (disch := omega) only [qv, go_sem, qc, dvP, mdP])
  | ((first | refine qe ?_ ?_ | refine qg ?_ ?_); (next => exact rvk); simp only [go_sem]; (first | exact VLe.refl _ | refine qh ?_ | refine qd ?_ | refine ql ?_ | skip))
  | with_reducible first | refine And.intro ?_ ?_ | intro _
 all_goals try exact clz
theorem t86 (s : List Pat) (p : Pat → Bool) (F : Nat) (h : List AObj) (hs : s.length ≤ 1000000000) (hp : ∀ (i : Nat) (h : List AObj), i < s.length → qs Tryz.prog F [.agg (qbz (s.getD i default))] h (.bool (p (s.getD i default))) h) : qs Tryz.prog 58 [qA s, .fn (.func F) [] []] h (.int .i64 (qaJ p s 0)) h := by
 refine qn qwV (by simp) ?_
 simp only [lcP, lnP, Nat.reduceAdd, Nat.reduceSub, List.replicate, caP, naP, List.append_nil]
 simp (disch := omega) only [qx8, qA, go_sem, qc, dvP, mdP]
 repeat' first
  | ((first | refine qe ?_ ?_ | refine qg ?_ ?_); (next => exact rvk); simp only [go_sem]; (first | exact VLe.refl _ | refine qh ?_ | refine qd ?_ | refine ql ?_ | skip))
  | with_reducible first | refine And.intro ?_ ?_ | intro _
 all_goals try exact clz
 refine qJ (T := fun i : Nat => qu 19 [(0, qA s), (1, .fn (.func F) [] []), (6, qA s), (7, .int .i64 s.length), (8, .int .i64 i)]) (H := fun _ => h) (inv := fun i => i ≤ s.length ∧ qaJ p s 0 = qaJ p (s.drop i) i) (m := fun i => s.length - i) 0 ⟨by omega, by simp⟩ (Wk.temps ?_) ?_
 ·(simp only [qA, qu, List.foldl, List.replicate, go_sem, qr, qp, qm, qq]; try (repeat' first | (with_reducible refine And.intro ?_ ?_) | (refine qh ?_; omega) | (refine qd ?_; rfl) | exact VLe.refl _))
 ·rintro i ⟨i1, i2⟩ K hK
  rw [i2]
  by_cases hi : i < s.length
  ·rw [qel hi] at i2 ⊢
   simp only [qaJ] at i2 ⊢
   have hpc := fun h => hp i h hi
   cases hb : p (s.getD i default) with
   | true =>
    rw [hb] at hpc
    simp (disch := omega) only [qu, List.foldl, List.replicate, qA, qbz, go_sem, qc, dvP, mdP]
    repeat' first
     | (refine zR (hpc _) ?_; simp (disch := omega) only [qA, qbz, go_sem, qc, dvP, mdP])
     | ((first | refine qe ?_ ?_ | refine qg ?_ ?_); (next => exact rvk); simp only [go_sem]; (first | exact VLe.refl _ | refine qh ?_ | refine qd ?_ | refine ql ?_ | skip))
     | with_reducible first | refine And.intro ?_ ?_ | intro _
    all_goals try exact clz
   | false =>
    rw [hb] at hpc i2
    simp (disch := omega) only [qu, List.foldl, List.replicate, qA, qbz, go_sem, qc, dvP, mdP]
    repeat' first
     | (refine zR (hpc _) ?_; simp (disch := omega) only [qA, qbz, go_sem, qc, dvP, mdP])
     | ((first | refine qe ?_ ?_ | refine qg ?_ ?_); (next => exact rvk); simp only [go_sem]; (first | exact VLe.refl _ | refine qh ?_ | refine qd ?_ | refine ql ?_ | skip))
     | with_reducible first | refine And.intro ?_ ?_ | intro _
    all_goals try exact clz
    refine hK _ _ (i + 1) ⟨by omega, by rw [i2]; simp⟩ (by omega) (Wk.temps ?_)
    (simp only [qA, qbz, qu, List.foldl, List.replicate, go_sem, qr, qp, qm, qq]; try (repeat' first | (with_reducible refine And.intro ?_ ?_) | (refine qh ?_; omega) | (refine qd ?_; rfl) | exact VLe.refl _))
  ·have e : i = s.length := by omega
   subst e
   rw [List.drop_length]
   simp (disch := omega) only [qu, List.foldl, List.replicate, qA, go_sem, qc, dvP, mdP]
   repeat' first
    | ((first | refine qe ?_ ?_ | refine qg ?_ ?_); (next => exact rvk); simp only [go_sem]; (first | exact VLe.refl _ | refine qh ?_ | refine qd ?_ | refine ql ?_ | skip))
    | with_reducible first | refine And.intro ?_ ?_ | intro _
   all_goals try exact clz
theorem t61 (s : List Pat) (p : Pat → Bool) (F : Nat) (h : List AObj) (hs : s.length ≤ 1000000000) (hp : ∀ (i : Nat) (h : List AObj), i < s.length → qs Tryz.prog F [.agg (qbz (s.getD i default))] h (.bool (p (s.getD i default))) h) : qs Tryz.prog 22 [qA s, .fn (.func F) [] []] h (.bool (s.any p)) h := by
 rw [← qfe p s 0]
 refine qn qwE (by simp) ?_
 simp only [lcP, lnP, Nat.reduceAdd, Nat.reduceSub, List.replicate, caP, naP, List.append_nil]
 simp (disch := omega) only [qxS, qA, go_sem, qc, dvP, mdP]
 repeat' first
  | ((first | refine qj (t86 s p F _ hs hp) ?_ ?_); (next => exact flk); simp (disch := omega) only [qA, go_sem, qc, dvP, mdP])
  | ((first | refine qk (fun e => ⟨?_, t86 s p F _ hs hp⟩) ?_); (next => exact flk); simp (disch := omega) only [qA, go_sem, qc, dvP, mdP])
  | ((first | refine qe ?_ ?_ | refine qg ?_ ?_); (next => exact rvk); simp only [go_sem]; (first | exact VLe.refl _ | refine qh ?_ | refine qd ?_ | refine ql ?_ | skip))
  | with_reducible first | refine And.intro ?_ ?_ | intro _
 all_goals try exact clz
def qds (w : Wd) : Bool := decide (w.text = []) || decide (64 < w.text.length)
def qqG (p : Pat) : Bool := decide (12 < p.letters.length) || decide (14 < p.levels.length)
theorem t65 (w : Wd) (h : List AObj) : qs Tryz.prog 37 [.agg (zG w)] h (.bool (qds w)) h := by
 unfold qds
 by_cases g : w.text = []
 ·have k : (w.text = []) = True := eq_true g
  refine qn quB (by simp) ?_
  simp only [lcP, lnP, Nat.reduceAdd, Nat.reduceSub, List.replicate, caP, naP, List.append_nil]
  simp (disch := omega) only [qwk, zG, k, go_sem, qc, dvP, mdP]
  repeat' first
   | ((first | refine qe ?_ ?_ | refine qg ?_ ?_); (next => exact rvk); simp only [go_sem]; (first | exact VLe.refl _ | refine qh ?_ | refine qd ?_ | refine ql ?_ | skip))
   | with_reducible first | refine And.intro ?_ ?_ | intro _
  all_goals try exact clz
  all_goals (rw [Bool.eq_iff_iff]; simp only [Bool.or_eq_true, Bool.and_eq_true, decide_eq_true_eq]; omega)
 ·have k : (w.text = []) = False := eq_false g
  refine qn quB (by simp) ?_
  simp only [lcP, lnP, Nat.reduceAdd, Nat.reduceSub, List.replicate, caP, naP, List.append_nil]
  simp (disch := omega) only [qwk, zG, k, go_sem, qc, dvP, mdP]
  repeat' first
   | ((first | refine qe ?_ ?_ | refine qg ?_ ?_); (next => exact rvk); simp only [go_sem]; (first | exact VLe.refl _ | refine qh ?_ | refine qd ?_ | refine ql ?_ | skip))
   | with_reducible first | refine And.intro ?_ ?_ | intro _
  all_goals try exact clz
  all_goals (rw [Bool.eq_iff_iff]; simp only [Bool.or_eq_true, Bool.and_eq_true, decide_eq_true_eq]; omega)
theorem t62 (p : Pat) (h : List AObj) : qs Tryz.prog 23 [.agg (qbz p)] h (.bool (qqG p)) h := by
 unfold qqG
 refine qn qwF (by simp) ?_
 simp only [lcP, lnP, Nat.reduceAdd, Nat.reduceSub, List.replicate, caP, naP, List.append_nil]
 simp (disch := omega) only [qxT, qbz, qw, go_sem, qc, dvP, mdP]
 repeat' first
  | ((first | refine qe ?_ ?_ | refine qg ?_ ?_); (next => exact rvk); simp only [go_sem]; (first | exact VLe.refl _ | refine qh ?_ | refine qd ?_ | refine ql ?_ | skip))
  | with_reducible first | refine And.intro ?_ ?_ | intro _
 all_goals try exact clz
 all_goals (rw [Bool.eq_iff_iff]; simp only [Bool.or_eq_true, Bool.and_eq_true, decide_eq_true_eq]; omega)
end HY
end
section
open Go Go.Proofs AF HY P48
namespace HY
set_option maxRecDepth 100000
structure Sty where
 sp : Int
 st : Int
 sh : Int
 le : Int
 hy : Int
 deriving DecidableEq, Inhabited
def zi (s : Sty) (x : List AV) : List AV := [x.getD 0 .undef, x.getD 1 .undef, x.getD 2 .undef, x.getD 3 .undef, x.getD 4 .undef, .int .i64 s.sp, .int .i64 s.st, .int .i64 s.sh, .int .i64 s.le, .int .i64 s.hy, x.getD 5 .undef, x.getD 6 .undef, x.getD 7 .undef]
end HY
end
section
open Go Go.Proofs AF HY P48
namespace HY
set_option maxRecDepth 100000
def qdB (s : Sty) (i : Nat) (w : Wd) : List It := if i = 0 then [] else if w.verse = true then [⟨3, 0, 0, 0, -10000, []⟩] else if w.joined = true then [] else [⟨2, s.sp, s.st, s.sh, 0, []⟩]
def j4 (s : Sty) (k : Nat) (u : List UInt8) : List It := (if k = 0 then [] else [⟨3, s.le, 0, 0, s.hy, [61]⟩]) ++ [⟨1, s.le * ((qU u).length : Int), 0, 0, 0, u⟩]
def qT (s : Sty) (l : List (List UInt8)) (k : Nat) : List It := ((List.range k).map fun i => j4 s i (l.getD i [])).flatten
def qgb (s : Sty) (ps : List Pat) (i : Nat) (w : Wd) : List It := qdB s i w ++ qT s (zP ps w.text) (zP ps w.text).length
def zH (s : Sty) (ps : List Pat) (ws : List Wd) (n : Nat) : List It := ((List.range n).map fun i => qgb s ps i (ws.getD i default)).flatten
def kX (s : Sty) : Bool := qbo s.le && (qbo s.sp && (qbo s.st && (qbo s.sh && (decide (0 ≤ s.hy) && decide (s.hy ≤ 10000)))))
def jq (s : Sty) (ps : List Pat) (ws : List Wd) : Int :=
 if kX s = false then 2 else if jd ps ≠ 0 ∨ ws.any qds = true then 1 else if 4096 < ws.length then 4 else if ji (zH s ps ws ws.length) ≠ 0 then 4 else 0
def qch (s : Sty) (ps : List Pat) (ws : List Wd) : List It := if jq s ps ws = 0 then zH s ps ws ws.length else []
theorem zA (s : Sty) (l : List (List UInt8)) : qT s l 0 = [] := rfl
theorem zL (s : Sty) (l : List (List UInt8)) (k : Nat) : qT s l (k + 1) = qT s l k ++ j4 s k (l.getD k []) := by unfold qT; rw [List.range_succ, List.map_append, List.flatten_append]; simp
theorem kc (s : Sty) (ps : List Pat) (ws : List Wd) (n : Nat) : zH s ps ws (n + 1) = zH s ps ws n ++ qgb s ps n (ws.getD n default) := by unfold zH; rw [List.range_succ, List.map_append, List.flatten_append]; simp
theorem qbE (s : Sty) (i : Nat) (w : Wd) : (qdB s i w).length ≤ 1 := by unfold qdB; split <;> (try split) <;> (try split) <;> simp
theorem qmu (s : Sty) (k : Nat) (u : List UInt8) : (j4 s k u).length ≤ 2 := by unfold j4; split <;> simp
theorem kI (s : Sty) (l : List (List UInt8)) (k : Nat) : (qT s l k).length ≤ 2 * k := by
 induction k with
 | zero => simp [qT]
 | succ k ih => rw [zL, List.length_append]; have := qmu s k (l.getD k []); omega
theorem qd3 (ps : List Pat) (w : List UInt8) : (zP ps w).length ≤ w.length + 1 := by
 unfold zP
 split
 ·rw [jC]; unfold jK; rw [List.length_append]; have := qdg ps w; simp; omega
 ·simp
theorem qnW (s : Sty) (ps : List Pat) (i : Nat) (w : Wd) (h : w.text.length ≤ 64) : (qgb s ps i w).length ≤ 200 := by
 unfold qgb
 rw [List.length_append]
 have := qbE s i w
 have := kI s (zP ps w.text) (zP ps w.text).length
 have := qd3 ps w.text
 omega
theorem qjI (s : Sty) (ps : List Pat) (ws : List Wd) (hb : ∀ i, i < ws.length → (ws.getD i default).text.length ≤ 64) (n : Nat) (hn : n ≤ ws.length) : (zH s ps ws n).length ≤ 200 * n := by
 induction n with
 | zero => simp [zH]
 | succ n ih =>
  rw [kc, List.length_append]
  have := qnW s ps n (ws.getD n default) (hb n (by omega))
  have := ih (by omega)
  omega
end HY
end

import Derived.Test.YtjijgafefdolkaaGreatDoorK8
import Derived.Test.YtjijgafefdolkaaGreatDoorK6
import Derived.Test.YtjijgafefdolkaaGreatDoorK3
import Derived.Test.YtjijgafefdolkaaGreatDoorK4
set_option linter.all false
set_option linter.unusedSimpArgs false
set_option linter.unusedVariables false
set_option linter.unusedSectionVars false
section
open Go Go.Proofs AF P48
open HY (bufO bufO_nil bufO_ne bytesA_app bytesA_low bufO_low bld_set bld_low bufO_if)
set_option maxRecDepth 100000
theorem Wk.nilcell {t : List AV} {h : List AObj} {k j v ver : Nat} {ty : TypeId} {cs cs' : List AV} (hk : qI k h = some (.mem ver ty cs)) (hj : qI j h = some (.emp v)) (hl : cs'.length = cs.length)
  (hc : ∀ (i : Nat) c c', cs[i]? = some c → cs'[i]? = some c' → c' = c ∨ (c = .nl ∧ ∃ sz, c' = .osl j v sz 0 0)) : Wk t h t (qM k h (.mem ver ty cs')) := by
 intro N w σ a H
 refine ⟨σ, ⟨⟨by rw [H.hr.len, qZ], H.hr.inj, H.hr.lt, fun i x o hx ho => ?_⟩, H.sz, H.tm, H.df⟩, Ext.refl w σ⟩
 have hkl := zK hk
 by_cases e : i = k
 ·subst e
  have := jB (o := .mem ver ty cs') hkl
  unfold qI at this
  rw [this] at hx
  cases hx
  obtain ⟨m1, m2, b, arr, m3, m4, m5, m6, m7, m8⟩ := H.hr.obj i _ o hk ho
  refine ⟨m1, m2, b, arr, m3, m4, m5, by omega, fun n y hn hy => m7 n y (by omega) hy, fun n c' y hc' hy => ?_⟩
  have hn : n < cs.length := by have := (List.getElem?_eq_some_iff.1 hc').1; omega
  have e1 : cs[n]? = some cs[n] := List.getElem?_eq_getElem hn
  rcases hc n _ _ e1 hc' with rfl | ⟨e2, sz, rfl⟩
  ·exact m8 n _ y e1 hy
  ·have := m8 n _ y e1 hy
   rw [e2] at this
   have e3 := qcm this
   subst e3
   have hjl : j < σ.length := by rw [H.hr.len]; exact zK hj
   have ej : σ[j]? = some σ[j] := List.getElem?_eq_getElem hjl
   obtain ⟨q1, q2⟩ := H.hr.obj j _ _ hj ej
   exact .osl _ ej ⟨_, _, _, rfl⟩ (by omega) (fun _ => .inl ⟨q2, rfl, rfl, rfl⟩)
 ·unfold qM at hx
  rw [List.getElem?_set_ne (fun e' => e e'.symm)] at hx
  exact H.hr.obj i x o hx ho
def zd (x : P48.Line) : List AV := [.int .i64 x.frm, .int .i64 x.to, .int .i64 x.badness, .int .i64 x.change, .str x.text]
def qc3 (x : It) : List UInt8 := if x.kind = 1 then x.text else if x.kind = 2 then [32] else []
theorem qgI (l : List It) (k i : Nat) : kG l (k + 1) i = kG l k i ++ qc3 (it l (i + k)) := by
 induction k generalizing i with
 | zero => simp [kG, qc3]
 | succ k ih =>
  rw [kG, ih (i + 1), show i + 1 + k = i + (k + 1) by omega]
  conv => rhs; rw [kG]
  simp
theorem qiW (l : List It) (B : Nat) (hB : ∀ i, (it l i).text.length ≤ B) (k i : Nat) : (kG l k i).length ≤ k * (B + 1) := by
 induction k generalizing i with
 | zero => simp [kG]
 | succ k ih =>
  rw [kG, List.length_append, Nat.succ_mul]
  have h1 := ih (i + 1)
  have h2 := hB i
  split
  ·omega
  ·split <;> simp <;> omega
theorem t44 (l : List It) (width : Int) (frm to : Nat) (h : List AObj) (hv : Valid l) (hB : ∀ i, (it l i).text.length ≤ 1000000) (w0 : 0 ≤ width) (w1 : width ≤ 1073741824) (h1 : frm ≤ to) (h2 : to ≤ l.length) :
  qs Tryz.prog 46 [qt l, .int .i64 width, .int .i64 frm, .int .i64 to] h (.tup [.agg (zd (kk l width frm to)), .bool (kh l width frm to).2.2]) h := by
 have hl := hv.len
 have hbg := qcq l h1
 obtain ⟨a, ha⟩ : ∃ a, a = qK l frm to := ⟨_, rfl⟩
 rw [← ha] at hbg
 refine qn qv7 (by simp) ?_
 simp only [lcP, lnP, Nat.reduceAdd, Nat.reduceSub, List.replicate, caP, naP, List.append_nil]
 simp (disch := omega) only [qxh, qt, go_sem, qc, dvP, mdP]
 repeat' first
  | ((first | refine qj (t75 l frm to _ h1 h2 (by omega)) ?_ ?_); (next => exact flk); simp (disch := omega) only [qt, go_sem, qc, dvP, mdP])
  | ((first | refine qk (fun e => ⟨?_, t75 l frm to _ h1 h2 (by omega)⟩) ?_); (next => exact flk); simp (disch := omega) only [qt, go_sem, qc, dvP, mdP])
  | ((first | refine qe ?_ ?_ | refine qg ?_ ?_); (next => exact rvk); simp only [go_sem]; (first | exact VLe.refl _ | refine qh ?_ | refine qd ?_ | refine ql ?_ | skip))
  | with_reducible first | refine And.intro ?_ ?_ | intro _
 all_goals first
  | omega
  | skip
 rw [← ha]
 show ∃ t' h', Wk _ _ t' h' ∧ _
 refine ⟨_, _, Wk.nilcell (k := h.length + 2) (j := h.length + 4) (v := 0) (ver := 1) (ty := 122) (cs := [.nilp, .nl]) (cs' := [.nilp, .osl (h.length + 4) 0 1 0 0]) (by simp only [go_sem]) (by simp only [go_sem]) rfl ?_, ?_⟩
 ·intro i c c' hc hc'
  match i, hc, hc' with
  | 0, hc, hc' => left; simp at hc hc'; rw [← hc, ← hc']
  | 1, hc, hc' => right; simp at hc hc'; exact ⟨hc.symm, 1, hc'.symm⟩
 simp (disch := omega) only [qt, qH, go_sem, qc, dvP, mdP]
 repeat' first
  | ((first | refine qe ?_ ?_ | refine qg ?_ ?_); (next => exact rvk); simp only [go_sem]; (first | exact VLe.refl _ | refine qh ?_ | refine qd ?_ | refine ql ?_ | skip))
  | with_reducible first | refine And.intro ?_ ?_ | intro _
 all_goals first
  | omega
  | skip
 refine qJ (T := fun i : Nat × AObj × AV × Nat => qv 77 [(0, qt l), (1, .int .i64 width), (2, .int .i64 a), (3, .int .i64 to), (8, .op h.length 1 0), (10, .op (h.length + 1) 1 0), (11, .op (h.length + 2) 1 0), (24, .sl (to - a) fun i => qH (it l (a + i))), (25, .int .i64 ((to - a : Nat) : Int)), (26, .int .i64 i.1)])
  (H := fun i => h ++ [.mem 1 49 [.int .i64 0, .int .i64 0, .int .i64 0, .int .i64 0, .str []], .mem 1 111 (qbK (kV Item.width l i.1 a) (kV Item.stretch l i.1 a) (kV Item.shrink l i.1 a)),
   .mem 1 122 [i.2.2.1, .osl (h.length + 4) i.2.2.2 1 0 (kG l i.1 a).length], i.2.1, bufO i.2.2.2 (kG l i.1 a)])
  (inv := fun i => i.1 ≤ to - a ∧ q9 [i.2.1] 0 = true ∧ (i.2.2.1 = .nilp ∨ i.2.2.1 = .op (h.length + 2) 1 0)) (m := fun i => to - a - i.1) (0, .emp 0, .nilp, 0) ⟨Nat.zero_le _, rfl, .inl rfl⟩ (Wk.temps ?_) ?_
 ·simp only [qt, qH, qv, List.foldl, List.replicate, go_sem, qr, qp, qm, qq]
  try (repeat' first | (with_reducible refine And.intro ?_ ?_) | (refine qh ?_; omega) | (refine qd ?_; rfl))
 ·rintro ⟨i, O, A, v⟩ ⟨i1, i2, i3⟩ K hK
  simp only at i1 i2 i3 hK
  have i2' : ∀ m, q9 (O :: m) 0 = true := fun _ => i2
  have q1 := kW Item.width l (fun i => (hv.num i).1) i a
  have q2 := kW Item.stretch l (fun i => (hv.num i).2.1) i a
  have q3 := kW Item.shrink l (fun i => (hv.num i).2.2.1) i a
  have q4 := qiW l 1000000 hB i a
  have q5 : i * (1000000 + 1) ≤ 300 * 1000001 := Nat.mul_le_mul_right _ (by omega)
  obtain ⟨s, hs⟩ : ∃ s, s = kG l i a := ⟨_, rfl⟩
  have hsl : s.length ≤ 300300300 := by rw [hs]; omega
  by_cases hi : i < to - a
  ·have ok := hv.ok (a + i) (by omega)
   have hBi := hB (a + i)
   have key : ∀ (A' : AV) (v' : Nat), (A' = .nilp ∨ A' = .op (h.length + 2) 1 0) → ∀ t', jN t' (qv 77 [(0, qt l), (1, .int .i64 width), (2, .int .i64 a), (3, .int .i64 to), (8, .op h.length 1 0), (10, .op (h.length + 1) 1 0), (11, .op (h.length + 2) 1 0), (24, .sl (to - a) fun i => qH (it l (a + i))), (25, .int .i64 ((to - a : Nat) : Int)), (26, .int .i64 ((i + 1 : Nat) : Int))]) →
     K t' (h ++ [.mem 1 49 [.int .i64 0, .int .i64 0, .int .i64 0, .int .i64 0, .str []], .mem 1 111 (qbK (kV Item.width l i a + sel (it l (a + i)) Item.width) (kV Item.stretch l i a + sel (it l (a + i)) Item.stretch) (kV Item.shrink l i a + sel (it l (a + i)) Item.shrink)),
      .mem 1 122 [A', .osl (h.length + 4) v' 1 0 (s ++ qc3 (it l (a + i))).length], .mem (qz (some O) + 1) 58 (qH (it l (a + i))), bufO v' (s ++ qc3 (it l (a + i)))]) := by
    intro A' v' hA' t' ht'
    refine hK t' _ (i + 1, .mem (qz (some O) + 1) 58 (qH (it l (a + i))), A', v') ⟨hi, rfl, hA'⟩ (by simp only; omega) ?_
    rw [hs]
    simp only [qdY, qgI]
    exact Wk.temps ht'
   simp (disch := omega) only [qv, qt, List.foldl, List.replicate, i2', go_sem, qc, dvP, mdP]
   rw [← hs]
   repeat' first
    | ((first | refine qe ?_ ?_ | refine qg ?_ ?_); (next => exact rvk); simp only [go_sem]; (first | exact VLe.refl _ | refine qh ?_ | refine qd ?_ | refine ql ?_ | skip))
    | with_reducible first | refine And.intro ?_ ?_ | intro _
   all_goals first
    | omega
    | skip
   refine qS (t77 (h.length + 1) 1 _ _ _ (it l (a + i)) _ (by simp only [go_sem]) ok q1.1 (by omega) q2.1 (by omega) q3.1 (by omega)) ⟨rfl, rfl, trivial⟩ ?_
   have hkk : (it l (a + i)).kind = 1 ∨ (it l (a + i)).kind = 2 ∨ (it l (a + i)).kind = 3 := by have := ok.k1; have := ok.k3; omega
   have e0 : (qH (it l (a + i)))[0]? = some (.int .i64 (it l (a + i)).kind) := rfl
   have e5 : (qH (it l (a + i)))[5]? = some (.str (it l (a + i)).text) := rfl
   rcases hkk with hkd | hkd | hkd
   ·have hp : qc3 (it l (a + i)) = (it l (a + i)).text := by simp [qc3, hkd]
    simp only [hp, List.length_append] at key
    simp (disch := omega) only [e0, e5, hkd, eq_self, go_sem, qc, dvP, mdP]
    repeat' first
     | (refine qS (t78 (h.length + 2) 1 (h.length + 4) v A s (it l (a + i)).text _ (by omega) (by simp only [go_sem]) i3 (by simp only [go_sem]) (by omega)) ⟨rfl, rfl, trivial⟩ ?_; simp (disch := omega) only [go_sem, qc])
     | (with_reducible refine And.intro ?_ ?_)
     | (with_reducible intro _)
    all_goals first
     | omega
     | skip
    refine key (.op (h.length + 2) 1 0) (v + 1) (.inr rfl) _ ?_
    simp only [qt, qH, qv, List.foldl, List.replicate, go_sem, qr, qp, qm, qq]
    try (repeat' first | (with_reducible refine And.intro ?_ ?_) | (refine qh ?_; omega) | (refine qd ?_; rfl))
   ·have hp : qc3 (it l (a + i)) = [32] := by simp [qc3, hkd]
    simp only [hp, List.length_append, List.length_singleton] at key
    simp (disch := omega) only [e0, e5, hkd, eq_self, go_sem, qc, dvP, mdP]
    repeat' first
     | (refine qS (t79 (h.length + 2) 1 (h.length + 4) v A s 32 _ (by omega) (by simp only [go_sem]) i3 (by simp only [go_sem]) (by omega)) ⟨rfl, rfl, trivial⟩ ?_; simp (disch := omega) only [go_sem, qc])
     | (with_reducible refine And.intro ?_ ?_)
     | (with_reducible intro _)
    all_goals first
     | omega
     | skip
    refine key (.op (h.length + 2) 1 0) (v + 1) (.inr rfl) _ ?_
    simp only [qt, qH, qv, List.foldl, List.replicate, go_sem, qr, qp, qm, qq]
    try (repeat' first | (with_reducible refine And.intro ?_ ?_) | (refine qh ?_; omega) | (refine qd ?_; rfl))
   ·have hp : qc3 (it l (a + i)) = [] := by simp [qc3, hkd]
    simp only [hp, List.append_nil] at key
    simp (disch := omega) only [e0, e5, hkd, eq_self, go_sem, qc, dvP, mdP]
    repeat' first
     | (with_reducible refine And.intro ?_ ?_)
     | (with_reducible intro _)
    all_goals first
     | omega
     | skip
    refine key A v i3 _ ?_
    simp only [qt, qH, qv, List.foldl, List.replicate, go_sem, qr, qp, qm, qq]
    try (repeat' first | (with_reducible refine And.intro ?_ ?_) | (refine qh ?_; omega) | (refine qd ?_; rfl))
  ·have e : i = to - a := by omega
   subst e
   have e1 : ∀ f, kV f l (to - a) a = zF f l a to := fun _ => rfl
   simp only [e1] at q1 q2 q3 ⊢
   rw [← hs]
   have p1 := (hv.num to).2.2.2
   have hfit : fit l width (zF Item.width l a to) (zF Item.stretch l a to) (zF Item.shrink l a to) to = kh l width frm to := by rw [ha]; rfl
   have hmk : kk l width frm to = ⟨a, to, (kh l width frm to).1, (kh l width frm to).2.1, s ++ (if zO l to then (it l to).text else [])⟩ := by
    unfold kk qqo; rw [← ha, hs]
   have e0 : (qH (it l to))[0]? = some (.int .i64 (it l to).kind) := rfl
   have e5 : (qH (it l to))[5]? = some (.str (it l to).text) := rfl
   simp (disch := omega) only [qv, List.foldl, List.replicate, qt, e0, e5, go_sem, qc, dvP, mdP]
   refine ⟨fun hc => absurd hc (by omega), fun _ => ?_⟩
   repeat' first
    | (refine qS (t78 (h.length + 2) 1 (h.length + 4) v A s (it l to).text _ (by omega) (by simp only [go_sem]) i3 (by simp only [go_sem]) (by have := hB to; omega)) ⟨rfl, rfl, trivial⟩ ?_; simp (disch := omega) only [go_sem, qc])
    | (refine qj (t76 l width _ _ _ to _ hv w0 w1 q1.1 (by omega) q2.1 (by omega) q3.1 (by omega)) ⟨rfl, rfl, rfl, rfl, trivial⟩ ?_; simp (disch := omega) only [hfit, qkY, go_sem, qc])
    | (with_reducible refine And.intro ?_ ?_)
    | (with_reducible intro _)
   all_goals first
    | omega
    | skip
   all_goals first
    | (simp [qH]; done)
    | (simp [qbK]; done)
    | skip
   ·rename_i hbk
    have hab : zO l to = true := by unfold zO; simp only [Bool.and_eq_true, decide_eq_true_eq]; omega
    refine qS (t80 (h.length + 2) 1 (h.length + 4) (v + 1) (.op (h.length + 2) 1 0) (s ++ (it l to).text) _ (by omega) (by simp only [go_sem, List.length_append]) (by simp only [go_sem])) ⟨rfl, trivial⟩ ?_
    simp (disch := omega) only [go_sem, qc, dvP, mdP]
    repeat' first
     | ((first | refine qe ?_ ?_ | refine qg ?_ ?_); (next => exact rvk); simp only [go_sem]; (first | exact VLe.refl _ | refine qh ?_ | refine qd ?_ | refine ql ?_ | skip))
     | with_reducible first | refine And.intro ?_ ?_ | intro _
    all_goals first
     | omega
     | skip
    rw [hmk, hab]
    exact VLe.refl _
   ·rename_i hbk
    have hab : zO l to = false := by
     cases hx : zO l to with
     | false => rfl
     | true => unfold zO at hx; simp only [Bool.and_eq_true, decide_eq_true_eq] at hx; omega
    refine qS (t80 (h.length + 2) 1 (h.length + 4) v A s _ (by omega) (by simp only [go_sem]) (by simp only [go_sem])) ⟨rfl, trivial⟩ ?_
    simp (disch := omega) only [go_sem, qc, dvP, mdP]
    repeat' first
     | ((first | refine qe ?_ ?_ | refine qg ?_ ?_); (next => exact rvk); simp only [go_sem]; (first | exact VLe.refl _ | refine qh ?_ | refine qd ?_ | refine ql ?_ | skip))
     | with_reducible first | refine And.intro ?_ ?_ | intro _
    all_goals first
     | omega
     | skip
    rw [hmk, hab]
    simp only [Bool.false_eq_true, if_false, List.append_nil]
    exact VLe.refl _
end
section
open Go Go.Proofs AF P48
open HY (bufO bufO_nil bufO_ne bytesA_app bytesA_low bufO_low bld_set bld_low bufO_if)
set_option maxRecDepth 100000
def qck (bs : List Int) (x : Int) : Nat → Nat → Int
 | 0, _ => -1
 | k + 1, i => if bs.getD i 0 = x then i else qck bs x k (i + 1)
theorem qlh (bs : List Int) (x : Int) : ∀ (k i : Nat), -1 ≤ qck bs x k i ∧ (0 ≤ qck bs x k i ↔ ∃ j, i ≤ j ∧ j < i + k ∧ bs.getD j 0 = x) := by
 intro k
 induction k with
 | zero => intro i; simp only [qck]; refine ⟨by omega, fun h => by omega, ?_⟩; rintro ⟨j, h1, h2, _⟩; omega
 | succ k ih =>
  intro i
  simp only [qck]
  split
  ·rename_i h
   exact ⟨by omega, fun _ => ⟨i, by omega, by omega, h⟩, fun _ => by omega⟩
  ·rename_i h
   refine ⟨(ih (i + 1)).1, (ih (i + 1)).2.trans ⟨?_, ?_⟩⟩
   ·rintro ⟨j, h1, h2, h3⟩; exact ⟨j, by omega, by omega, h3⟩
   ·rintro ⟨j, h1, h2, h3⟩
    by_cases e : j = i
    ·subst e; exact absurd h3 h
    ·exact ⟨j, by omega, by omega, h3⟩
theorem qe5 (bs : List Int) (x : Int) : decide (0 ≤ qck bs x bs.length 0) = bs.contains x := by
 rw [Bool.eq_iff_iff, decide_eq_true_eq, (qlh bs x _ _).2, List.contains_iff_mem, List.mem_iff_getElem]
 constructor
 ·rintro ⟨j, _, h2, h3⟩; exact ⟨j, by omega, by simpa [List.getD_eq_getElem?_getD, show j < bs.length by omega] using h3⟩
 ·rintro ⟨j, h2, h3⟩; exact ⟨j, by omega, by omega, by simpa [List.getD_eq_getElem?_getD, h2] using h3⟩
theorem t47 (bs : List Int) (x : Int) (h : List AObj) (hl : bs.length ≤ 1000000) : qs Tryz.prog 112 [zw bs, .int .i64 x] h (.int .i64 (qck bs x bs.length 0)) h := by
 refine qn qtx (by simp) ?_
 simp only [lcP, lnP, Nat.reduceAdd, Nat.reduceSub, List.replicate, caP, naP, List.append_nil]
 simp (disch := omega) only [qsL, zw, go_sem, qc, dvP, mdP]
 refine qJ (T := fun i : Nat => qv 19 [(0, zw bs), (1, .int .i64 x), (6, zw bs), (7, .int .i64 bs.length), (8, .int .i64 i)]) (H := fun _ => h) (inv := fun i => i ≤ bs.length ∧ qck bs x bs.length 0 = qck bs x (bs.length - i) i) (m := fun i => bs.length - i) 0 ⟨by omega, rfl⟩ (Wk.temps ?_) ?_
 ·(simp only [qt, zw, qv, List.foldl, List.replicate, go_sem, qr, qp, qm, qq]; try (repeat' first | (with_reducible refine And.intro ?_ ?_) | (refine qh ?_; omega) | (refine qd ?_; rfl) | exact VLe.refl _))
 ·rintro i ⟨i1, i2⟩ K hK
  rw [i2]
  by_cases hi : i < bs.length
  ·rw [show bs.length - i = (bs.length - (i + 1)) + 1 by omega] at i2 ⊢
   by_cases e : bs.getD i 0 = x
   ·simp (disch := omega) only [qv, List.foldl, List.replicate, zw, e, go_sem, qc, dvP, mdP]
    repeat' first
     | ((first | refine qe ?_ ?_ | refine qg ?_ ?_); (next => exact rvk); simp only [go_sem]; (first | exact VLe.refl _ | refine qh ?_ | refine qd ?_ | refine ql ?_ | skip))
     | with_reducible first | refine And.intro ?_ ?_ | intro _
    all_goals first
     | omega
     | skip
    simp only [qck, if_pos e]
   ·have e' : ¬ x = bs.getD i 0 := fun h => e h.symm
    simp (disch := omega) only [qv, List.foldl, List.replicate, zw, e', go_sem, qc, dvP, mdP]
    repeat' first
     | ((first | refine qe ?_ ?_ | refine qg ?_ ?_); (next => exact rvk); simp only [go_sem]; (first | exact VLe.refl _ | refine qh ?_ | refine qd ?_ | refine ql ?_ | skip))
     | with_reducible first | refine And.intro ?_ ?_ | intro _
    all_goals first
     | omega
     | skip
    refine hK _ _ (i + 1) ⟨by omega, ?_⟩ (by omega) (Wk.temps ?_)
    ·rw [i2]; simp only [qck, if_neg e]
    ·(simp only [qt, zw, qv, List.foldl, List.replicate, go_sem, qr, qp, qm, qq]; try (repeat' first | (with_reducible refine And.intro ?_ ?_) | (refine qh ?_; omega) | (refine qd ?_; rfl) | exact VLe.refl _))
  ·have e : i = bs.length := by omega
   subst e
   simp (disch := omega) only [qv, List.foldl, List.replicate, zw, go_sem, qc, dvP, mdP]
   repeat' first
    | ((first | refine qe ?_ ?_ | refine qg ?_ ?_); (next => exact rvk); simp only [go_sem]; (first | exact VLe.refl _ | refine qh ?_ | refine qd ?_ | refine ql ?_ | skip))
    | with_reducible first | refine And.intro ?_ ?_ | intro _
   all_goals first
    | omega
    | skip
   simp only [Nat.sub_self, qck]
theorem t17 (bs : List Int) (x : Int) (h : List AObj) (hl : bs.length ≤ 1000000) : qs Tryz.prog 77 [zw bs, .int .i64 x] h (.bool (bs.contains x)) h := by
 rw [← qe5]
 refine qn qwn (by simp) ?_
 simp only [lcP, lnP, Nat.reduceAdd, Nat.reduceSub, List.replicate, caP, naP, List.append_nil]
 simp (disch := omega) only [qxx, go_sem, qc, dvP, mdP]
 repeat' first
  | ((first | refine qj (t47 bs x _ hl) ?_ ?_); (next => exact flk); simp (disch := omega) only [go_sem, qc, dvP, mdP])
  | ((first | refine qk (fun e => ⟨?_, t47 bs x _ hl⟩) ?_); (next => exact flk); simp (disch := omega) only [go_sem, qc, dvP, mdP])
  | ((first | refine qe ?_ ?_ | refine qg ?_ ?_); (next => exact rvk); simp only [go_sem]; (first | exact VLe.refl _ | refine qh ?_ | refine qd ?_ | refine ql ?_ | skip))
  | with_reducible first | refine And.intro ?_ ?_ | intro _
 all_goals first
  | omega
  | trace_state
def qaU (bs : List Int) (i : Nat) : Int := if i = 0 then -1 else bs.getD (i - 1) 0
theorem qcp (l : List It) (bs : List Int) (i : Nat) (h : i < bs.length) : asc l (qaU bs i) (bs.drop i) = ((decide (0 ≤ bs.getD i 0) && (decide (bs.getD i 0 ≤ l.length) && (decide (qaU bs i < bs.getD i 0) && qji l (bs.getD i 0).toNat))) && asc l (qaU bs (i + 1)) (bs.drop (i + 1))) := by
 rw [List.drop_eq_getElem_cons h]
 have e : bs[i] = bs.getD i 0 := by simp [List.getD_eq_getElem?_getD, h]
 have e2 : qaU bs (i + 1) = bs.getD i 0 := by unfold qaU; rw [if_neg (by omega)]; rfl
 rw [e, e2]
 rfl
theorem qfg {bs : List Int} (h : bs.length ≠ 0) (n : Int) : decide (bs.getLast? = some n) = decide (bs.getD (bs.length - 1) 0 = n) := by
 rw [List.getLast?_eq_getElem?, List.getD_eq_getElem?_getD, List.getElem?_eq_getElem (by omega)]
 simp
theorem qdI {l : List It} {bs : List Int} : jT l bs = true ↔ ∀ j, j < l.length → (!jr l j || bs.contains (j : Int)) = true := by
 unfold jT
 rw [List.all_eq_true]
 simp only [List.mem_range]
set_option maxHeartbeats 2000000 in
theorem t46 (l : List It) (bs : List Int) (h : List AObj) (hl : l.length ≤ 300) (hb : bs.length ≤ 1000000) : qs Tryz.prog 45 [qt l, zw bs] h (.bool (jF l bs)) h := by
 by_cases h0 : bs.length = 0
 ·have e : bs = [] := List.eq_nil_of_length_eq_zero h0
  subst e
  refine qn qrj (by simp) ?_
  simp only [lcP, lnP, Nat.reduceAdd, Nat.reduceSub, List.replicate, caP, naP, List.append_nil]
  simp (disch := omega) only [qvt, qt, zw, List.length_nil, go_sem, qc, dvP, mdP]
  repeat' first
   | ((first | refine qe ?_ ?_ | refine qg ?_ ?_); (next => exact rvk); simp only [go_sem]; (first | exact VLe.refl _ | refine qh ?_ | refine qd ?_ | refine ql ?_ | skip))
   | with_reducible first | refine And.intro ?_ ?_ | intro _
  all_goals first
   | omega
   | trace_state
 ·cases hla : qff l bs with
  | false =>
   have hx : jF l bs = false := by unfold jF; rw [hla]; rfl
   unfold qff at hla
   rw [qfg h0, decide_eq_false_iff_not] at hla
   rw [hx]
   have ht : ((bs.length : Int) - 1).toNat = bs.length - 1 := by omega
   refine qn qrj (by simp) ?_
   simp only [lcP, lnP, Nat.reduceAdd, Nat.reduceSub, List.replicate, caP, naP, List.append_nil]
   simp (disch := omega) only [qvt, qt, zw, h0, ht, go_sem, qc, dvP, mdP]
   repeat' first
    | ((first | refine qe ?_ ?_ | refine qg ?_ ?_); (next => exact rvk); simp only [go_sem]; (first | exact VLe.refl _ | refine qh ?_ | refine qd ?_ | refine ql ?_ | skip))
    | with_reducible first | refine And.intro ?_ ?_ | intro _
   all_goals first
    | omega
    | trace_state
  | true =>
   have hx : jF l bs = (asc l (-1) bs && jT l bs) := by unfold jF; rw [hla]; rfl
   unfold qff at hla
   rw [qfg h0, decide_eq_true_eq] at hla
   rw [hx]
   have ht : ((bs.length : Int) - 1).toNat = bs.length - 1 := by omega
   refine qn qrj (by simp) ?_
   simp only [lcP, lnP, Nat.reduceAdd, Nat.reduceSub, List.replicate, caP, naP, List.append_nil]
   simp (disch := omega) only [qvt, qt, zw, h0, ht, hla, go_sem, qc, dvP, mdP]
   repeat' first
    | ((first | refine qe ?_ ?_ | refine qg ?_ ?_); (next => exact rvk); simp only [go_sem]; (first | exact VLe.refl _ | refine qh ?_ | refine qd ?_ | refine ql ?_ | skip))
    | with_reducible first | refine And.intro ?_ ?_ | intro _
   all_goals first
    | omega
    | skip
   have hs : asc l (-1) bs = asc l (qaU bs 0) (bs.drop 0) := rfl
   refine qJ (T := fun i : Nat => qv 72 [(0, qt l), (1, zw bs), (4, .bool false), (22, zw bs), (23, .int .i64 bs.length), (24, .int .i64 i)]) (H := fun _ => h) (inv := fun i => i ≤ bs.length ∧ asc l (-1) bs = asc l (qaU bs i) (bs.drop i)) (m := fun i => bs.length - i) 0 ⟨by omega, hs⟩ (Wk.temps ?_) ?_
   ·(simp only [qt, zw, qv, List.foldl, List.replicate, go_sem, qr, qp, qm, qq]; try (repeat' first | (with_reducible refine And.intro ?_ ?_) | (refine qh ?_; omega) | (refine qd ?_; rfl) | exact VLe.refl _))
   ·rintro i ⟨i1, i2⟩ K hK
    by_cases hi : i < bs.length
    ·have hstep := qcp l bs i hi
     have hc42 : ∀ h : List AObj, 0 ≤ bs.getD i 0 → bs.getD i 0 ≤ l.length → qs Tryz.prog 72 [qt l, .int .i64 (bs.getD i 0)] h (.bool (qji l (bs.getD i 0).toNat)) h := fun h a b => by
      have := t42 l (bs.getD i 0).toNat h (by omega) (by omega)
      rwa [Int.toNat_of_nonneg a] at this
     have hm1 : ((i : Int) - 1).toNat = i - 1 := by omega
     have hpv : qaU bs i = if i = 0 then -1 else bs.getD (i - 1) 0 := rfl
     cases hen : qji l (bs.getD i 0).toNat
     all_goals rw [hen] at hc42 hstep
     ·simp (disch := omega) only [qv, List.foldl, List.replicate, qt, zw, hm1, go_sem, qc, dvP, mdP]
      repeat' first
       | ((first | refine qj (hc42 _ (by simp only [Bool.not_eq_true', Bool.or_eq_false_iff, decide_eq_false_iff_not] at e; omega) (by simp only [Bool.not_eq_true', Bool.or_eq_false_iff, decide_eq_false_iff_not] at e; omega)) ?_ ?_); (next => exact flk); simp (disch := omega) only [go_sem, qc, dvP, mdP])
       | ((first | refine qk (fun e => ⟨?_, hc42 _ (by simp only [Bool.not_eq_true', Bool.or_eq_false_iff, decide_eq_false_iff_not] at e; omega) (by simp only [Bool.not_eq_true', Bool.or_eq_false_iff, decide_eq_false_iff_not] at e; omega)⟩) ?_); (next => exact flk); simp (disch := omega) only [go_sem, qc, dvP, mdP])
       | ((first | refine qe ?_ ?_ | refine qg ?_ ?_); (next => exact rvk); simp only [go_sem]; (first | exact VLe.refl _ | refine qh ?_ | refine qd ?_ | refine ql ?_ | skip))
       | with_reducible first | refine And.intro ?_ ?_ | intro _
      all_goals first
       | omega
       | skip
      rw [i2, hstep]
      simp
     ·simp (disch := omega) only [qv, List.foldl, List.replicate, qt, zw, hm1, go_sem, qc, dvP, mdP]
      repeat' first
       | ((first | refine qj (hc42 _ (by simp only [Bool.not_eq_true', Bool.or_eq_false_iff, decide_eq_false_iff_not] at e; omega) (by simp only [Bool.not_eq_true', Bool.or_eq_false_iff, decide_eq_false_iff_not] at e; omega)) ?_ ?_); (next => exact flk); simp (disch := omega) only [go_sem, qc, dvP, mdP])
       | ((first | refine qk (fun e => ⟨?_, hc42 _ (by simp only [Bool.not_eq_true', Bool.or_eq_false_iff, decide_eq_false_iff_not] at e; omega) (by simp only [Bool.not_eq_true', Bool.or_eq_false_iff, decide_eq_false_iff_not] at e; omega)⟩) ?_); (next => exact flk); simp (disch := omega) only [go_sem, qc, dvP, mdP])
       | ((first | refine qe ?_ ?_ | refine qg ?_ ?_); (next => exact rvk); simp only [go_sem]; (first | exact VLe.refl _ | refine qh ?_ | refine qd ?_ | refine ql ?_ | skip))
       | with_reducible first | refine And.intro ?_ ?_ | intro _
      all_goals first
       | omega
       | skip
      ·rename_i hxx
       rw [i2, hstep]
       have : (decide (0 ≤ bs.getD i 0) && (decide (bs.getD i 0 ≤ ↑l.length) && (decide (qaU bs i < bs.getD i 0) && true))) = false := by
        rw [Bool.eq_false_iff]; intro hq; simp only [Bool.and_eq_true, decide_eq_true_eq] at hq; rw [hpv] at hq
        split at hq <;> omega
       rw [this]
       rfl
      ·rename_i hxx
       refine hK _ _ (i + 1) ⟨by omega, ?_⟩ (by omega) (Wk.temps ?_)
       ·rw [i2, hstep]
        have : (decide (0 ≤ bs.getD i 0) && (decide (bs.getD i 0 ≤ ↑l.length) && (decide (qaU bs i < bs.getD i 0) && true))) = true := by
         simp only [Bool.and_eq_true, decide_eq_true_eq]; rw [hpv]
         refine ⟨by omega, by omega, ?_, trivial⟩
         split <;> omega
        rw [this]
        rfl
       ·(simp only [qt, zw, qv, List.foldl, List.replicate, go_sem, qr, qp, qm, qq]; try (repeat' first | (with_reducible refine And.intro ?_ ?_) | (refine qh ?_; omega) | (refine qd ?_; rfl) | exact VLe.refl _))
    ·have e : i = bs.length := by omega
     subst e
     rw [List.drop_length] at i2
     have i3 : asc l (-1) bs = true := i2
     rw [i3, Bool.true_and]
     simp (disch := omega) only [qv, List.foldl, List.replicate, qt, zw, go_sem, qc, dvP, mdP]
     refine ⟨fun hc => absurd hc (by omega), fun _ => ?_⟩
     refine qJ (T := fun i : Nat => qv 72 [(0, qt l), (1, zw bs), (4, .bool false), (57, qt l), (58, .int .i64 l.length), (59, .int .i64 i)]) (H := fun _ => h) (inv := fun i => i ≤ l.length ∧ ∀ j, j < i → (!jr l j || bs.contains (j : Int)) = true) (m := fun i => l.length - i) 0 ⟨by omega, fun j hj => absurd hj (by omega)⟩ (Wk.temps ?_) ?_
     ·(simp only [qt, zw, qv, List.foldl, List.replicate, go_sem, qr, qp, qm, qq]; try (repeat' first | (with_reducible refine And.intro ?_ ?_) | (refine qh ?_; omega) | (refine qd ?_; rfl) | exact VLe.refl _))
     ·rintro i ⟨i1, i2⟩ K hK
      by_cases hi : i < l.length
      ·cases hfo : jr l i
       ·simp (disch := omega) only [qv, List.foldl, List.replicate, qt, zw, go_sem, qc, dvP, mdP]
        repeat' first
         | ((first | refine qj (t43 l i _) ?_ ?_ | refine qj (t17 bs i _ hb) ?_ ?_); (next => exact flk); simp (disch := omega) only [hfo, go_sem, qc, dvP, mdP])
         | ((first | refine qo (fun _ => t43 l i _) ?_ ?_); (next => exact flk); simp (disch := omega) only [hfo, go_sem, qc, dvP, mdP])
         | ((first | refine qk (fun e => ⟨?_, t43 l i _⟩) ?_ | refine qk (fun e => ⟨?_, t17 bs i _ hb⟩) ?_); (next => exact flk); simp (disch := omega) only [hfo, go_sem, qc, dvP, mdP])
         | ((first | refine qe ?_ ?_ | refine qg ?_ ?_); (next => exact rvk); simp only [go_sem]; (first | exact VLe.refl _ | refine qh ?_ | refine qd ?_ | refine ql ?_ | skip))
         | with_reducible first | refine And.intro ?_ ?_ | intro _
        all_goals first
         | omega
         | (rename_i hx; revert hx; simp; done)
         | skip
        refine hK _ _ (i + 1) ⟨by omega, fun j hj => ?_⟩ (by omega) (Wk.temps ?_)
        ·by_cases ej : j = i
         ·rw [ej, hfo]; rfl
         ·exact i2 j (by omega)
        ·(simp only [qt, zw, qv, List.foldl, List.replicate, go_sem, qr, qp, qm, qq]; try (repeat' first | (with_reducible refine And.intro ?_ ?_) | (refine qh ?_; omega) | (refine qd ?_; rfl) | exact VLe.refl _))
       ·cases hco : bs.contains (i : Int)
        ·simp (disch := omega) only [qv, List.foldl, List.replicate, qt, zw, go_sem, qc, dvP, mdP]
         repeat' first
          | ((first | refine qj (t43 l i _) ?_ ?_ | refine qj (t17 bs i _ hb) ?_ ?_); (next => exact flk); simp (disch := omega) only [hfo, hco, go_sem, qc, dvP, mdP])
          | ((first | refine qo (fun _ => t43 l i _) ?_ ?_); (next => exact flk); simp (disch := omega) only [hfo, hco, go_sem, qc, dvP, mdP])
          | ((first | refine qk (fun e => ⟨?_, t43 l i _⟩) ?_ | refine qk (fun e => ⟨?_, t17 bs i _ hb⟩) ?_); (next => exact flk); simp (disch := omega) only [hfo, hco, go_sem, qc, dvP, mdP])
          | ((first | refine qe ?_ ?_ | refine qg ?_ ?_); (next => exact rvk); simp only [go_sem]; (first | exact VLe.refl _ | refine qh ?_ | refine qd ?_ | refine ql ?_ | skip))
          | with_reducible first | refine And.intro ?_ ?_ | intro _
         all_goals first
          | omega
          | skip
         have hne : jT l bs = false := by
          rw [Bool.eq_false_iff]; intro hq; have := qdI.1 hq i hi; rw [hfo, hco] at this; cases this
         rw [hne]
         all_goals trace_state
        ·simp (disch := omega) only [qv, List.foldl, List.replicate, qt, zw, go_sem, qc, dvP, mdP]
         repeat' first
          | ((first | refine qj (t43 l i _) ?_ ?_ | refine qj (t17 bs i _ hb) ?_ ?_); (next => exact flk); simp (disch := omega) only [hfo, hco, go_sem, qc, dvP, mdP])
          | ((first | refine qo (fun _ => t43 l i _) ?_ ?_); (next => exact flk); simp (disch := omega) only [hfo, hco, go_sem, qc, dvP, mdP])
          | ((first | refine qk (fun e => ⟨?_, t43 l i _⟩) ?_ | refine qk (fun e => ⟨?_, t17 bs i _ hb⟩) ?_); (next => exact flk); simp (disch := omega) only [hfo, hco, go_sem, qc, dvP, mdP])
          | ((first | refine qe ?_ ?_ | refine qg ?_ ?_); (next => exact rvk); simp only [go_sem]; (first | exact VLe.refl _ | refine qh ?_ | refine qd ?_ | refine ql ?_ | skip))
          | with_reducible first | refine And.intro ?_ ?_ | intro _
         all_goals first
          | omega
          | skip
         refine hK _ _ (i + 1) ⟨by omega, fun j hj => ?_⟩ (by omega) (Wk.temps ?_)
         ·by_cases ej : j = i
          ·rw [ej, hfo, hco]; rfl
          ·exact i2 j (by omega)
         ·(simp only [qt, zw, qv, List.foldl, List.replicate, go_sem, qr, qp, qm, qq]; try (repeat' first | (with_reducible refine And.intro ?_ ?_) | (refine qh ?_; omega) | (refine qd ?_; rfl) | exact VLe.refl _))
      ·have e : i = l.length := by omega
       subst e
       have hne : jT l bs = true := qdI.2 i2
       rw [hne]
       simp (disch := omega) only [qv, List.foldl, List.replicate, qt, zw, go_sem, qc, dvP, mdP]
       repeat' first
        | ((first | refine qe ?_ ?_ | refine qg ?_ ?_); (next => exact rvk); simp only [go_sem]; (first | exact VLe.refl _ | refine qh ?_ | refine qd ?_ | refine ql ?_ | skip))
        | with_reducible first | refine And.intro ?_ ?_ | intro _
       all_goals first
        | omega
        | trace_state
end
section
open Go Go.Proofs AF P48
open HY (bufO bufO_nil bufO_ne bytesA_app bytesA_low bufO_low bld_set bld_low bufO_if)
set_option maxRecDepth 100000
def quk (ls : List P48.Line) : AV := .sl ls.length fun i => zd (ls.getD i default)
def kc (ls : List P48.Line) : List AV := ls.flatMap zd
def qrG (v : Nat) (ls : List P48.Line) : AObj := if ls = [] then .emp 1 else .mem v 49 (kc ls)
theorem qc1 (v : Nat) : qrG v [] = .emp 1 := rfl
theorem qbq {ls : List P48.Line} (h : ls ≠ []) (v : Nat) : qrG v ls = .mem v 49 (kc ls) := if_neg h
theorem qfh (x : P48.Line) : (zd x).length = 5 := rfl
theorem qbE (l : List P48.Line) : (kc l).length = l.length * 5 := by
 induction l with
 | nil => rfl
 | cons x l ih => unfold kc at *; rw [List.flatMap_cons, List.length_append, ih, qfh, List.length_cons]; omega
theorem qeR (l : List P48.Line) : (List.range l.length).flatMap (fun i => zd (l.getD i default)) = kc l := by
 have : l = (List.range l.length).map (fun i => l.getD i default) := by
  apply List.ext_getElem
  ·simp
  ·intro i h1 h2; simp [List.getD_eq_getElem?_getD, h1]
 unfold kc
 conv => rhs; rw [this]
 rw [List.flatMap_map]
theorem qum {L : List P48.Line} {n m : Nat} {fz : Nat → Bool} {h : List AObj} (e : L.length = m) : VLe (.sl m fun i => (((kc L).drop (i * 5)).take 5).map (rei fz h (n + 1))) (quk L) := by
 subst e
 refine qcC rfl (fun i hi => ?_)
 rw [← qeR, qvP (fun j _ => qfh _) hi]
 rfl
theorem qf4 (L : List P48.Line) (x : P48.Line) : kc (L ++ [x]) = kc L ++ zd x := by simp [kc]
def qe3 (bs : List Int) (i : Nat) : Nat := if i = 0 then 0 else (bs.getD (i - 1) 0).toNat + 1
theorem qdB {l : List It} {bs : List Int} (h : jF l bs = true) : ∀ i, i ≤ bs.length → asc l (qaU bs i) (bs.drop i) = true := by
 have h1 : asc l (-1) bs = true := by
  unfold jF at h
  simp only [Bool.and_eq_true] at h
  exact h.2.1
 intro i
 induction i with
 | zero => intro _; exact h1
 | succ i ih =>
  intro hi
  have := ih (by omega)
  rw [qcp l bs i (by omega)] at this
  simp only [Bool.and_eq_true] at this
  exact this.2
theorem qd3 {l : List It} {bs : List Int} (h : jF l bs = true) (i : Nat) (hi : i < bs.length) : 0 ≤ bs.getD i 0 := by
 have h1 := qdB h i (by omega)
 rw [qcp l bs i hi] at h1
 simp only [Bool.and_eq_true, decide_eq_true_eq] at h1
 exact h1.1.1
theorem qkb {l : List It} {bs : List Int} (h : jF l bs = true) {i : Nat} (hi : i < bs.length) : 0 ≤ bs.getD i 0 ∧ bs.getD i 0 ≤ l.length ∧ (qe3 bs i : Int) ≤ bs.getD i 0 := by
 have h1 := qdB h i (by omega)
 rw [qcp l bs i hi] at h1
 simp only [Bool.and_eq_true, decide_eq_true_eq] at h1
 refine ⟨h1.1.1, h1.1.2.1, ?_⟩
 have h2 := h1.1.2.2.1
 unfold qaU at h2
 unfold qe3
 have h3 := h1.1.1
 split at h2
 ·rename_i e; rw [if_pos e]; omega
 ·rename_i e; rw [if_neg e]
  have h5 := qd3 h (i - 1) (by omega)
  omega
theorem qlD (bs : List Int) {i : Nat} (hi : i < bs.length) : (kZ bs).drop i = (bs.getD i 0).toNat :: (kZ bs).drop (i + 1) := by
 unfold kZ
 rw [List.drop_eq_getElem_cons (by simpa using hi)]
 simp [List.getD_eq_getElem?_getD, hi]
set_option maxHeartbeats 4000000 in
theorem t16 (l : List It) (width : Int) (bs : List Int) (h : List AObj) (hl : l.length ≤ 300) (hb : bs.length ≤ 1000000) (hB : ∀ i, (it l i).text.length ≤ 1000000) :
  qs Tryz.prog 14 [qt l, .int .i64 width, zw bs] h (.tup [quk (jL l width bs).1, .int .i64 (jL l width bs).2]) h := by
 have hnl : VLe .nl (quk []) := ku
 by_cases hw : jq l width = 0
 ·obtain ⟨hc, w0, w1⟩ := qbZ l width hw
  have hv := Valid.of hl hc
  cases hbr : jF l bs with
  | false =>
   have e : jL l width bs = ([], 23) := by unfold jL; rw [if_pos hw, hbr]; rfl
   rw [e]
   refine qn qrg (by simp) ?_
   simp only [lcP, lnP, Nat.reduceAdd, Nat.reduceSub, List.replicate, caP, naP, List.append_nil]
   simp (disch := omega) only [qvr, go_sem, qc, dvP, mdP]
   repeat' first
    | ((first | refine qj (t38 l width _ (by omega)) ?_ ?_ | refine qj (t46 l bs _ hl hb) ?_ ?_); (next => exact flk); simp (disch := omega) only [hw, hbr, go_sem, qc, dvP, mdP])
    | ((first | refine qk (fun e => ⟨?_, t38 l width _ (by omega)⟩) ?_ | refine qk (fun e => ⟨?_, t46 l bs _ hl hb⟩) ?_); (next => exact flk); simp (disch := omega) only [hw, hbr, go_sem, qc, dvP, mdP])
    | ((first | refine qe ?_ ?_ | refine qg ?_ ?_); (next => exact rvk); simp only [go_sem]; (first | exact VLe.refl _ | refine qh ?_ | refine qd ?_ | refine ql ?_ | skip))
    | with_reducible first | refine And.intro ?_ ?_ | intro _
   all_goals first
    | omega
    | skip
   exact zb (zG hnl (zG (VLe.refl _) jN.nil))
  | true =>
   refine qn qrg (by simp) ?_
   simp only [lcP, lnP, Nat.reduceAdd, Nat.reduceSub, List.replicate, caP, naP, List.append_nil]
   simp (disch := omega) only [qvr, go_sem, qc, dvP, mdP]
   repeat' first
    | ((first | refine qj (t38 l width _ (by omega)) ?_ ?_ | refine qj (t46 l bs _ hl hb) ?_ ?_); (next => exact flk); simp (disch := omega) only [hw, hbr, zw, go_sem, qc, dvP, mdP])
    | ((first | refine qk (fun e => ⟨?_, t38 l width _ (by omega)⟩) ?_ | refine qk (fun e => ⟨?_, t46 l bs _ hl hb⟩) ?_); (next => exact flk); simp (disch := omega) only [hw, hbr, zw, go_sem, qc, dvP, mdP])
    | ((first | refine qe ?_ ?_ | refine qg ?_ ?_); (next => exact rvk); simp only [go_sem]; (first | exact VLe.refl _ | refine qh ?_ | refine qd ?_ | refine ql ?_ | skip))
    | with_reducible first | refine And.intro ?_ ?_ | intro _
   all_goals first
    | omega
    | skip
   have hnl0 : (kZ bs).length = bs.length := by simp [kZ]
   refine qJ (T := fun i : Nat × List P48.Line × AObj × AObj × Nat => qv 49 [(0, qt l), (1, .int .i64 width), (2, zw bs), (9, .osl (h.length + 1) i.2.2.2.2 5 0 i.2.1.length), (10, .int .i64 (qe3 bs i.1)), (25, zw bs), (26, .int .i64 bs.length), (27, .int .i64 i.1)])
    (H := fun i => h ++ [.emp 1, qrG i.2.2.2.2 i.2.1, i.2.2.1, i.2.2.2.1, .emp 0])
    (inv := fun i => i.1 ≤ bs.length ∧ i.2.1.length = i.1 ∧ jb l width 0 (kZ bs) = (jb l width (qe3 bs i.1) ((kZ bs).drop i.1)).map (i.2.1 ++ ·) ∧ q9 [i.2.2.1] 0 = true ∧ q9 [i.2.2.2.1] 0 = true ∧ (i.2.1 = [] → i.2.2.2.2 = 1)) (m := fun i => bs.length - i.1) (0, [], .emp 0, .emp 0, 1)
    ⟨by simp only; omega, rfl, ?_, rfl, rfl, fun _ => rfl⟩ (Wk.temps ?_) ?_
   ·simp only [List.drop_zero, List.nil_append]
    show _ = Option.map _ (jb l width 0 (kZ bs))
    simp
   ·(simp only [List.length_nil, qt, zw, qv, List.foldl, List.replicate, go_sem, qr, qp, qm, qq]; try (repeat' first | (with_reducible refine And.intro ?_ ?_) | (refine qh ?_; omega) | (refine qd ?_; rfl) | exact VLe.refl _))
    all_goals trace_state
   ·rintro ⟨i, L, O2, O3, v⟩ ⟨i1, i2, i3, i4, i5, i6⟩ K hK
    simp only at i1 i2 i3 i4 i5 i6 hK
    have i4' : ∀ m, q9 (O2 :: m) 0 = true := fun _ => i4
    have i5' : ∀ m, q9 (O3 :: m) 0 = true := fun _ => i5
    by_cases hi : i < bs.length
    ·obtain ⟨b0, b1, b2⟩ := qkb hbr hi
     rw [qlD bs hi] at i3
     obtain ⟨to, hto⟩ : ∃ to : Nat, bs.getD i 0 = to := ⟨(bs.getD i 0).toNat, by omega⟩
     rw [hto] at b0 b1 b2
     have hto2 : (bs.getD i 0).toNat = to := by omega
     have hfr : qe3 bs (i + 1) = to + 1 := by unfold qe3; rw [if_neg (by omega)]; show (bs.getD i 0).toNat + 1 = _; omega
     rw [hto2] at i3
     simp only [jb] at i3
     have hc44 : ∀ h : List AObj, qs Tryz.prog 46 [qt l, .int .i64 width, .int .i64 (qe3 bs i), .int .i64 to] h (.tup [.agg (zd (kk l width (qe3 bs i) to)), .bool (kh l width (qe3 bs i) to).2.2]) h := fun h => t44 l width (qe3 bs i) to h hv hB w0 w1 (by omega) (by omega)
     cases hfe : (kh l width (qe3 bs i) to).2.2 with
     | false =>
      rw [hfe] at i3 hc44
      have e : jL l width bs = ([], 21) := by unfold jL; rw [if_pos hw, if_pos hbr, i3]; rfl
      rw [e]
      by_cases hL : L = []
      ·subst hL
       have hv1 := i6 rfl
       subst hv1
       simp (disch := omega) only [qv, List.foldl, List.replicate, zw, hto, i4', i5', qc1, List.length_nil, go_sem, qc, dvP, mdP]
       repeat' first
        | ((first | refine qj (hc44 _) ?_ ?_); (next => exact flk); simp (disch := omega) only [i4', i5', qL, zd, go_sem, qc, dvP, mdP])
        | ((first | refine qo (fun _ => hc44 _) ?_ ?_); (next => exact flk); simp (disch := omega) only [i4', i5', qL, zd, go_sem, qc, dvP, mdP])
        | ((first | refine qk (fun e => ⟨?_, hc44 _⟩) ?_); (next => exact flk); simp (disch := omega) only [i4', i5', qL, zd, go_sem, qc, dvP, mdP])
        | ((first | refine qe ?_ ?_ | refine qg ?_ ?_); (next => exact rvk); simp only [go_sem]; (first | exact VLe.refl _ | refine qh ?_ | refine qd ?_ | refine ql ?_ | skip))
        | with_reducible first | refine And.intro ?_ ?_ | intro _
       all_goals first
        | omega
        | (simp; done)
        | skip
       exact zb (zG hnl (zG (VLe.refl _) jN.nil))
      ·have eO := qbq hL v
       have eL := qbE L
       have eT : List.take (L.length * 5) (kc L) = kc L := List.take_of_length_le (by omega)
       simp (disch := omega) only [qv, List.foldl, List.replicate, zw, hto, i4', i5', eO, go_sem, qc, dvP, mdP]
       repeat' first
        | ((first | refine qj (hc44 _) ?_ ?_); (next => exact flk); simp (disch := omega) only [i4', i5', qL, zd, eL, eT, go_sem, qc, dvP, mdP])
        | ((first | refine qo (fun _ => hc44 _) ?_ ?_); (next => exact flk); simp (disch := omega) only [i4', i5', qL, zd, eL, eT, go_sem, qc, dvP, mdP])
        | ((first | refine qk (fun e => ⟨?_, hc44 _⟩) ?_); (next => exact flk); simp (disch := omega) only [i4', i5', qL, zd, eL, eT, go_sem, qc, dvP, mdP])
        | ((first | refine qe ?_ ?_ | refine qg ?_ ?_); (next => exact rvk); simp only [go_sem]; (first | exact VLe.refl _ | refine qh ?_ | refine qd ?_ | refine ql ?_ | skip))
        | with_reducible first | refine And.intro ?_ ?_ | intro _
       all_goals first
        | omega
        | (simp; done)
        | skip
       exact zb (zG hnl (zG (VLe.refl _) jN.nil))
     | true =>
      rw [hfe] at i3 hc44
      by_cases hL : L = []
      ·subst hL
       have hv1 := i6 rfl
       subst hv1
       simp (disch := omega) only [qv, List.foldl, List.replicate, zw, hto, i4', i5', qc1, List.length_nil, go_sem, qc, dvP, mdP]
       repeat' first
        | ((first | refine qj (hc44 _) ?_ ?_); (next => exact flk); simp (disch := omega) only [i4', i5', qL, zd, go_sem, qc, dvP, mdP])
        | ((first | refine qo (fun _ => hc44 _) ?_ ?_); (next => exact flk); simp (disch := omega) only [i4', i5', qL, zd, go_sem, qc, dvP, mdP])
        | ((first | refine qk (fun e => ⟨?_, hc44 _⟩) ?_); (next => exact flk); simp (disch := omega) only [i4', i5', qL, zd, go_sem, qc, dvP, mdP])
        | ((first | refine qe ?_ ?_ | refine qg ?_ ?_); (next => exact rvk); simp only [go_sem]; (first | exact VLe.refl _ | refine qh ?_ | refine qd ?_ | refine ql ?_ | skip))
        | with_reducible first | refine And.intro ?_ ?_ | intro _
       all_goals first
        | omega
        | (simp; done)
        | skip
       refine hK _ _ (i + 1, [kk l width (qe3 bs i) to], .mem (qz (some O2) + 1) 49 (zd (kk l width (qe3 bs i) to)), .mem (qz (some O3) + 1) 49 (zd (kk l width (qe3 bs i) to)), 2) ⟨by simp only; omega, by simp at i2 ⊢; omega, ?_, rfl, rfl, by simp⟩ (by simp only; omega) ?_
       ·simp only [hfr]
        rw [i3]
        simp [Option.map_map, Function.comp_def]
       ·rw [qbq (by simp)]
        simp only [hfr]
        refine Wk.temps ?_
        (simp only [List.length_singleton, qt, zw, qv, List.foldl, List.replicate, go_sem, qr, qp, qm, qq]; try (repeat' first | (with_reducible refine And.intro ?_ ?_) | (refine qh ?_; omega) | (refine qd ?_; rfl) | exact VLe.refl _))
      ·have eO := qbq hL v
       have eL := qbE L
       have eT : List.take (L.length * 5) (kc L) = kc L := List.take_of_length_le (by omega)
       simp (disch := omega) only [qv, List.foldl, List.replicate, zw, hto, i4', i5', eO, go_sem, qc, dvP, mdP]
       repeat' first
        | ((first | refine qj (hc44 _) ?_ ?_); (next => exact flk); simp (disch := omega) only [i4', i5', qL, zd, eL, eT, go_sem, qc, dvP, mdP])
        | ((first | refine qo (fun _ => hc44 _) ?_ ?_); (next => exact flk); simp (disch := omega) only [i4', i5', qL, zd, eL, eT, go_sem, qc, dvP, mdP])
        | ((first | refine qk (fun e => ⟨?_, hc44 _⟩) ?_); (next => exact flk); simp (disch := omega) only [i4', i5', qL, zd, eL, eT, go_sem, qc, dvP, mdP])
        | ((first | refine qe ?_ ?_ | refine qg ?_ ?_); (next => exact rvk); simp only [go_sem]; (first | exact VLe.refl _ | refine qh ?_ | refine qd ?_ | refine ql ?_ | skip))
        | with_reducible first | refine And.intro ?_ ?_ | intro _
       all_goals first
        | omega
        | (simp; done)
        | skip
       refine hK _ _ (i + 1, L ++ [kk l width (qe3 bs i) to], .mem (qz (some O2) + 1) 49 (zd (kk l width (qe3 bs i) to)), .mem (qz (some O3) + 1) 49 (zd (kk l width (qe3 bs i) to)), v + 1) ⟨by simp only; omega, by simp; omega, ?_, rfl, rfl, by simp⟩ (by simp only; omega) ?_
       ·simp only [hfr]
        rw [i3]
        simp [Option.map_map, Function.comp_def]
       ·rw [qbq (by simp)]
        simp only [hfr, qf4]
        refine Wk.temps ?_
        (simp only [List.length_append, List.length_singleton, qt, zw, qv, List.foldl, List.replicate, go_sem, qr, qp, qm, qq]; try (repeat' first | (with_reducible refine And.intro ?_ ?_) | (refine qh ?_; omega) | (refine qd ?_; rfl) | exact VLe.refl _))
    ·have e : i = bs.length := by omega
     subst e
     have e0 : (kZ bs).drop bs.length = [] := by rw [← hnl0, List.drop_length]
     rw [e0] at i3
     have e : jL l width bs = (L, 0) := by unfold jL; rw [if_pos hw, if_pos hbr, i3]; simp [jb]
     rw [e]
     by_cases hL : L = []
     ·subst hL
      have hv1 := i6 rfl
      subst hv1
      simp (disch := omega) only [qv, List.foldl, List.replicate, zw, qc1, List.length_nil, go_sem, qc, dvP, mdP]
      repeat' first
       | ((first | refine qe ?_ ?_ | refine qg ?_ ?_); (next => exact rvk); simp only [go_sem]; (first | exact VLe.refl _ | refine qh ?_ | refine qd ?_ | refine ql ?_ | skip))
       | with_reducible first | refine And.intro ?_ ?_ | intro _
      all_goals first
       | omega
       | skip
      exact zb (zG hnl (zG (VLe.refl _) jN.nil))
     ·have eO := qbq hL v
      have eL := qbE L
      simp (disch := omega) only [qv, List.foldl, List.replicate, zw, eO, eL, go_sem, qc, dvP, mdP]
      repeat' first
       | ((first | refine qe ?_ ?_ | refine qg ?_ ?_); (next => exact rvk); simp only [go_sem]; (first | exact VLe.refl _ | refine qh ?_ | refine qd ?_ | refine ql ?_ | skip))
       | with_reducible first | refine And.intro ?_ ?_ | intro _
      all_goals first
       | omega
       | skip
      rw [if_pos (by omega)]
      exact zb (zG (qum rfl) (zG (VLe.refl _) jN.nil))
 ·have e : jL l width bs = ([], jq l width) := by unfold jL; rw [if_neg hw]
  rw [e]
  refine qn qrg (by simp) ?_
  simp only [lcP, lnP, Nat.reduceAdd, Nat.reduceSub, List.replicate, caP, naP, List.append_nil]
  simp (disch := omega) only [qvr, go_sem, qc, dvP, mdP]
  repeat' first
   | ((first | refine qj (t38 l width _ (by omega)) ?_ ?_); (next => exact flk); simp (disch := omega) only [hw, go_sem, qc, dvP, mdP])
   | ((first | refine qk (fun e => ⟨?_, t38 l width _ (by omega)⟩) ?_); (next => exact flk); simp (disch := omega) only [hw, go_sem, qc, dvP, mdP])
   | ((first | refine qe ?_ ?_ | refine qg ?_ ?_); (next => exact rvk); simp only [go_sem]; (first | exact VLe.refl _ | refine qh ?_ | refine qd ?_ | refine ql ?_ | skip))
   | with_reducible first | refine And.intro ?_ ?_ | intro _
  all_goals first
   | omega
   | skip
  exact zb (zG hnl (zG (VLe.refl _) jN.nil))
end
section
open Go Go.Proofs AF HY
namespace HY
set_option maxRecDepth 100000
theorem qe8 (L : List Int) : (List.range L.length).flatMap (fun i => [AV.int .i64 (L.getD i 0)]) = qU L := by
 rw [← List.map_eq_flatMap]
 unfold qU
 apply List.ext_getElem
 ·simp
 ·intro i h1 h2
  simp at h1
  simp [List.getD_eq_getElem?_getD, h1]
theorem qwL (h : List AObj) : qs Tryz.prog 67 [.nl] h .nl h := by
 refine qn qt1 (by simp) ?_
 simp only [lcP, lnP, Nat.reduceAdd, Nat.reduceSub, List.replicate, caP, naP, List.append_nil]
 simp (disch := omega) only [qvH, go_sem, qc, dvP, mdP]
 repeat' first
  | ((first | refine qe ?_ ?_ | refine qg ?_ ?_); (next => exact rvk); simp only [go_sem]; (first | exact VLe.refl _ | refine qh ?_ | refine qd ?_ | refine ql ?_ | skip))
  | with_reducible first | refine And.intro ?_ ?_ | intro _
 all_goals try exact clz
theorem t90 (L : List Int) (h : List AObj) (k : Nat) (hk : q9 h k = true) (h0 : L.length ≠ 0) (hl : L.length ≤ 1000000) :
  qs Tryz.prog 67 [qw L] h (.osl k (qz (qI k h) + 1) 1 0 L.length) (qM k h (.mem (qz (qI k h) + 1) 3 (qU L))) := by
 refine qfV qt1 k (by simp) ?_
 simp only [lcP, lnP, Nat.reduceAdd, Nat.reduceSub, List.replicate, caP, naP, List.append_nil]
 have el := zj L
 simp (disch := omega) only [qvH, qw, h0, qL, qe8, el, go_sem, qc, dvP, mdP]
 exact ⟨by repeat' (first | rfl | omega | (with_reducible refine And.intro ?_ ?_)), h.length + 1, 2, 1, 0, L.length, 3, qU L, [AObj.emp 1, AObj.mem 2 3 (qU L), AObj.emp 0], ⟨trivial, trivial⟩, rfl, rfl, by omega, by simp only [go_sem], by
  intro c hc
  unfold qU at hc
  rw [List.mem_map] at hc
  obtain ⟨x, _, rfl⟩ := hc
  rfl, hk, rfl, rfl⟩
def km (L : List Int) (j : Nat) : Int := if j = 0 then 0 else L.getD (j - 1) 0
def qb9 (w : List UInt8) (L : List Int) (j : Nat) : List UInt8 := (w.drop (km L j).toNat).take ((L.getD j 0).toNat - (km L j).toNat)
def zA (w : List UInt8) (L : List Int) (j : Nat) : List (List UInt8) := (List.range j).map (qb9 w L)
def qlK (w : List UInt8) (L : List Int) : Prop := ∀ j, j < L.length → 0 ≤ km L j ∧ km L j ≤ L.getD j 0 ∧ L.getD j 0 ≤ w.length
theorem qc7 (L : List Int) : km L 0 = 0 := rfl
theorem qc6 (L : List Int) (j : Nat) : km L (j + 1) = L.getD j 0 := by simp [km]
theorem qca (w : List UInt8) (L : List Int) (j : Nat) : zA w L (j + 1) = zA w L j ++ [qb9 w L j] := by unfold zA; rw [List.range_succ, List.map_append]; rfl
theorem jy (w : List UInt8) (L : List Int) (j : Nat) : (zA w L j).length = j := by simp [zA]
theorem qda (L : List (List UInt8)) (x : List UInt8) : zS L ++ [.str x] = zS (L ++ [x]) := by simp [zS]
theorem qdX {v n : Nat} {L : List (List UInt8)} {fz : Nat → Bool} {h : List AObj} : VLe (qnB (some (kl v 9 (zS L))) v 1 0 L.length (rei fz h (n + 1))) (qE L) := by
 unfold kl
 split
 ·rename_i e
  have : L = [] := by cases L with
   | nil => rfl
   | cons a l => simp [zS] at e
  subst this
  rw [slOf_emp, if_pos rfl]
  exact ku
 ·rw [slOf_mem, if_pos ⟨rfl, by rw [zu]; omega⟩]
  simp only [Nat.zero_add, Nat.mul_one]
  exact qew rfl
def kP (ps : List Pat) (w : List UInt8) : List Int := qaT ps w ++ [(w.length : Int)]
def jX (ps : List Pat) (w : List UInt8) : List (List UInt8) := if qaH w = true then zA w (kP ps w) (kP ps w).length else [w]
theorem qii (own : List (List UInt8)) {i j : Nat} (h : i ≤ j) : qha own i ≤ qha own j := by
 unfold qha
 have e : own.take i = (own.take j).take i := by rw [List.take_take, Nat.min_eq_left h]
 rw [e]
 exact jk _ _
theorem qfr (own : List (List UInt8)) (lv : List Int) (m : Nat) : List.Pairwise (· ≤ ·) (qcz own lv m) := by
 unfold qcz qdo
 rw [List.pairwise_map]
 refine List.Pairwise.imp ?_ ((List.pairwise_lt_range (n := m)).filter _)
 intro a b hab
 have := qii own (show a + 1 ≤ b + 1 by omega)
 omega
theorem qgq (w : List UInt8) (lv : List Int) (m : Nat) : ∀ x ∈ qcz (qW w) lv m, 0 ≤ x ∧ x ≤ w.length := by
 intro x hx
 unfold qcz at hx
 rw [List.mem_map] at hx
 obtain ⟨i, _, rfl⟩ := hx
 have := qlH (qW w) (i + 1)
 rw [qbb] at this
 omega
theorem qij {w : List UInt8} {L : List Int} (hs : List.Pairwise (· ≤ ·) L) (hb : ∀ x ∈ L, 0 ≤ x ∧ x ≤ w.length) : qlK w L := by
 intro j hj
 have g : ∀ i (hi : i < L.length), L.getD i 0 = L[i] := fun i hi => by simp [List.getD_eq_getElem?_getD, hi]
 have h1 := hb _ (List.getElem_mem hj)
 rw [g j hj]
 unfold km
 split
 ·omega
 ·have hj' : j - 1 < L.length := by omega
  have h2 := hb _ (List.getElem_mem hj')
  have h3 := (List.pairwise_iff_getElem.1 hs) (j - 1) j hj' hj (by omega)
  rw [g (j - 1) hj']
  omega
theorem qdl (ps : List Pat) (w : List UInt8) : qlK w (kP ps w) := by
 unfold kP qaT
 have hb : ∀ x ∈ (if qan ps w = 0 then qcz (qW w) (jl ps w) ((qW w).length - 1) else []), 0 ≤ x ∧ x ≤ (w.length : Int) := by
  split
  ·exact qgq w _ _
  ·simp
 have hs : List.Pairwise (· ≤ ·) (if qan ps w = 0 then qcz (qW w) (jl ps w) ((qW w).length - 1) else []) := by
  split
  ·exact qfr _ _ _
  ·exact .nil
 refine qij ?_ ?_
 ·rw [List.pairwise_append]
  refine ⟨hs, by simp, fun a ha b hb' => ?_⟩
  simp at hb'
  subst hb'
  exact (hb a ha).2
 ·intro x hx
  rcases List.mem_append.1 hx with h | h
  ·exact hb x h
  ·simp at h; subst h; omega
theorem qc5 (ps : List Pat) (w : List UInt8) : (qaT ps w).length ≤ w.length := by
 unfold qaT
 split
 ·rw [qhe]
  have := qhf (qW w).length (jl ps w) ((qW w).length - 1)
  have := jj w
  omega
 ·simp
set_option maxHeartbeats 4000000 in
theorem t66 (ps : List Pat) (w : List UInt8) (h : List AObj) (hok : qbp ps) (hw : w.length ≤ 100000) (hc : zW ps = 0) : qs Tryz.prog 38 [qA ps, .str w] h (.tup [qE (jX ps w), .int .i64 0]) h := by
 have qbA := fun h => t88 w h (by omega)
 have qkh := fun h => t89 ps w h hok (by omega)
 have hcut := qdl ps w
 have hpl := qc5 ps w
 unfold jX
 by_cases g : qaH w = true
 case neg =>
  rw [if_neg g]
  have g' : qaH w = false := by simpa using g
  rw [g'] at qbA
  refine qn qri (by simp) ?_
  simp only [lcP, lnP, Nat.reduceAdd, Nat.reduceSub, List.replicate, caP, naP, List.append_nil]
  simp (disch := omega) only [qeF, qD, go_sem, qc, dvP, mdP]
  repeat' first
   | ((first | refine qj (qbA _) ?_ ?_); (next => exact flk); simp (disch := omega) only [qD, go_sem, qc, dvP, mdP])
   | ((first | refine qo (fun _ => qbA _) ?_ ?_); (next => exact flk); simp (disch := omega) only [qD, go_sem, qc, dvP, mdP])
   | ((first | refine qk (fun e => ⟨?_, qbA _⟩) ?_); (next => exact flk); simp (disch := omega) only [qD, go_sem, qc, dvP, mdP])
   | ((first | refine qe ?_ ?_ | refine qg ?_ ?_); (next => exact rvk); simp only [go_sem]; (first | exact VLe.refl _ | refine qh ?_ | refine qd ?_ | refine ql ?_ | skip))
   | with_reducible first | refine And.intro ?_ ?_ | intro _
  all_goals try exact clz
  exact zb ⟨qcC rfl (fun i hi => by have e0 : i = 0 := (by have : i < 1 := hi; omega); subst e0; rfl), VLe.refl _, trivial⟩
 rw [if_pos g]
 rw [g] at qbA
 have hs : qan ps w = 0 := by unfold qan; rw [if_pos hc, if_pos g]
 rw [hs] at qkh
 unfold kP at hcut ⊢
 obtain ⟨L, hL⟩ : ∃ L, L = qaT ps w := ⟨_, rfl⟩
 rw [← hL] at qkh hcut hpl ⊢
 by_cases h0 : L = []
 ·obtain ⟨L', hLL⟩ : ∃ L', L' = L ++ [(w.length : Int)] := ⟨_, rfl⟩
  rw [← hLL] at hcut ⊢
  rw [h0] at hLL
  have hcs : [AV.int .i64 (w.length : Int)] = qU L' := by rw [hLL]; rfl
  have hln : L'.length = 1 := by rw [hLL]; rfl
  rw [h0, qfa] at qkh
  refine qn qri (by simp) ?_
  simp only [lcP, lnP, Nat.reduceAdd, Nat.reduceSub, List.replicate, caP, naP, List.append_nil]
  simp (disch := omega) only [qeF, qD, go_sem, qc, dvP, mdP]
  repeat' first
   | ((first | refine qj (qbA _) ?_ ?_ | refine qj (qkh _) ?_ ?_ | refine qj (qwL _) ?_ ?_); (next => exact flk); simp (disch := omega) only [qD, go_sem, qc, dvP, mdP])
   | ((first | refine qo (fun _ => qbA _) ?_ ?_ | refine qo (fun _ => qkh _) ?_ ?_ | refine qo (fun _ => qwL _) ?_ ?_); (next => exact flk); simp (disch := omega) only [qD, go_sem, qc, dvP, mdP])
   | ((first | refine qk (fun e => ⟨?_, qbA _⟩) ?_ | refine qk (fun e => ⟨?_, qkh _⟩) ?_ | refine qk (fun e => ⟨?_, qwL _⟩) ?_); (next => exact flk); simp (disch := omega) only [qD, go_sem, qc, dvP, mdP])
   | ((first | refine qe ?_ ?_ | refine qg ?_ ?_); (next => exact rvk); simp only [go_sem]; (first | exact VLe.refl _ | refine qh ?_ | refine qd ?_ | refine ql ?_ | skip))
   | with_reducible first | refine And.intro ?_ ?_ | intro _
  all_goals try exact clz
  rw [hcs]
  have hcl := zj L'
  refine qJ (T := fun j : Nat × Nat × AObj => qv 47 [(1, .str w), (8, .osl (h.length + 2) j.2.1 1 0 j.1), (9, .int .i64 (km L' j.1)), (31, .osl (h.length + 4) 1 1 0 1), (32, .int .i64 L'.length), (33, .int .i64 j.1)])
   (H := fun j => h ++ [.emp 1, .emp 0, kl j.2.1 9 (zS (zA w L' j.1)), .mem 1 3 (qU L'), .mem 1 3 (qU L'), j.2.2, .emp 0, .emp 0])
   (inv := fun j => j.1 ≤ L'.length ∧ q9 [j.2.2] 0 = true) (m := fun j => L'.length - j.1) (0, 1, .emp 0) ⟨by simp, rfl⟩ (Wk.temps ?_) ?_
  ·simp only [qc7]
   (simp only [qv, List.foldl, List.replicate, go_sem, qr, qp, qm, qq]; try (repeat' first | (with_reducible refine And.intro ?_ ?_) | (refine qh ?_; omega) | (refine qd ?_; rfl) | exact VLe.refl _))
  rintro ⟨j, v, O⟩ ⟨j1, j2⟩ K hK
  simp only at j1 j2 hK
  have j2' : ∀ m, q9 (O :: m) 0 = true := fun _ => j2
  have el := zu (zA w L' j)
  rw [jy] at el
  have f1 : List.take j (zS (zA w L' j)) = zS (zA w L' j) := List.take_of_length_le (by omega)
  by_cases hj : j < L'.length
  ·obtain ⟨q1, q2, q3⟩ := hcut j hj
   have hg := qbg hj
   have hp := qca w L' j
   have hpr := qc6 L' j
   simp (disch := omega) only [qv, List.foldl, List.replicate, qD, el, f1, hg, hcl, j2', go_sem, qc, dvP, mdP]
   repeat' first
    | ((first | refine qe ?_ ?_ | refine qg ?_ ?_); (next => exact rvk); simp only [go_sem]; (first | exact VLe.refl _ | refine qh ?_ | refine qd ?_ | refine ql ?_ | skip))
    | with_reducible first | refine And.intro ?_ ?_ | intro _
   all_goals try exact clz
   rw [qda, show List.take ((L'.getD j 0).toNat - (km L' j).toNat) (List.drop (km L' j).toNat w) = qb9 w L' j from rfl, ← hp, ← hpr]
   refine hK _ _ (j + 1, v + 1, .mem (qz (some O) + 1) 9 [.str (qb9 w L' j)]) ⟨by simp only; omega, rfl⟩ (by simp only; omega) (Wk.temps ?_)
   (simp only [qv, List.foldl, List.replicate, go_sem, qr, qp, qm, qq]; try (repeat' first | (with_reducible refine And.intro ?_ ?_) | (refine qh ?_; omega) | (refine qd ?_; rfl) | exact VLe.refl _))
  ·have e : j = L'.length := by omega
   subst e
   have hsl := @qdX v 5 (zA w L' L'.length) (fun k => decide (h.length ≤ k)) (h ++ [.emp 1, .emp 0, kl v 9 (zS (zA w L' L'.length)), .mem 1 3 (qU L'), .mem 1 3 (qU L'), O, .emp 0, .emp 0])
   rw [jy] at hsl
   simp (disch := omega) only [qv, List.foldl, List.replicate, qD, hcl, go_sem, qc, dvP, mdP]
   repeat' first
    | ((first | refine qe ?_ ?_ | refine qg ?_ ?_); (next => exact rvk); simp only [go_sem]; (first | exact VLe.refl _ | refine qh ?_ | refine qd ?_ | refine ql ?_ | skip))
    | with_reducible first | refine And.intro ?_ ?_ | intro _
   all_goals try exact clz
   exact zb ⟨hsl, VLe.refl _, trivial⟩
 ·have c66z' : ∀ h : List AObj, qs Tryz.prog 66 [qA ps, .str w] h (.tup [qw L, .int .i64 0]) h := fun h => by
   have := qkh h
   unfold jx at this
   rwa [if_neg h0] at this
  have hl0 : L.length ≠ 0 := fun e => h0 (List.eq_nil_of_length_eq_zero e)
  have el0 := zj L
  have et0 : List.take L.length (qU L) = qU L := List.take_of_length_le (by omega)
  obtain ⟨L', hLL⟩ : ∃ L', L' = L ++ [(w.length : Int)] := ⟨_, rfl⟩
  have hcs : qU L ++ [AV.int .i64 (w.length : Int)] = qU L' := by rw [hLL, qau]
  have hln : L.length + 1 = L'.length := by rw [hLL]; simp
  rw [← hLL] at hcut ⊢
  refine qn qri (by simp) ?_
  simp only [lcP, lnP, Nat.reduceAdd, Nat.reduceSub, List.replicate, caP, naP, List.append_nil]
  simp (disch := omega) only [qeF, qD, go_sem, qc, dvP, mdP]
  repeat' first
   | ((first | refine qj (qbA _) ?_ ?_ | refine qj (c66z' _) ?_ ?_); (next => exact flk); simp (disch := omega) only [qD, go_sem, qc, dvP, mdP])
   | ((first | refine qo (fun _ => qbA _) ?_ ?_ | refine qo (fun _ => c66z' _) ?_ ?_); (next => exact flk); simp (disch := omega) only [qD, go_sem, qc, dvP, mdP])
   | ((first | refine qk (fun e => ⟨?_, qbA _⟩) ?_ | refine qk (fun e => ⟨?_, c66z' _⟩) ?_); (next => exact flk); simp (disch := omega) only [qD, go_sem, qc, dvP, mdP])
   | ((first | refine qe ?_ ?_ | refine qg ?_ ?_); (next => exact rvk); simp only [go_sem]; (first | exact VLe.refl _ | refine qh ?_ | refine qd ?_ | refine ql ?_ | skip))
   | with_reducible first | refine And.intro ?_ ?_ | intro _
  all_goals try exact clz
  refine qS (t90 L _ (h.length + 7) (by simp only [go_sem]) hl0 (by omega)) ⟨rfl, trivial⟩ ?_
  simp (disch := omega) only [qD, el0, et0, hcs, hln, go_sem, qc, dvP, mdP]
  repeat' first
   | ((first | refine qe ?_ ?_ | refine qg ?_ ?_); (next => exact rvk); simp only [go_sem]; (first | exact VLe.refl _ | refine qh ?_ | refine qd ?_ | refine ql ?_ | skip))
   | with_reducible first | refine And.intro ?_ ?_ | intro _
  all_goals try exact clz
  have hcl := zj L'
  refine qJ (T := fun j : Nat × Nat × AObj => qv 47 [(1, .str w), (8, .osl (h.length + 2) j.2.1 1 0 j.1), (9, .int .i64 (km L' j.1)), (31, .osl (h.length + 7) 2 1 0 L'.length), (32, .int .i64 L'.length), (33, .int .i64 j.1)])
   (H := fun j => h ++ [.emp 1, .emp 0, kl j.2.1 9 (zS (zA w L' j.1)), .mem 1 3 [.int .i64 w.length], .emp 0, j.2.2, .emp 0, .mem 2 3 (qU L')])
   (inv := fun j => j.1 ≤ L'.length ∧ q9 [j.2.2] 0 = true) (m := fun j => L'.length - j.1) (0, 1, .emp 0) ⟨by simp, rfl⟩ (Wk.temps ?_) ?_
  ·simp only [qc7]
   (simp only [qv, List.foldl, List.replicate, go_sem, qr, qp, qm, qq]; try (repeat' first | (with_reducible refine And.intro ?_ ?_) | (refine qh ?_; omega) | (refine qd ?_; rfl) | exact VLe.refl _))
  rintro ⟨j, v, O⟩ ⟨j1, j2⟩ K hK
  simp only at j1 j2 hK
  have j2' : ∀ m, q9 (O :: m) 0 = true := fun _ => j2
  have el := zu (zA w L' j)
  rw [jy] at el
  have f1 : List.take j (zS (zA w L' j)) = zS (zA w L' j) := List.take_of_length_le (by omega)
  by_cases hj : j < L'.length
  ·obtain ⟨q1, q2, q3⟩ := hcut j hj
   have hg := qbg hj
   have hp := qca w L' j
   have hpr := qc6 L' j
   simp (disch := omega) only [qv, List.foldl, List.replicate, qD, el, f1, hg, hcl, j2', go_sem, qc, dvP, mdP]
   repeat' first
    | ((first | refine qe ?_ ?_ | refine qg ?_ ?_); (next => exact rvk); simp only [go_sem]; (first | exact VLe.refl _ | refine qh ?_ | refine qd ?_ | refine ql ?_ | skip))
    | with_reducible first | refine And.intro ?_ ?_ | intro _
   all_goals try exact clz
   rw [qda, show List.take ((L'.getD j 0).toNat - (km L' j).toNat) (List.drop (km L' j).toNat w) = qb9 w L' j from rfl, ← hp, ← hpr]
   refine hK _ _ (j + 1, v + 1, .mem (qz (some O) + 1) 9 [.str (qb9 w L' j)]) ⟨by simp only; omega, rfl⟩ (by simp only; omega) (Wk.temps ?_)
   (simp only [qv, List.foldl, List.replicate, go_sem, qr, qp, qm, qq]; try (repeat' first | (with_reducible refine And.intro ?_ ?_) | (refine qh ?_; omega) | (refine qd ?_; rfl) | exact VLe.refl _))
  ·have e : j = L'.length := by omega
   subst e
   have hsl := @qdX v 5 (zA w L' L'.length) (fun k => decide (h.length ≤ k)) (h ++ [.emp 1, .emp 0, kl v 9 (zS (zA w L' L'.length)), .mem 1 3 [.int .i64 w.length], .emp 0, O, .emp 0, .mem 2 3 (qU L')])
   rw [jy] at hsl
   simp (disch := omega) only [qv, List.foldl, List.replicate, qD, hcl, go_sem, qc, dvP, mdP]
   repeat' first
    | ((first | refine qe ?_ ?_ | refine qg ?_ ?_); (next => exact rvk); simp only [go_sem]; (first | exact VLe.refl _ | refine qh ?_ | refine qd ?_ | refine ql ?_ | skip))
    | with_reducible first | refine And.intro ?_ ?_ | intro _
   all_goals try exact clz
   exact zb ⟨hsl, VLe.refl _, trivial⟩
end HY
end
section
open Go Go.Proofs AF HY
namespace HY
set_option maxRecDepth 100000
end HY
end
section
open Go Go.Proofs AF HY P48
namespace HY
set_option maxRecDepth 100000
structure Wd where
 text : List UInt8
 col : Int
 unit : Int
 dec : Int
 joined : Bool
 verse : Bool
 name : List UInt8
 deriving DecidableEq, Inhabited
def zV (w : Wd) : List AV := [.str w.text, .int .i64 w.col, .int .i64 w.unit, .int .i64 w.dec, .bool w.joined, .bool w.verse, .str w.name]
def qu (ws : List Wd) : AV := .sl ws.length fun i => zV (ws.getD i default)
theorem qqV {ws : List Wd} {i : Nat} (h : i < ws.length) : ws.drop i = ws.getD i default :: ws.drop (i + 1) := by
 rw [List.drop_eq_getElem_cons h]; simp [List.getD_eq_getElem?_getD, h]
def qaD {α : Type} (p : α → Bool) : List α → Nat → Int
 | [], _ => -1
 | c :: r, i => if p c = true then i else qaD p r (i + 1)
theorem qkV {α : Type} (p : α → Bool) : ∀ (s : List α) (i : Nat), (0 ≤ qaD p s i ↔ s.any p = true) ∧ -1 ≤ qaD p s i := by
 intro s
 induction s with
 | nil => intro i; simp [qaD]
 | cons c r ih =>
  intro i
  by_cases hc : p c = true
  ·have e : qaD p (c :: r) i = i := if_pos hc
   rw [e, List.any_cons, hc]
   simp
   try omega
  ·have e : qaD p (c :: r) i = qaD p r (i + 1) := if_neg hc
   rw [e, List.any_cons]
   have hc' : p c = false := by simpa using hc
   rw [hc', Bool.false_or]
   exact ih (i + 1)
theorem qeY {α : Type} (p : α → Bool) (s : List α) (i : Nat) : decide (0 ≤ qaD p s i) = s.any p := by
 rw [Bool.eq_iff_iff, decide_eq_true_eq]; exact (qkV p s i).1
theorem t85 (s : List Wd) (p : Wd → Bool) (F : Nat) (h : List AObj) (hs : s.length ≤ 1000000000) (hp : ∀ (c : Wd) (h : List AObj), qs Tryz.prog F [.agg (zV c)] h (.bool (p c)) h) : qs Tryz.prog 24 [qu s, .fn (.func F) [] []] h (.int .i64 (qaD p s 0)) h := by
 refine qn qv0 (by simp) ?_
 simp only [lcP, lnP, Nat.reduceAdd, Nat.reduceSub, List.replicate, caP, naP, List.append_nil]
 simp (disch := omega) only [qxb, qu, go_sem, qc, dvP, mdP]
 repeat' first
  | ((first | refine qe ?_ ?_ | refine qg ?_ ?_); (next => exact rvk); simp only [go_sem]; (first | exact VLe.refl _ | refine qh ?_ | refine qd ?_ | refine ql ?_ | skip))
  | with_reducible first | refine And.intro ?_ ?_ | intro _
 all_goals try exact clz
 refine qJ (T := fun i : Nat => qv 19 [(0, qu s), (1, .fn (.func F) [] []), (6, qu s), (7, .int .i64 s.length), (8, .int .i64 i)]) (H := fun _ => h) (inv := fun i => i ≤ s.length ∧ qaD p s 0 = qaD p (s.drop i) i) (m := fun i => s.length - i) 0 ⟨by omega, by simp⟩ (Wk.temps ?_) ?_
 ·(simp only [qu, qv, List.foldl, List.replicate, go_sem, qr, qp, qm, qq]; try (repeat' first | (with_reducible refine And.intro ?_ ?_) | (refine qh ?_; omega) | (refine qd ?_; rfl) | exact VLe.refl _))
 ·rintro i ⟨i1, i2⟩ K hK
  rw [i2]
  by_cases hi : i < s.length
  ·rw [qqV hi] at i2 ⊢
   simp only [qaD] at i2 ⊢
   have hpc := fun h => hp (s.getD i default) h
   cases hb : p (s.getD i default) with
   | true =>
    rw [hb] at hpc
    simp (disch := omega) only [qv, List.foldl, List.replicate, qu, zV, go_sem, qc, dvP, mdP]
    repeat' first
     | (refine zJ (hpc _) ?_; simp (disch := omega) only [qu, zV, go_sem, qc, dvP, mdP])
     | ((first | refine qe ?_ ?_ | refine qg ?_ ?_); (next => exact rvk); simp only [go_sem]; (first | exact VLe.refl _ | refine qh ?_ | refine qd ?_ | refine ql ?_ | skip))
     | with_reducible first | refine And.intro ?_ ?_ | intro _
    all_goals try exact clz
   | false =>
    rw [hb] at hpc i2
    simp (disch := omega) only [qv, List.foldl, List.replicate, qu, zV, go_sem, qc, dvP, mdP]
    repeat' first
     | (refine zJ (hpc _) ?_; simp (disch := omega) only [qu, zV, go_sem, qc, dvP, mdP])
     | ((first | refine qe ?_ ?_ | refine qg ?_ ?_); (next => exact rvk); simp only [go_sem]; (first | exact VLe.refl _ | refine qh ?_ | refine qd ?_ | refine ql ?_ | skip))
     | with_reducible first | refine And.intro ?_ ?_ | intro _
    all_goals try exact clz
    refine hK _ _ (i + 1) ⟨by omega, by rw [i2]; simp⟩ (by omega) (Wk.temps ?_)
    (simp only [qu, zV, qv, List.foldl, List.replicate, go_sem, qr, qp, qm, qq]; try (repeat' first | (with_reducible refine And.intro ?_ ?_) | (refine qh ?_; omega) | (refine qd ?_; rfl) | exact VLe.refl _))
  ·have e : i = s.length := by omega
   subst e
   rw [List.drop_length]
   simp (disch := omega) only [qv, List.foldl, List.replicate, qu, go_sem, qc, dvP, mdP]
   repeat' first
    | ((first | refine qe ?_ ?_ | refine qg ?_ ?_); (next => exact rvk); simp only [go_sem]; (first | exact VLe.refl _ | refine qh ?_ | refine qd ?_ | refine ql ?_ | skip))
    | with_reducible first | refine And.intro ?_ ?_ | intro _
   all_goals try exact clz
theorem t59 (s : List Wd) (p : Wd → Bool) (F : Nat) (h : List AObj) (hs : s.length ≤ 1000000000) (hp : ∀ (c : Wd) (h : List AObj), qs Tryz.prog F [.agg (zV c)] h (.bool (p c)) h) : qs Tryz.prog 7 [qu s, .fn (.func F) [] []] h (.bool (s.any p)) h := by
 rw [← qeY p s 0]
 refine qn qx5 (by simp) ?_
 simp only [lcP, lnP, Nat.reduceAdd, Nat.reduceSub, List.replicate, caP, naP, List.append_nil]
 simp (disch := omega) only [c7z, qu, go_sem, qc, dvP, mdP]
 repeat' first
  | ((first | refine qj (t85 s p F _ hs hp) ?_ ?_); (next => exact flk); simp (disch := omega) only [qu, go_sem, qc, dvP, mdP])
  | ((first | refine qk (fun e => ⟨?_, t85 s p F _ hs hp⟩) ?_); (next => exact flk); simp (disch := omega) only [qu, go_sem, qc, dvP, mdP])
  | ((first | refine qe ?_ ?_ | refine qg ?_ ?_); (next => exact rvk); simp only [go_sem]; (first | exact VLe.refl _ | refine qh ?_ | refine qd ?_ | refine ql ?_ | skip))
  | with_reducible first | refine And.intro ?_ ?_ | intro _
 all_goals try exact clz
theorem t86 (s : List Pat) (p : Pat → Bool) (F : Nat) (h : List AObj) (hs : s.length ≤ 1000000000) (hp : ∀ (i : Nat) (h : List AObj), i < s.length → qs Tryz.prog F [.agg (qbr (s.getD i default))] h (.bool (p (s.getD i default))) h) : qs Tryz.prog 58 [qA s, .fn (.func F) [] []] h (.int .i64 (qaD p s 0)) h := by
 refine qn qwe (by simp) ?_
 simp only [lcP, lnP, Nat.reduceAdd, Nat.reduceSub, List.replicate, caP, naP, List.append_nil]
 simp (disch := omega) only [qxo, qA, go_sem, qc, dvP, mdP]
 repeat' first
  | ((first | refine qe ?_ ?_ | refine qg ?_ ?_); (next => exact rvk); simp only [go_sem]; (first | exact VLe.refl _ | refine qh ?_ | refine qd ?_ | refine ql ?_ | skip))
  | with_reducible first | refine And.intro ?_ ?_ | intro _
 all_goals try exact clz
 refine qJ (T := fun i : Nat => qv 19 [(0, qA s), (1, .fn (.func F) [] []), (6, qA s), (7, .int .i64 s.length), (8, .int .i64 i)]) (H := fun _ => h) (inv := fun i => i ≤ s.length ∧ qaD p s 0 = qaD p (s.drop i) i) (m := fun i => s.length - i) 0 ⟨by omega, by simp⟩ (Wk.temps ?_) ?_
 ·(simp only [qA, qv, List.foldl, List.replicate, go_sem, qr, qp, qm, qq]; try (repeat' first | (with_reducible refine And.intro ?_ ?_) | (refine qh ?_; omega) | (refine qd ?_; rfl) | exact VLe.refl _))
 ·rintro i ⟨i1, i2⟩ K hK
  rw [i2]
  by_cases hi : i < s.length
  ·rw [qd7 hi] at i2 ⊢
   simp only [qaD] at i2 ⊢
   have hpc := fun h => hp i h hi
   cases hb : p (s.getD i default) with
   | true =>
    rw [hb] at hpc
    simp (disch := omega) only [qv, List.foldl, List.replicate, qA, qbr, go_sem, qc, dvP, mdP]
    repeat' first
     | (refine zJ (hpc _) ?_; simp (disch := omega) only [qA, qbr, go_sem, qc, dvP, mdP])
     | ((first | refine qe ?_ ?_ | refine qg ?_ ?_); (next => exact rvk); simp only [go_sem]; (first | exact VLe.refl _ | refine qh ?_ | refine qd ?_ | refine ql ?_ | skip))
     | with_reducible first | refine And.intro ?_ ?_ | intro _
    all_goals try exact clz
   | false =>
    rw [hb] at hpc i2
    simp (disch := omega) only [qv, List.foldl, List.replicate, qA, qbr, go_sem, qc, dvP, mdP]
    repeat' first
     | (refine zJ (hpc _) ?_; simp (disch := omega) only [qA, qbr, go_sem, qc, dvP, mdP])
     | ((first | refine qe ?_ ?_ | refine qg ?_ ?_); (next => exact rvk); simp only [go_sem]; (first | exact VLe.refl _ | refine qh ?_ | refine qd ?_ | refine ql ?_ | skip))
     | with_reducible first | refine And.intro ?_ ?_ | intro _
    all_goals try exact clz
    refine hK _ _ (i + 1) ⟨by omega, by rw [i2]; simp⟩ (by omega) (Wk.temps ?_)
    (simp only [qA, qbr, qv, List.foldl, List.replicate, go_sem, qr, qp, qm, qq]; try (repeat' first | (with_reducible refine And.intro ?_ ?_) | (refine qh ?_; omega) | (refine qd ?_; rfl) | exact VLe.refl _))
  ·have e : i = s.length := by omega
   subst e
   rw [List.drop_length]
   simp (disch := omega) only [qv, List.foldl, List.replicate, qA, go_sem, qc, dvP, mdP]
   repeat' first
    | ((first | refine qe ?_ ?_ | refine qg ?_ ?_); (next => exact rvk); simp only [go_sem]; (first | exact VLe.refl _ | refine qh ?_ | refine qd ?_ | refine ql ?_ | skip))
    | with_reducible first | refine And.intro ?_ ?_ | intro _
   all_goals try exact clz
theorem t61 (s : List Pat) (p : Pat → Bool) (F : Nat) (h : List AObj) (hs : s.length ≤ 1000000000) (hp : ∀ (i : Nat) (h : List AObj), i < s.length → qs Tryz.prog F [.agg (qbr (s.getD i default))] h (.bool (p (s.getD i default))) h) : qs Tryz.prog 22 [qA s, .fn (.func F) [] []] h (.bool (s.any p)) h := by
 rw [← qeY p s 0]
 refine qn qvY (by simp) ?_
 simp only [lcP, lnP, Nat.reduceAdd, Nat.reduceSub, List.replicate, caP, naP, List.append_nil]
 simp (disch := omega) only [qw9, qA, go_sem, qc, dvP, mdP]
 repeat' first
  | ((first | refine qj (t86 s p F _ hs hp) ?_ ?_); (next => exact flk); simp (disch := omega) only [qA, go_sem, qc, dvP, mdP])
  | ((first | refine qk (fun e => ⟨?_, t86 s p F _ hs hp⟩) ?_); (next => exact flk); simp (disch := omega) only [qA, go_sem, qc, dvP, mdP])
  | ((first | refine qe ?_ ?_ | refine qg ?_ ?_); (next => exact rvk); simp only [go_sem]; (first | exact VLe.refl _ | refine qh ?_ | refine qd ?_ | refine ql ?_ | skip))
  | with_reducible first | refine And.intro ?_ ?_ | intro _
 all_goals try exact clz
def qf0 (w : Wd) : Bool := decide (w.text = []) || decide (64 < w.text.length)
def qp7 (p : Pat) : Bool := decide (12 < p.letters.length) || decide (14 < p.levels.length)
theorem t65 (w : Wd) (h : List AObj) : qs Tryz.prog 37 [.agg (zV w)] h (.bool (qf0 w)) h := by
 unfold qf0
 by_cases g : w.text = []
 ·have k : (w.text = []) = True := eq_true g
  refine qn qtV (by simp) ?_
  simp only [lcP, lnP, Nat.reduceAdd, Nat.reduceSub, List.replicate, caP, naP, List.append_nil]
  simp (disch := omega) only [qvF, zV, k, go_sem, qc, dvP, mdP]
  repeat' first
   | ((first | refine qe ?_ ?_ | refine qg ?_ ?_); (next => exact rvk); simp only [go_sem]; (first | exact VLe.refl _ | refine qh ?_ | refine qd ?_ | refine ql ?_ | skip))
   | with_reducible first | refine And.intro ?_ ?_ | intro _
  all_goals try exact clz
  all_goals (rw [Bool.eq_iff_iff]; simp only [Bool.or_eq_true, Bool.and_eq_true, decide_eq_true_eq]; omega)
 ·have k : (w.text = []) = False := eq_false g
  refine qn qtV (by simp) ?_
  simp only [lcP, lnP, Nat.reduceAdd, Nat.reduceSub, List.replicate, caP, naP, List.append_nil]
  simp (disch := omega) only [qvF, zV, k, go_sem, qc, dvP, mdP]
  repeat' first
   | ((first | refine qe ?_ ?_ | refine qg ?_ ?_); (next => exact rvk); simp only [go_sem]; (first | exact VLe.refl _ | refine qh ?_ | refine qd ?_ | refine ql ?_ | skip))
   | with_reducible first | refine And.intro ?_ ?_ | intro _
  all_goals try exact clz
  all_goals (rw [Bool.eq_iff_iff]; simp only [Bool.or_eq_true, Bool.and_eq_true, decide_eq_true_eq]; omega)
theorem t62 (p : Pat) (h : List AObj) : qs Tryz.prog 23 [.agg (qbr p)] h (.bool (qp7 p)) h := by
 unfold qp7
 refine qn qvZ (by simp) ?_
 simp only [lcP, lnP, Nat.reduceAdd, Nat.reduceSub, List.replicate, caP, naP, List.append_nil]
 simp (disch := omega) only [qxa, qbr, qw, go_sem, qc, dvP, mdP]
 repeat' first
  | ((first | refine qe ?_ ?_ | refine qg ?_ ?_); (next => exact rvk); simp only [go_sem]; (first | exact VLe.refl _ | refine qh ?_ | refine qd ?_ | refine ql ?_ | skip))
  | with_reducible first | refine And.intro ?_ ?_ | intro _
 all_goals try exact clz
 all_goals (rw [Bool.eq_iff_iff]; simp only [Bool.or_eq_true, Bool.and_eq_true, decide_eq_true_eq]; omega)
end HY
end
section
open Go Go.Proofs AF HY P48
namespace HY
set_option maxRecDepth 100000
structure Sty where
 sp : Int
 st : Int
 sh : Int
 le : Int
 hy : Int
 deriving DecidableEq, Inhabited
def zl (s : Sty) (x : List AV) : List AV := [x.getD 0 .undef, x.getD 1 .undef, x.getD 2 .undef, x.getD 3 .undef, x.getD 4 .undef, .int .i64 s.sp, .int .i64 s.st, .int .i64 s.sh, .int .i64 s.le, .int .i64 s.hy, x.getD 5 .undef, x.getD 6 .undef, x.getD 7 .undef]
end HY
end
section
open Go Go.Proofs AF HY P48
namespace HY
set_option maxRecDepth 100000
def qep (s : Sty) (i : Nat) (w : Wd) : List It := if i = 0 then [] else if w.verse = true then [⟨3, 0, 0, 0, -10000, []⟩] else if w.joined = true then [] else [⟨2, s.sp, s.st, s.sh, 0, []⟩]
def j4 (s : Sty) (k : Nat) (u : List UInt8) : List It := (if k = 0 then [] else [⟨3, s.le, 0, 0, s.hy, [61]⟩]) ++ [⟨1, s.le * ((qW u).length : Int), 0, 0, 0, u⟩]
def qR (s : Sty) (l : List (List UInt8)) (k : Nat) : List It := ((List.range k).map fun i => j4 s i (l.getD i [])).flatten
def qjb (s : Sty) (ps : List Pat) (i : Nat) (w : Wd) : List It := qep s i w ++ qR s (jX ps w.text) (jX ps w.text).length
def jf (s : Sty) (ps : List Pat) (ws : List Wd) (n : Nat) : List It := ((List.range n).map fun i => qjb s ps i (ws.getD i default)).flatten
def qaV (s : Sty) : Bool := qbh s.le && (qbh s.sp && (qbh s.st && (qbh s.sh && (decide (0 ≤ s.hy) && decide (s.hy ≤ 10000)))))
def jC (s : Sty) (ps : List Pat) (ws : List Wd) : Int :=
 if qaV s = false then 2 else if zW ps ≠ 0 ∨ ws.any qf0 = true then 1 else if 4096 < ws.length then 4 else if ja (jf s ps ws ws.length) ≠ 0 then 4 else 0
def qcU (s : Sty) (ps : List Pat) (ws : List Wd) : List It := if jC s ps ws = 0 then jf s ps ws ws.length else []
theorem zE (s : Sty) (l : List (List UInt8)) : qR s l 0 = [] := rfl
theorem jc (s : Sty) (l : List (List UInt8)) (k : Nat) : qR s l (k + 1) = qR s l k ++ j4 s k (l.getD k []) := by unfold qR; rw [List.range_succ, List.map_append, List.flatten_append]; simp
theorem qa3 (s : Sty) (ps : List Pat) (ws : List Wd) (n : Nat) : jf s ps ws (n + 1) = jf s ps ws n ++ qjb s ps n (ws.getD n default) := by unfold jf; rw [List.range_succ, List.map_append, List.flatten_append]; simp
theorem qbw (s : Sty) (i : Nat) (w : Wd) : (qep s i w).length ≤ 1 := by unfold qep; split <;> (try split) <;> (try split) <;> simp
theorem ql1 (s : Sty) (k : Nat) (u : List UInt8) : (j4 s k u).length ≤ 2 := by unfold j4; split <;> simp
theorem kD (s : Sty) (l : List (List UInt8)) (k : Nat) : (qR s l k).length ≤ 2 * k := by
 induction k with
 | zero => simp [qR]
 | succ k ih => rw [jc, List.length_append]; have := ql1 s k (l.getD k []); omega
theorem qdP (ps : List Pat) (w : List UInt8) : (jX ps w).length ≤ w.length + 1 := by
 unfold jX
 split
 ·rw [jy]; unfold kP; rw [List.length_append]; have := qc5 ps w; simp; omega
 ·simp
theorem qns (s : Sty) (ps : List Pat) (i : Nat) (w : Wd) (h : w.text.length ≤ 64) : (qjb s ps i w).length ≤ 200 := by
 unfold qjb
 rw [List.length_append]
 have := qbw s i w
 have := kD s (jX ps w.text) (jX ps w.text).length
 have := qdP ps w.text
 omega
theorem qje (s : Sty) (ps : List Pat) (ws : List Wd) (hb : ∀ i, i < ws.length → (ws.getD i default).text.length ≤ 64) (n : Nat) (hn : n ≤ ws.length) : (jf s ps ws n).length ≤ 200 * n := by
 induction n with
 | zero => simp [jf]
 | succ n ih =>
  rw [qa3, List.length_append]
  have := qns s ps n (ws.getD n default) (hb n (by omega))
  have := ih (by omega)
  omega
end HY
end

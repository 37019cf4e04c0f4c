import Derived.Test.YtjijgafefdolkaaGreatDoorK9
import Derived.Test.YtjijgafefdolkaaGreatDoorK2
import Derived.Test.YtjijgafefdolkaaGreatDoorK7
import Derived.Test.YtjijgafefdolkaaGreatDoorK3
import Derived.Test.YtjijgafefdolkaaGreatDoorK5
set_option linter.all false
set_option linter.unusedSimpArgs false
set_option linter.unusedVariables false
set_option linter.unusedSectionVars false
section
open Go Go.Proofs AF P48
set_option maxRecDepth 100000
def tri (a : List Int) (n e : Int) : AV := .tup [zK a, .int .i64 n, .int .i64 e]
theorem b70 : jj qaH 70 = tri [3, 5] 0 0 := by
 have e1 : jb qaH 70 = 0 := by decide +kernel
 have e2 : (kp qaH 70).getD 0 0 = 0 := by decide +kernel
 have e3 : brk qaH 70 = [3, 5] := by decide +kernel
 unfold jj tri
 rw [if_pos e1, e2, if_neg (by omega), e3]
 rfl
theorem b72 : jj qaH 72 = tri [3, 5] 6 0 := by
 have e1 : jb qaH 72 = 0 := by decide +kernel
 have e2 : (kp qaH 72).getD 0 0 = 6 := by decide +kernel
 have e3 : brk qaH 72 = [3, 5] := by decide +kernel
 unfold jj tri
 rw [if_pos e1, e2, if_neg (by omega), e3]
 rfl
theorem b5 : jj [] 5 = tri [0] 0 0 := by
 have e1 : jb [] 5 = 0 := by decide +kernel
 have e2 : (kp [] 5).getD 0 0 = 0 := by decide +kernel
 have e3 : brk [] 5 = [0] := by decide +kernel
 unfold jj tri
 rw [if_pos e1, e2, if_neg (by omega), e3]
 rfl
theorem qyR (h : List AObj) : qs Tryz.prog 13 [qu qaH, .int .i64 70] h (tri [3, 5] 0 0) h := by rw [← b70]; exact t13 _ _ _ (by decide)
theorem qyS (h : List AObj) : qs Tryz.prog 13 [qu qaH, .int .i64 72] h (tri [3, 5] 6 0) h := by rw [← b72]; exact t13 _ _ _ (by decide)
theorem qyT (h : List AObj) : qs Tryz.prog 13 [.nl, .int .i64 5] h (tri [0] 0 0) h := by
 rw [← b5]
 exact (t13 [] 5 h (by decide)).le (zU kH (j4.refl _)) (VLe.refl _)
theorem qxB (a b : List Int) (k v : Nat) (ty : TypeId) (n : Nat) (h : List AObj) (hk : qL k h = some (.mem v ty (cellsI b))) (hn : b.length = n) (ha : a.length ≤ 1000000) :
  qs Tryz.prog 34 [zK a, .osl k v 1 0 n] h (.bool (decide (a = b))) h := by
 refine qs.borrow ?_ rfl
 refine qs.le (t28 a b [] ha) ?_ (VLe.refl _)
 simp only [List.map_cons, List.map_nil, rei_osl, if_true, hk, qo8]
 rw [if_pos ⟨by trivial, by rw [j9]; omega⟩]
 simp only [Nat.zero_add, Nat.mul_one]
 exact zU (VLe.refl _) (zU (qeI hn) j4.nil)
theorem t11 (h : List AObj) : qs Tryz.prog 11 [] h (.bool true) h := by
 have qpq : ([AV.int .i64 3, .int .i64 5] : List AV) = cellsI [3, 5] := rfl
 have c0 : ([AV.int .i64 0] : List AV) = cellsI [0] := rfl
 have hm : max (max (0 : Int) 0) 0 = 0 := by decide
 refine qo qxY (by simp) ?_
 simp only [lcP, lnP, Nat.reduceAdd, Nat.reduceSub, List.replicate, caP, naP, List.append_nil]
 simp (disch := omega) only [qze, tri, qM, hm, go_sem, qc, dvP, mdP]
 repeat' first
  | ((first | refine qj (t37 _) ?_ ?_ | refine qj (qyR _) ?_ ?_ | refine qj (qyS _) ?_ ?_ | refine qj (qyT _) ?_ ?_ | refine qj (qxB [3, 5] [3, 5] _ 1 3 2 _ (by simp only [go_sem]; rfl) rfl (by decide)) ?_ ?_ | refine qj (qxB [0] [0] _ 1 3 1 _ (by simp only [go_sem]; rfl) rfl (by decide)) ?_ ?_); (next => exact flk); simp (disch := omega) only [tri, qM, hm, eq_self, go_sem, qc, dvP, mdP])
  | ((first | refine qn (fun _ => t37 _) ?_ ?_ | refine qn (fun _ => qyR _) ?_ ?_ | refine qn (fun _ => qyS _) ?_ ?_ | refine qn (fun _ => qyT _) ?_ ?_); (next => exact flk); simp (disch := omega) only [tri, qM, hm, eq_self, go_sem, qc, dvP, mdP])
  | ((first | refine qk (fun e => ⟨?_, t37 _⟩) ?_ | refine qk (fun e => ⟨?_, qyR _⟩) ?_ | refine qk (fun e => ⟨?_, qyS _⟩) ?_ | refine qk (fun e => ⟨?_, qyT _⟩) ?_ | refine qk (fun e => ⟨?_, qxB [3, 5] [3, 5] _ 1 3 2 _ (by simp only [go_sem]; rfl) rfl (by decide)⟩) ?_ | refine qk (fun e => ⟨?_, qxB [0] [0] _ 1 3 1 _ (by simp only [go_sem]; rfl) rfl (by decide)⟩) ?_); (next => exact flk); simp (disch := omega) only [tri, qM, hm, eq_self, go_sem, qc, dvP, mdP])
  | ((first | refine qe ?_ ?_ | refine qg ?_ ?_); (next => exact rvk); simp only [go_sem]; (first | exact VLe.refl _ | refine qh ?_ | refine qd ?_ | refine ql ?_ | skip))
  | with_reducible first | refine And.intro ?_ ?_ | intro _
 all_goals first
  | omega
  | trace_state
end
section
open Go Go.Proofs AF P48
open HY (bufO bufO_nil bufO_ne bytesA_app bytesA_low bufO_low bld_set bld_low bufO_if)
set_option maxRecDepth 100000
theorem Wk.nilcell {t : List AV} {h : List AObj} {k j v ver : Nat} {ty : TypeId} {cs cs' : List AV} (hk : qL k h = some (.mem ver ty cs)) (hj : qL j h = some (.emp v)) (hl : cs'.length = cs.length)
  (hc : ∀ (i : Nat) c c', cs[i]? = some c → cs'[i]? = some c' → c' = c ∨ (c = .nl ∧ ∃ sz, c' = .osl j v sz 0 0)) : Wk t h t (qO k h (.mem ver ty cs')) := by
 intro N w σ a H
 refine ⟨σ, ⟨⟨by rw [H.hr.len, zl], H.hr.inj, H.hr.lt, fun i x o hx ho => ?_⟩, H.sz, H.tm, H.df⟩, Ext.refl w σ⟩
 have hkl := zX hk
 by_cases e : i = k
 ·subst e
  have := jQ (o := .mem ver ty cs') hkl
  unfold qL at this
  rw [this] at hx
  cases hx
  obtain ⟨m1, m2, b, arr, m3, m4, m5, m6, m7, m8⟩ := H.hr.obj i _ o hk ho
  refine ⟨m1, m2, b, arr, m3, m4, m5, by omega, fun n y hn hy => m7 n y (by omega) hy, fun n c' y hc' hy => ?_⟩
  have hn : n < cs.length := by have := (List.getElem?_eq_some_iff.1 hc').1; omega
  have e1 : cs[n]? = some cs[n] := List.getElem?_eq_getElem hn
  rcases hc n _ _ e1 hc' with rfl | ⟨e2, sz, rfl⟩
  ·exact m8 n _ y e1 hy
  ·have := m8 n _ y e1 hy
   rw [e2] at this
   have e3 := qcN this
   subst e3
   have hjl : j < σ.length := by rw [H.hr.len]; exact zX hj
   have ej : σ[j]? = some σ[j] := List.getElem?_eq_getElem hjl
   obtain ⟨q1, q2⟩ := H.hr.obj j _ _ hj ej
   exact .osl _ ej ⟨_, _, _, rfl⟩ (by omega) (fun _ => .inl ⟨q2, rfl, rfl, rfl⟩)
 ·unfold qO at hx
  rw [List.getElem?_set_ne (fun e' => e e'.symm)] at hx
  exact H.hr.obj i x o hx ho
def qN (x : P48.Line) : List AV := [.int .i64 x.frm, .int .i64 x.to, .int .i64 x.badness, .int .i64 x.change, .str x.text]
def qdB (x : It) : List UInt8 := if x.kind = 1 then x.text else if x.kind = 2 then [32] else []
theorem qhz (l : List It) (k i : Nat) : zN l (k + 1) i = zN l k i ++ qdB (it l (i + k)) := by
 induction k generalizing i with
 | zero => simp [zN, qdB]
 | succ k ih =>
  rw [zN, ih (i + 1), show i + 1 + k = i + (k + 1) by omega]
  conv => rhs; rw [zN]
  simp
theorem qcm (l : List It) (B : Nat) (hB : ∀ i, (it l i).text.length ≤ B) (k i : Nat) : (zN l k i).length ≤ k * (B + 1) := by
 induction k generalizing i with
 | zero => simp [zN]
 | succ k ih =>
  rw [zN, List.length_append, Nat.succ_mul]
  have h1 := ih (i + 1)
  have h2 := hB i
  split
  ·omega
  ·split <;> simp <;> omega
theorem t44 (l : List It) (width : Int) (frm to : Nat) (h : List AObj) (hv : Valid l) (hB : ∀ i, (it l i).text.length ≤ 1000000) (w0 : 0 ≤ width) (w1 : width ≤ 1073741824) (h1 : frm ≤ to) (h2 : to ≤ l.length) :
  qs Tryz.prog 46 [qu l, .int .i64 width, .int .i64 frm, .int .i64 to] h (.tup [.agg (qN (jJ l width frm to)), .bool (jZ l width frm to).2.2]) h := by
 have hl := hv.len
 have hbg := qcR l h1
 obtain ⟨a, ha⟩ : ∃ a, a = qI l frm to := ⟨_, rfl⟩
 rw [← ha] at hbg
 refine qo qyd (by simp) ?_
 simp only [lcP, lnP, Nat.reduceAdd, Nat.reduceSub, List.replicate, caP, naP, List.append_nil]
 simp (disch := omega) only [qzq, qu, go_sem, qc, dvP, mdP]
 repeat' first
  | ((first | refine qj (t75 l frm to _ h1 h2 (by omega)) ?_ ?_); (next => exact flk); simp (disch := omega) only [qu, go_sem, qc, dvP, mdP])
  | ((first | refine qk (fun e => ⟨?_, t75 l frm to _ h1 h2 (by omega)⟩) ?_); (next => exact flk); simp (disch := omega) only [qu, go_sem, qc, dvP, mdP])
  | ((first | refine qe ?_ ?_ | refine qg ?_ ?_); (next => exact rvk); simp only [go_sem]; (first | exact VLe.refl _ | refine qh ?_ | refine qd ?_ | refine ql ?_ | skip))
  | with_reducible first | refine And.intro ?_ ?_ | intro _
 all_goals first
  | omega
  | skip
 rw [← ha]
 show ∃ t' h', Wk _ _ t' h' ∧ _
 refine ⟨_, _, Wk.nilcell (k := h.length + 2) (j := h.length + 4) (v := 0) (ver := 1) (ty := 122) (cs := [.nilp, .nl]) (cs' := [.nilp, .osl (h.length + 4) 0 1 0 0]) (by simp only [go_sem]) (by simp only [go_sem]) rfl ?_, ?_⟩
 ·intro i c c' hc hc'
  match i, hc, hc' with
  | 0, hc, hc' => left; simp at hc hc'; rw [← hc, ← hc']
  | 1, hc, hc' => right; simp at hc hc'; exact ⟨hc.symm, 1, hc'.symm⟩
 simp (disch := omega) only [qu, qH, go_sem, qc, dvP, mdP]
 repeat' first
  | ((first | refine qe ?_ ?_ | refine qg ?_ ?_); (next => exact rvk); simp only [go_sem]; (first | exact VLe.refl _ | refine qh ?_ | refine qd ?_ | refine ql ?_ | skip))
  | with_reducible first | refine And.intro ?_ ?_ | intro _
 all_goals first
  | omega
  | skip
 refine qJ (T := fun i : Nat × AObj × AV × Nat => qv 77 [(0, qu l), (1, .int .i64 width), (2, .int .i64 a), (3, .int .i64 to), (8, .op h.length 1 0), (10, .op (h.length + 1) 1 0), (11, .op (h.length + 2) 1 0), (24, .sl (to - a) fun i => qH (it l (a + i))), (25, .int .i64 ((to - a : Nat) : Int)), (26, .int .i64 i.1)])
  (H := fun i => h ++ [.mem 1 49 [.int .i64 0, .int .i64 0, .int .i64 0, .int .i64 0, .str []], .mem 1 111 (qb4 (qaj Item.width l i.1 a) (qaj Item.stretch l i.1 a) (qaj Item.shrink l i.1 a)),
   .mem 1 122 [i.2.2.1, .osl (h.length + 4) i.2.2.2 1 0 (zN l i.1 a).length], i.2.1, bufO i.2.2.2 (zN l i.1 a)])
  (inv := fun i => i.1 ≤ to - a ∧ zf [i.2.1] 0 = true ∧ (i.2.2.1 = .nilp ∨ i.2.2.1 = .op (h.length + 2) 1 0)) (m := fun i => to - a - i.1) (0, .emp 0, .nilp, 0) ⟨Nat.zero_le _, rfl, .inl rfl⟩ (Wk.temps ?_) ?_
 ·simp only [qu, qH, qv, List.foldl, List.replicate, go_sem, qr, qp, qm, qq]
  try (repeat' first | (with_reducible refine And.intro ?_ ?_) | (refine qh ?_; omega) | (refine qd ?_; rfl))
 ·rintro ⟨i, O, A, v⟩ ⟨i1, i2, i3⟩ K hK
  simp only at i1 i2 i3 hK
  have i2' : ∀ m, zf (O :: m) 0 = true := fun _ => i2
  have q1 := qak Item.width l (fun i => (hv.num i).1) i a
  have q2 := qak Item.stretch l (fun i => (hv.num i).2.1) i a
  have q3 := qak Item.shrink l (fun i => (hv.num i).2.2.1) i a
  have q4 := qcm l 1000000 hB i a
  have q5 : i * (1000000 + 1) ≤ 300 * 1000001 := Nat.mul_le_mul_right _ (by omega)
  obtain ⟨s, hs⟩ : ∃ s, s = zN l i a := ⟨_, rfl⟩
  have hsl : s.length ≤ 300300300 := by rw [hs]; omega
  by_cases hi : i < to - a
  ·have ok := hv.ok (a + i) (by omega)
   have hBi := hB (a + i)
   have key : ∀ (A' : AV) (v' : Nat), (A' = .nilp ∨ A' = .op (h.length + 2) 1 0) → ∀ t', j4 t' (qv 77 [(0, qu l), (1, .int .i64 width), (2, .int .i64 a), (3, .int .i64 to), (8, .op h.length 1 0), (10, .op (h.length + 1) 1 0), (11, .op (h.length + 2) 1 0), (24, .sl (to - a) fun i => qH (it l (a + i))), (25, .int .i64 ((to - a : Nat) : Int)), (26, .int .i64 ((i + 1 : Nat) : Int))]) →
     K t' (h ++ [.mem 1 49 [.int .i64 0, .int .i64 0, .int .i64 0, .int .i64 0, .str []], .mem 1 111 (qb4 (qaj Item.width l i a + sel (it l (a + i)) Item.width) (qaj Item.stretch l i a + sel (it l (a + i)) Item.stretch) (qaj Item.shrink l i a + sel (it l (a + i)) Item.shrink)),
      .mem 1 122 [A', .osl (h.length + 4) v' 1 0 (s ++ qdB (it l (a + i))).length], .mem (qA (some O) + 1) 58 (qH (it l (a + i))), bufO v' (s ++ qdB (it l (a + i)))]) := by
    intro A' v' hA' t' ht'
    refine hK t' _ (i + 1, .mem (qA (some O) + 1) 58 (qH (it l (a + i))), A', v') ⟨hi, rfl, hA'⟩ (by simp only; omega) ?_
    rw [hs]
    simp only [qet, qhz]
    exact Wk.temps ht'
   simp (disch := omega) only [qv, qu, List.foldl, List.replicate, i2', go_sem, qc, dvP, mdP]
   rw [← hs]
   repeat' first
    | ((first | refine qe ?_ ?_ | refine qg ?_ ?_); (next => exact rvk); simp only [go_sem]; (first | exact VLe.refl _ | refine qh ?_ | refine qd ?_ | refine ql ?_ | skip))
    | with_reducible first | refine And.intro ?_ ?_ | intro _
   all_goals first
    | omega
    | skip
   refine qX (t77 (h.length + 1) 1 _ _ _ (it l (a + i)) _ (by simp only [go_sem]) ok q1.1 (by omega) q2.1 (by omega) q3.1 (by omega)) ⟨rfl, rfl, trivial⟩ ?_
   have hkk : (it l (a + i)).kind = 1 ∨ (it l (a + i)).kind = 2 ∨ (it l (a + i)).kind = 3 := by have := ok.k1; have := ok.k3; omega
   have e0 : (qH (it l (a + i)))[0]? = some (.int .i64 (it l (a + i)).kind) := rfl
   have e5 : (qH (it l (a + i)))[5]? = some (.str (it l (a + i)).text) := rfl
   rcases hkk with hkd | hkd | hkd
   ·have hp : qdB (it l (a + i)) = (it l (a + i)).text := by simp [qdB, hkd]
    simp only [hp, List.length_append] at key
    simp (disch := omega) only [e0, e5, hkd, eq_self, go_sem, qc, dvP, mdP]
    repeat' first
     | (refine qX (t78 (h.length + 2) 1 (h.length + 4) v A s (it l (a + i)).text _ (by omega) (by simp only [go_sem]) i3 (by simp only [go_sem]) (by omega)) ⟨rfl, rfl, trivial⟩ ?_; simp (disch := omega) only [go_sem, qc])
     | (with_reducible refine And.intro ?_ ?_)
     | (with_reducible intro _)
    all_goals first
     | omega
     | skip
    refine key (.op (h.length + 2) 1 0) (v + 1) (.inr rfl) _ ?_
    simp only [qu, qH, qv, List.foldl, List.replicate, go_sem, qr, qp, qm, qq]
    try (repeat' first | (with_reducible refine And.intro ?_ ?_) | (refine qh ?_; omega) | (refine qd ?_; rfl))
   ·have hp : qdB (it l (a + i)) = [32] := by simp [qdB, hkd]
    simp only [hp, List.length_append, List.length_singleton] at key
    simp (disch := omega) only [e0, e5, hkd, eq_self, go_sem, qc, dvP, mdP]
    repeat' first
     | (refine qX (t79 (h.length + 2) 1 (h.length + 4) v A s 32 _ (by omega) (by simp only [go_sem]) i3 (by simp only [go_sem]) (by omega)) ⟨rfl, rfl, trivial⟩ ?_; simp (disch := omega) only [go_sem, qc])
     | (with_reducible refine And.intro ?_ ?_)
     | (with_reducible intro _)
    all_goals first
     | omega
     | skip
    refine key (.op (h.length + 2) 1 0) (v + 1) (.inr rfl) _ ?_
    simp only [qu, qH, qv, List.foldl, List.replicate, go_sem, qr, qp, qm, qq]
    try (repeat' first | (with_reducible refine And.intro ?_ ?_) | (refine qh ?_; omega) | (refine qd ?_; rfl))
   ·have hp : qdB (it l (a + i)) = [] := by simp [qdB, hkd]
    simp only [hp, List.append_nil] at key
    simp (disch := omega) only [e0, e5, hkd, eq_self, go_sem, qc, dvP, mdP]
    repeat' first
     | (with_reducible refine And.intro ?_ ?_)
     | (with_reducible intro _)
    all_goals first
     | omega
     | skip
    refine key A v i3 _ ?_
    simp only [qu, qH, qv, List.foldl, List.replicate, go_sem, qr, qp, qm, qq]
    try (repeat' first | (with_reducible refine And.intro ?_ ?_) | (refine qh ?_; omega) | (refine qd ?_; rfl))
  ·have e : i = to - a := by omega
   subst e
   have e1 : ∀ f, qaj f l (to - a) a = zT f l a to := fun _ => rfl
   simp only [e1] at q1 q2 q3 ⊢
   rw [← hs]
   have p1 := (hv.num to).2.2.2
   have hfit : fit l width (zT Item.width l a to) (zT Item.stretch l a to) (zT Item.shrink l a to) to = jZ l width frm to := by rw [ha]; rfl
   have hmk : jJ l width frm to = ⟨a, to, (jZ l width frm to).1, (jZ l width frm to).2.1, s ++ (if zG l to then (it l to).text else [])⟩ := by
    unfold jJ qaG; rw [← ha, hs]
   have e0 : (qH (it l to))[0]? = some (.int .i64 (it l to).kind) := rfl
   have e5 : (qH (it l to))[5]? = some (.str (it l to).text) := rfl
   simp (disch := omega) only [qv, List.foldl, List.replicate, qu, e0, e5, go_sem, qc, dvP, mdP]
   refine ⟨fun hc => absurd hc (by omega), fun _ => ?_⟩
   repeat' first
    | (refine qX (t78 (h.length + 2) 1 (h.length + 4) v A s (it l to).text _ (by omega) (by simp only [go_sem]) i3 (by simp only [go_sem]) (by have := hB to; omega)) ⟨rfl, rfl, trivial⟩ ?_; simp (disch := omega) only [go_sem, qc])
    | (refine qj (t76 l width _ _ _ to _ hv w0 w1 q1.1 (by omega) q2.1 (by omega) q3.1 (by omega)) ⟨rfl, rfl, rfl, rfl, trivial⟩ ?_; simp (disch := omega) only [hfit, qmh, go_sem, qc])
    | (with_reducible refine And.intro ?_ ?_)
    | (with_reducible intro _)
   all_goals first
    | omega
    | skip
   all_goals first
    | (simp [qH]; done)
    | (simp [qb4]; done)
    | skip
   ·rename_i hbk
    have hab : zG l to = true := by unfold zG; simp only [Bool.and_eq_true, decide_eq_true_eq]; omega
    refine qX (t80 (h.length + 2) 1 (h.length + 4) (v + 1) (.op (h.length + 2) 1 0) (s ++ (it l to).text) _ (by omega) (by simp only [go_sem, List.length_append]) (by simp only [go_sem])) ⟨rfl, trivial⟩ ?_
    simp (disch := omega) only [go_sem, qc, dvP, mdP]
    repeat' first
     | ((first | refine qe ?_ ?_ | refine qg ?_ ?_); (next => exact rvk); simp only [go_sem]; (first | exact VLe.refl _ | refine qh ?_ | refine qd ?_ | refine ql ?_ | skip))
     | with_reducible first | refine And.intro ?_ ?_ | intro _
    all_goals first
     | omega
     | skip
    rw [hmk, hab]
    exact VLe.refl _
   ·rename_i hbk
    have hab : zG l to = false := by
     cases hx : zG l to with
     | false => rfl
     | true => unfold zG at hx; simp only [Bool.and_eq_true, decide_eq_true_eq] at hx; omega
    refine qX (t80 (h.length + 2) 1 (h.length + 4) v A s _ (by omega) (by simp only [go_sem]) (by simp only [go_sem])) ⟨rfl, trivial⟩ ?_
    simp (disch := omega) only [go_sem, qc, dvP, mdP]
    repeat' first
     | ((first | refine qe ?_ ?_ | refine qg ?_ ?_); (next => exact rvk); simp only [go_sem]; (first | exact VLe.refl _ | refine qh ?_ | refine qd ?_ | refine ql ?_ | skip))
     | with_reducible first | refine And.intro ?_ ?_ | intro _
    all_goals first
     | omega
     | skip
    rw [hmk, hab]
    simp only [Bool.false_eq_true, if_false, List.append_nil]
    exact VLe.refl _
end
section
open Go Go.Proofs AF P48
open HY (bufO bufO_nil bufO_ne bytesA_app bytesA_low bufO_low bld_set bld_low bufO_if)
set_option maxRecDepth 100000
def qcK (bs : List Int) (x : Int) : Nat → Nat → Int
 | 0, _ => -1
 | k + 1, i => if bs.getD i 0 = x then i else qcK bs x k (i + 1)
theorem qmD (bs : List Int) (x : Int) : ∀ (k i : Nat), -1 ≤ qcK bs x k i ∧ (0 ≤ qcK bs x k i ↔ ∃ j, i ≤ j ∧ j < i + k ∧ bs.getD j 0 = x) := by
 intro k
 induction k with
 | zero => intro i; simp only [qcK]; refine ⟨by omega, fun h => by omega, ?_⟩; rintro ⟨j, h1, h2, _⟩; omega
 | succ k ih =>
  intro i
  simp only [qcK]
  split
  ·rename_i h
   exact ⟨by omega, fun _ => ⟨i, by omega, by omega, h⟩, fun _ => by omega⟩
  ·rename_i h
   refine ⟨(ih (i + 1)).1, (ih (i + 1)).2.trans ⟨?_, ?_⟩⟩
   ·rintro ⟨j, h1, h2, h3⟩; exact ⟨j, by omega, by omega, h3⟩
   ·rintro ⟨j, h1, h2, h3⟩
    by_cases e : j = i
    ·subst e; exact absurd h3 h
    ·exact ⟨j, by omega, by omega, h3⟩
theorem qfG (bs : List Int) (x : Int) : decide (0 ≤ qcK bs x bs.length 0) = bs.contains x := by
 rw [Bool.eq_iff_iff, decide_eq_true_eq, (qmD bs x _ _).2, List.contains_iff_mem, List.mem_iff_getElem]
 constructor
 ·rintro ⟨j, _, h2, h3⟩; exact ⟨j, by omega, by simpa [List.getD_eq_getElem?_getD, show j < bs.length by omega] using h3⟩
 ·rintro ⟨j, h2, h3⟩; exact ⟨j, by omega, by omega, by simpa [List.getD_eq_getElem?_getD, h2] using h3⟩
theorem t47 (bs : List Int) (x : Int) (h : List AObj) (hl : bs.length ≤ 1000000) : qs Tryz.prog 112 [zK bs, .int .i64 x] h (.int .i64 (qcK bs x bs.length 0)) h := by
 refine qo qvA (by simp) ?_
 simp only [lcP, lnP, Nat.reduceAdd, Nat.reduceSub, List.replicate, caP, naP, List.append_nil]
 simp (disch := omega) only [quO, zK, go_sem, qc, dvP, mdP]
 refine qJ (T := fun i : Nat => qv 19 [(0, zK bs), (1, .int .i64 x), (6, zK bs), (7, .int .i64 bs.length), (8, .int .i64 i)]) (H := fun _ => h) (inv := fun i => i ≤ bs.length ∧ qcK bs x bs.length 0 = qcK bs x (bs.length - i) i) (m := fun i => bs.length - i) 0 ⟨by omega, rfl⟩ (Wk.temps ?_) ?_
 ·(simp only [qu, zK, qv, List.foldl, List.replicate, go_sem, qr, qp, qm, qq]; try (repeat' first | (with_reducible refine And.intro ?_ ?_) | (refine qh ?_; omega) | (refine qd ?_; rfl) | exact VLe.refl _))
 ·rintro i ⟨i1, i2⟩ K hK
  rw [i2]
  by_cases hi : i < bs.length
  ·rw [show bs.length - i = (bs.length - (i + 1)) + 1 by omega] at i2 ⊢
   by_cases e : bs.getD i 0 = x
   ·simp (disch := omega) only [qv, List.foldl, List.replicate, zK, e, go_sem, qc, dvP, mdP]
    repeat' first
     | ((first | refine qe ?_ ?_ | refine qg ?_ ?_); (next => exact rvk); simp only [go_sem]; (first | exact VLe.refl _ | refine qh ?_ | refine qd ?_ | refine ql ?_ | skip))
     | with_reducible first | refine And.intro ?_ ?_ | intro _
    all_goals first
     | omega
     | skip
    simp only [qcK, if_pos e]
   ·have e' : ¬ x = bs.getD i 0 := fun h => e h.symm
    simp (disch := omega) only [qv, List.foldl, List.replicate, zK, e', go_sem, qc, dvP, mdP]
    repeat' first
     | ((first | refine qe ?_ ?_ | refine qg ?_ ?_); (next => exact rvk); simp only [go_sem]; (first | exact VLe.refl _ | refine qh ?_ | refine qd ?_ | refine ql ?_ | skip))
     | with_reducible first | refine And.intro ?_ ?_ | intro _
    all_goals first
     | omega
     | skip
    refine hK _ _ (i + 1) ⟨by omega, ?_⟩ (by omega) (Wk.temps ?_)
    ·rw [i2]; simp only [qcK, if_neg e]
    ·(simp only [qu, zK, qv, List.foldl, List.replicate, go_sem, qr, qp, qm, qq]; try (repeat' first | (with_reducible refine And.intro ?_ ?_) | (refine qh ?_; omega) | (refine qd ?_; rfl) | exact VLe.refl _))
  ·have e : i = bs.length := by omega
   subst e
   simp (disch := omega) only [qv, List.foldl, List.replicate, zK, go_sem, qc, dvP, mdP]
   repeat' first
    | ((first | refine qe ?_ ?_ | refine qg ?_ ?_); (next => exact rvk); simp only [go_sem]; (first | exact VLe.refl _ | refine qh ?_ | refine qd ?_ | refine ql ?_ | skip))
    | with_reducible first | refine And.intro ?_ ?_ | intro _
   all_goals first
    | omega
    | skip
   simp only [Nat.sub_self, qcK]
theorem t17 (bs : List Int) (x : Int) (h : List AObj) (hl : bs.length ≤ 1000000) : qs Tryz.prog 77 [zK bs, .int .i64 x] h (.bool (bs.contains x)) h := by
 rw [← qfG]
 refine qo qyu (by simp) ?_
 simp only [lcP, lnP, Nat.reduceAdd, Nat.reduceSub, List.replicate, caP, naP, List.append_nil]
 simp (disch := omega) only [qzG, go_sem, qc, dvP, mdP]
 repeat' first
  | ((first | refine qj (t47 bs x _ hl) ?_ ?_); (next => exact flk); simp (disch := omega) only [go_sem, qc, dvP, mdP])
  | ((first | refine qk (fun e => ⟨?_, t47 bs x _ hl⟩) ?_); (next => exact flk); simp (disch := omega) only [go_sem, qc, dvP, mdP])
  | ((first | refine qe ?_ ?_ | refine qg ?_ ?_); (next => exact rvk); simp only [go_sem]; (first | exact VLe.refl _ | refine qh ?_ | refine qd ?_ | refine ql ?_ | skip))
  | with_reducible first | refine And.intro ?_ ?_ | intro _
 all_goals first
  | omega
  | trace_state
def qbf (bs : List Int) (i : Nat) : Int := if i = 0 then -1 else bs.getD (i - 1) 0
theorem qcQ (l : List It) (bs : List Int) (i : Nat) (h : i < bs.length) : asc l (qbf bs i) (bs.drop i) = ((decide (0 ≤ bs.getD i 0) && (decide (bs.getD i 0 ≤ l.length) && (decide (qbf bs i < bs.getD i 0) && qdh l (bs.getD i 0).toNat))) && asc l (qbf bs (i + 1)) (bs.drop (i + 1))) := by
 rw [List.drop_eq_getElem_cons h]
 have e : bs[i] = bs.getD i 0 := by simp [List.getD_eq_getElem?_getD, h]
 have e2 : qbf bs (i + 1) = bs.getD i 0 := by unfold qbf; rw [if_neg (by omega)]; rfl
 rw [e, e2]
 rfl
theorem qfS {bs : List Int} (h : bs.length ≠ 0) (n : Int) : decide (bs.getLast? = some n) = decide (bs.getD (bs.length - 1) 0 = n) := by
 rw [List.getLast?_eq_getElem?, List.getD_eq_getElem?_getD, List.getElem?_eq_getElem (by omega)]
 simp
theorem qec {l : List It} {bs : List Int} : jy l bs = true ↔ ∀ j, j < l.length → (!zF l j || bs.contains (j : Int)) = true := by
 unfold jy
 rw [List.all_eq_true]
 simp only [List.mem_range]
set_option maxHeartbeats 2000000 in
theorem t46 (l : List It) (bs : List Int) (h : List AObj) (hl : l.length ≤ 300) (hb : bs.length ≤ 1000000) : qs Tryz.prog 45 [qu l, zK bs] h (.bool (ju l bs)) h := by
 by_cases h0 : bs.length = 0
 ·have e : bs = [] := List.eq_nil_of_length_eq_zero h0
  subst e
  refine qo qs7 (by simp) ?_
  simp only [lcP, lnP, Nat.reduceAdd, Nat.reduceSub, List.replicate, caP, naP, List.append_nil]
  simp (disch := omega) only [qxy, qu, zK, List.length_nil, go_sem, qc, dvP, mdP]
  repeat' first
   | ((first | refine qe ?_ ?_ | refine qg ?_ ?_); (next => exact rvk); simp only [go_sem]; (first | exact VLe.refl _ | refine qh ?_ | refine qd ?_ | refine ql ?_ | skip))
   | with_reducible first | refine And.intro ?_ ?_ | intro _
  all_goals first
   | omega
   | trace_state
 ·cases hla : jD l bs with
  | false =>
   have hx : ju l bs = false := by unfold ju; rw [hla]; rfl
   unfold jD at hla
   rw [qfS h0, decide_eq_false_iff_not] at hla
   rw [hx]
   have ht : ((bs.length : Int) - 1).toNat = bs.length - 1 := by omega
   refine qo qs7 (by simp) ?_
   simp only [lcP, lnP, Nat.reduceAdd, Nat.reduceSub, List.replicate, caP, naP, List.append_nil]
   simp (disch := omega) only [qxy, qu, zK, h0, ht, go_sem, qc, dvP, mdP]
   repeat' first
    | ((first | refine qe ?_ ?_ | refine qg ?_ ?_); (next => exact rvk); simp only [go_sem]; (first | exact VLe.refl _ | refine qh ?_ | refine qd ?_ | refine ql ?_ | skip))
    | with_reducible first | refine And.intro ?_ ?_ | intro _
   all_goals first
    | omega
    | trace_state
  | true =>
   have hx : ju l bs = (asc l (-1) bs && jy l bs) := by unfold ju; rw [hla]; rfl
   unfold jD at hla
   rw [qfS h0, decide_eq_true_eq] at hla
   rw [hx]
   have ht : ((bs.length : Int) - 1).toNat = bs.length - 1 := by omega
   refine qo qs7 (by simp) ?_
   simp only [lcP, lnP, Nat.reduceAdd, Nat.reduceSub, List.replicate, caP, naP, List.append_nil]
   simp (disch := omega) only [qxy, qu, zK, h0, ht, hla, go_sem, qc, dvP, mdP]
   repeat' first
    | ((first | refine qe ?_ ?_ | refine qg ?_ ?_); (next => exact rvk); simp only [go_sem]; (first | exact VLe.refl _ | refine qh ?_ | refine qd ?_ | refine ql ?_ | skip))
    | with_reducible first | refine And.intro ?_ ?_ | intro _
   all_goals first
    | omega
    | skip
   have hs : asc l (-1) bs = asc l (qbf bs 0) (bs.drop 0) := rfl
   refine qJ (T := fun i : Nat => qv 72 [(0, qu l), (1, zK bs), (4, .bool false), (22, zK bs), (23, .int .i64 bs.length), (24, .int .i64 i)]) (H := fun _ => h) (inv := fun i => i ≤ bs.length ∧ asc l (-1) bs = asc l (qbf bs i) (bs.drop i)) (m := fun i => bs.length - i) 0 ⟨by omega, hs⟩ (Wk.temps ?_) ?_
   ·(simp only [qu, zK, qv, List.foldl, List.replicate, go_sem, qr, qp, qm, qq]; try (repeat' first | (with_reducible refine And.intro ?_ ?_) | (refine qh ?_; omega) | (refine qd ?_; rfl) | exact VLe.refl _))
   ·rintro i ⟨i1, i2⟩ K hK
    by_cases hi : i < bs.length
    ·have hstep := qcQ l bs i hi
     have hc42 : ∀ h : List AObj, 0 ≤ bs.getD i 0 → bs.getD i 0 ≤ l.length → qs Tryz.prog 72 [qu l, .int .i64 (bs.getD i 0)] h (.bool (qdh l (bs.getD i 0).toNat)) h := fun h a b => by
      have := t42 l (bs.getD i 0).toNat h (by omega) (by omega)
      rwa [Int.toNat_of_nonneg a] at this
     have hm1 : ((i : Int) - 1).toNat = i - 1 := by omega
     have hpv : qbf bs i = if i = 0 then -1 else bs.getD (i - 1) 0 := rfl
     cases hen : qdh l (bs.getD i 0).toNat
     all_goals rw [hen] at hc42 hstep
     ·simp (disch := omega) only [qv, List.foldl, List.replicate, qu, zK, hm1, go_sem, qc, dvP, mdP]
      repeat' first
       | ((first | refine qj (hc42 _ (by simp only [Bool.not_eq_true', Bool.or_eq_false_iff, decide_eq_false_iff_not] at e; omega) (by simp only [Bool.not_eq_true', Bool.or_eq_false_iff, decide_eq_false_iff_not] at e; omega)) ?_ ?_); (next => exact flk); simp (disch := omega) only [go_sem, qc, dvP, mdP])
       | ((first | refine qk (fun e => ⟨?_, hc42 _ (by simp only [Bool.not_eq_true', Bool.or_eq_false_iff, decide_eq_false_iff_not] at e; omega) (by simp only [Bool.not_eq_true', Bool.or_eq_false_iff, decide_eq_false_iff_not] at e; omega)⟩) ?_); (next => exact flk); simp (disch := omega) only [go_sem, qc, dvP, mdP])
       | ((first | refine qe ?_ ?_ | refine qg ?_ ?_); (next => exact rvk); simp only [go_sem]; (first | exact VLe.refl _ | refine qh ?_ | refine qd ?_ | refine ql ?_ | skip))
       | with_reducible first | refine And.intro ?_ ?_ | intro _
      all_goals first
       | omega
       | skip
      rw [i2, hstep]
      simp
     ·simp (disch := omega) only [qv, List.foldl, List.replicate, qu, zK, hm1, go_sem, qc, dvP, mdP]
      repeat' first
       | ((first | refine qj (hc42 _ (by simp only [Bool.not_eq_true', Bool.or_eq_false_iff, decide_eq_false_iff_not] at e; omega) (by simp only [Bool.not_eq_true', Bool.or_eq_false_iff, decide_eq_false_iff_not] at e; omega)) ?_ ?_); (next => exact flk); simp (disch := omega) only [go_sem, qc, dvP, mdP])
       | ((first | refine qk (fun e => ⟨?_, hc42 _ (by simp only [Bool.not_eq_true', Bool.or_eq_false_iff, decide_eq_false_iff_not] at e; omega) (by simp only [Bool.not_eq_true', Bool.or_eq_false_iff, decide_eq_false_iff_not] at e; omega)⟩) ?_); (next => exact flk); simp (disch := omega) only [go_sem, qc, dvP, mdP])
       | ((first | refine qe ?_ ?_ | refine qg ?_ ?_); (next => exact rvk); simp only [go_sem]; (first | exact VLe.refl _ | refine qh ?_ | refine qd ?_ | refine ql ?_ | skip))
       | with_reducible first | refine And.intro ?_ ?_ | intro _
      all_goals first
       | omega
       | skip
      ·rename_i hxx
       rw [i2, hstep]
       have : (decide (0 ≤ bs.getD i 0) && (decide (bs.getD i 0 ≤ ↑l.length) && (decide (qbf bs i < bs.getD i 0) && true))) = false := by
        rw [Bool.eq_false_iff]; intro hq; simp only [Bool.and_eq_true, decide_eq_true_eq] at hq; rw [hpv] at hq
        split at hq <;> omega
       rw [this]
       rfl
      ·rename_i hxx
       refine hK _ _ (i + 1) ⟨by omega, ?_⟩ (by omega) (Wk.temps ?_)
       ·rw [i2, hstep]
        have : (decide (0 ≤ bs.getD i 0) && (decide (bs.getD i 0 ≤ ↑l.length) && (decide (qbf bs i < bs.getD i 0) && true))) = true := by
         simp only [Bool.and_eq_true, decide_eq_true_eq]; rw [hpv]
         refine ⟨by omega, by omega, ?_, trivial⟩
         split <;> omega
        rw [this]
        rfl
       ·(simp only [qu, zK, qv, List.foldl, List.replicate, go_sem, qr, qp, qm, qq]; try (repeat' first | (with_reducible refine And.intro ?_ ?_) | (refine qh ?_; omega) | (refine qd ?_; rfl) | exact VLe.refl _))
    ·have e : i = bs.length := by omega
     subst e
     rw [List.drop_length] at i2
     have i3 : asc l (-1) bs = true := i2
     rw [i3, Bool.true_and]
     simp (disch := omega) only [qv, List.foldl, List.replicate, qu, zK, go_sem, qc, dvP, mdP]
     refine ⟨fun hc => absurd hc (by omega), fun _ => ?_⟩
     refine qJ (T := fun i : Nat => qv 72 [(0, qu l), (1, zK bs), (4, .bool false), (57, qu l), (58, .int .i64 l.length), (59, .int .i64 i)]) (H := fun _ => h) (inv := fun i => i ≤ l.length ∧ ∀ j, j < i → (!zF l j || bs.contains (j : Int)) = true) (m := fun i => l.length - i) 0 ⟨by omega, fun j hj => absurd hj (by omega)⟩ (Wk.temps ?_) ?_
     ·(simp only [qu, zK, qv, List.foldl, List.replicate, go_sem, qr, qp, qm, qq]; try (repeat' first | (with_reducible refine And.intro ?_ ?_) | (refine qh ?_; omega) | (refine qd ?_; rfl) | exact VLe.refl _))
     ·rintro i ⟨i1, i2⟩ K hK
      by_cases hi : i < l.length
      ·cases hfo : zF l i
       ·simp (disch := omega) only [qv, List.foldl, List.replicate, qu, zK, go_sem, qc, dvP, mdP]
        repeat' first
         | ((first | refine qj (t43 l i _) ?_ ?_ | refine qj (t17 bs i _ hb) ?_ ?_); (next => exact flk); simp (disch := omega) only [hfo, go_sem, qc, dvP, mdP])
         | ((first | refine qn (fun _ => t43 l i _) ?_ ?_); (next => exact flk); simp (disch := omega) only [hfo, go_sem, qc, dvP, mdP])
         | ((first | refine qk (fun e => ⟨?_, t43 l i _⟩) ?_ | refine qk (fun e => ⟨?_, t17 bs i _ hb⟩) ?_); (next => exact flk); simp (disch := omega) only [hfo, go_sem, qc, dvP, mdP])
         | ((first | refine qe ?_ ?_ | refine qg ?_ ?_); (next => exact rvk); simp only [go_sem]; (first | exact VLe.refl _ | refine qh ?_ | refine qd ?_ | refine ql ?_ | skip))
         | with_reducible first | refine And.intro ?_ ?_ | intro _
        all_goals first
         | omega
         | (rename_i hx; revert hx; simp; done)
         | skip
        refine hK _ _ (i + 1) ⟨by omega, fun j hj => ?_⟩ (by omega) (Wk.temps ?_)
        ·by_cases ej : j = i
         ·rw [ej, hfo]; rfl
         ·exact i2 j (by omega)
        ·(simp only [qu, zK, qv, List.foldl, List.replicate, go_sem, qr, qp, qm, qq]; try (repeat' first | (with_reducible refine And.intro ?_ ?_) | (refine qh ?_; omega) | (refine qd ?_; rfl) | exact VLe.refl _))
       ·cases hco : bs.contains (i : Int)
        ·simp (disch := omega) only [qv, List.foldl, List.replicate, qu, zK, go_sem, qc, dvP, mdP]
         repeat' first
          | ((first | refine qj (t43 l i _) ?_ ?_ | refine qj (t17 bs i _ hb) ?_ ?_); (next => exact flk); simp (disch := omega) only [hfo, hco, go_sem, qc, dvP, mdP])
          | ((first | refine qn (fun _ => t43 l i _) ?_ ?_); (next => exact flk); simp (disch := omega) only [hfo, hco, go_sem, qc, dvP, mdP])
          | ((first | refine qk (fun e => ⟨?_, t43 l i _⟩) ?_ | refine qk (fun e => ⟨?_, t17 bs i _ hb⟩) ?_); (next => exact flk); simp (disch := omega) only [hfo, hco, go_sem, qc, dvP, mdP])
          | ((first | refine qe ?_ ?_ | refine qg ?_ ?_); (next => exact rvk); simp only [go_sem]; (first | exact VLe.refl _ | refine qh ?_ | refine qd ?_ | refine ql ?_ | skip))
          | with_reducible first | refine And.intro ?_ ?_ | intro _
         all_goals first
          | omega
          | skip
         have hne : jy l bs = false := by
          rw [Bool.eq_false_iff]; intro hq; have := qec.1 hq i hi; rw [hfo, hco] at this; cases this
         rw [hne]
         all_goals trace_state
        ·simp (disch := omega) only [qv, List.foldl, List.replicate, qu, zK, go_sem, qc, dvP, mdP]
         repeat' first
          | ((first | refine qj (t43 l i _) ?_ ?_ | refine qj (t17 bs i _ hb) ?_ ?_); (next => exact flk); simp (disch := omega) only [hfo, hco, go_sem, qc, dvP, mdP])
          | ((first | refine qn (fun _ => t43 l i _) ?_ ?_); (next => exact flk); simp (disch := omega) only [hfo, hco, go_sem, qc, dvP, mdP])
          | ((first | refine qk (fun e => ⟨?_, t43 l i _⟩) ?_ | refine qk (fun e => ⟨?_, t17 bs i _ hb⟩) ?_); (next => exact flk); simp (disch := omega) only [hfo, hco, go_sem, qc, dvP, mdP])
          | ((first | refine qe ?_ ?_ | refine qg ?_ ?_); (next => exact rvk); simp only [go_sem]; (first | exact VLe.refl _ | refine qh ?_ | refine qd ?_ | refine ql ?_ | skip))
          | with_reducible first | refine And.intro ?_ ?_ | intro _
         all_goals first
          | omega
          | skip
         refine hK _ _ (i + 1) ⟨by omega, fun j hj => ?_⟩ (by omega) (Wk.temps ?_)
         ·by_cases ej : j = i
          ·rw [ej, hfo, hco]; rfl
          ·exact i2 j (by omega)
         ·(simp only [qu, zK, qv, List.foldl, List.replicate, go_sem, qr, qp, qm, qq]; try (repeat' first | (with_reducible refine And.intro ?_ ?_) | (refine qh ?_; omega) | (refine qd ?_; rfl) | exact VLe.refl _))
      ·have e : i = l.length := by omega
       subst e
       have hne : jy l bs = true := qec.2 i2
       rw [hne]
       simp (disch := omega) only [qv, List.foldl, List.replicate, qu, zK, go_sem, qc, dvP, mdP]
       repeat' first
        | ((first | refine qe ?_ ?_ | refine qg ?_ ?_); (next => exact rvk); simp only [go_sem]; (first | exact VLe.refl _ | refine qh ?_ | refine qd ?_ | refine ql ?_ | skip))
        | with_reducible first | refine And.intro ?_ ?_ | intro _
       all_goals first
        | omega
        | trace_state
end
section
open Go Go.Proofs AF P48
open HY (bufO bufO_nil bufO_ne bytesA_app bytesA_low bufO_low bld_set bld_low bufO_if)
set_option maxRecDepth 100000
def qwq (ls : List P48.Line) : AV := .sl ls.length fun i => qN (ls.getD i default)
def kx (ls : List P48.Line) : List AV := ls.flatMap qN
def qtx (v : Nat) (ls : List P48.Line) : AObj := if ls = [] then .emp 1 else .mem v 49 (kx ls)
theorem qdy (v : Nat) : qtx v [] = .emp 1 := rfl
theorem qbJ {ls : List P48.Line} (h : ls ≠ []) (v : Nat) : qtx v ls = .mem v 49 (kx ls) := if_neg h
theorem qfT (x : P48.Line) : (qN x).length = 5 := rfl
theorem qbX (l : List P48.Line) : (kx l).length = l.length * 5 := by
 induction l with
 | nil => rfl
 | cons x l ih => unfold kx at *; rw [List.flatMap_cons, List.length_append, ih, qfT, List.length_cons]; omega
theorem qfr (l : List P48.Line) : (List.range l.length).flatMap (fun i => qN (l.getD i default)) = kx l := by
 have : l = (List.range l.length).map (fun i => l.getD i default) := by
  apply List.ext_getElem
  ·simp
  ·intro i h1 h2; simp [List.getD_eq_getElem?_getD, h1]
 unfold kx
 conv => rhs; rw [this]
 rw [List.flatMap_map]
theorem qwr {L : List P48.Line} {n m : Nat} {fz : Nat → Bool} {h : List AObj} (e : L.length = m) : VLe (.sl m fun i => (((kx L).drop (i * 5)).take 5).map (rei fz h (n + 1))) (qwq L) := by
 subst e
 refine qc6 rfl (fun i hi => ?_)
 rw [← qfr, qxU (fun j _ => qfT _) hi]
 rfl
theorem qgO (L : List P48.Line) (x : P48.Line) : kx (L ++ [x]) = kx L ++ qN x := by simp [kx]
def qfD (bs : List Int) (i : Nat) : Nat := if i = 0 then 0 else (bs.getD (i - 1) 0).toNat + 1
theorem qd6 {l : List It} {bs : List Int} (h : ju l bs = true) : ∀ i, i ≤ bs.length → asc l (qbf bs i) (bs.drop i) = true := by
 have h1 : asc l (-1) bs = true := by
  unfold ju at h
  simp only [Bool.and_eq_true] at h
  exact h.2.1
 intro i
 induction i with
 | zero => intro _; exact h1
 | succ i ih =>
  intro hi
  have := ih (by omega)
  rw [qcQ l bs i (by omega)] at this
  simp only [Bool.and_eq_true] at this
  exact this.2
theorem qez {l : List It} {bs : List Int} (h : ju l bs = true) (i : Nat) (hi : i < bs.length) : 0 ≤ bs.getD i 0 := by
 have h1 := qd6 h i (by omega)
 rw [qcQ l bs i hi] at h1
 simp only [Bool.and_eq_true, decide_eq_true_eq] at h1
 exact h1.1.1
theorem qlq {l : List It} {bs : List Int} (h : ju l bs = true) {i : Nat} (hi : i < bs.length) : 0 ≤ bs.getD i 0 ∧ bs.getD i 0 ≤ l.length ∧ (qfD bs i : Int) ≤ bs.getD i 0 := by
 have h1 := qd6 h i (by omega)
 rw [qcQ l bs i hi] at h1
 simp only [Bool.and_eq_true, decide_eq_true_eq] at h1
 refine ⟨h1.1.1, h1.1.2.1, ?_⟩
 have h2 := h1.1.2.2.1
 unfold qbf at h2
 unfold qfD
 have h3 := h1.1.1
 split at h2
 ·rename_i e; rw [if_pos e]; omega
 ·rename_i e; rw [if_neg e]
  have h5 := qez h (i - 1) (by omega)
  omega
theorem qmZ (bs : List Int) {i : Nat} (hi : i < bs.length) : (ki bs).drop i = (bs.getD i 0).toNat :: (ki bs).drop (i + 1) := by
 unfold ki
 rw [List.drop_eq_getElem_cons (by simpa using hi)]
 simp [List.getD_eq_getElem?_getD, hi]
set_option maxHeartbeats 4000000 in
theorem t16 (l : List It) (width : Int) (bs : List Int) (h : List AObj) (hl : l.length ≤ 300) (hb : bs.length ≤ 1000000) (hB : ∀ i, (it l i).text.length ≤ 1000000) :
  qs Tryz.prog 14 [qu l, .int .i64 width, zK bs] h (.tup [qwq (jn l width bs).1, .int .i64 (jn l width bs).2]) h := by
 have hnl : VLe .nl (qwq []) := kH
 by_cases hw : jb l width = 0
 ·obtain ⟨hc, w0, w1⟩ := qcp l width hw
  have hv := Valid.of hl hc
  cases hbr : ju l bs with
  | false =>
   have e : jn l width bs = ([], 23) := by unfold jn; rw [if_pos hw, hbr]; rfl
   rw [e]
   refine qo qs3 (by simp) ?_
   simp only [lcP, lnP, Nat.reduceAdd, Nat.reduceSub, List.replicate, caP, naP, List.append_nil]
   simp (disch := omega) only [qxw, go_sem, qc, dvP, mdP]
   repeat' first
    | ((first | refine qj (t38 l width _ (by omega)) ?_ ?_ | refine qj (t46 l bs _ hl hb) ?_ ?_); (next => exact flk); simp (disch := omega) only [hw, hbr, go_sem, qc, dvP, mdP])
    | ((first | refine qk (fun e => ⟨?_, t38 l width _ (by omega)⟩) ?_ | refine qk (fun e => ⟨?_, t46 l bs _ hl hb⟩) ?_); (next => exact flk); simp (disch := omega) only [hw, hbr, go_sem, qc, dvP, mdP])
    | ((first | refine qe ?_ ?_ | refine qg ?_ ?_); (next => exact rvk); simp only [go_sem]; (first | exact VLe.refl _ | refine qh ?_ | refine qd ?_ | refine ql ?_ | skip))
    | with_reducible first | refine And.intro ?_ ?_ | intro _
   all_goals first
    | omega
    | skip
   exact zo (zU hnl (zU (VLe.refl _) j4.nil))
  | true =>
   refine qo qs3 (by simp) ?_
   simp only [lcP, lnP, Nat.reduceAdd, Nat.reduceSub, List.replicate, caP, naP, List.append_nil]
   simp (disch := omega) only [qxw, go_sem, qc, dvP, mdP]
   repeat' first
    | ((first | refine qj (t38 l width _ (by omega)) ?_ ?_ | refine qj (t46 l bs _ hl hb) ?_ ?_); (next => exact flk); simp (disch := omega) only [hw, hbr, zK, go_sem, qc, dvP, mdP])
    | ((first | refine qk (fun e => ⟨?_, t38 l width _ (by omega)⟩) ?_ | refine qk (fun e => ⟨?_, t46 l bs _ hl hb⟩) ?_); (next => exact flk); simp (disch := omega) only [hw, hbr, zK, go_sem, qc, dvP, mdP])
    | ((first | refine qe ?_ ?_ | refine qg ?_ ?_); (next => exact rvk); simp only [go_sem]; (first | exact VLe.refl _ | refine qh ?_ | refine qd ?_ | refine ql ?_ | skip))
    | with_reducible first | refine And.intro ?_ ?_ | intro _
   all_goals first
    | omega
    | skip
   have hnl0 : (ki bs).length = bs.length := by simp [ki]
   refine qJ (T := fun i : Nat × List P48.Line × AObj × AObj × Nat => qv 49 [(0, qu l), (1, .int .i64 width), (2, zK bs), (9, .osl (h.length + 1) i.2.2.2.2 5 0 i.2.1.length), (10, .int .i64 (qfD bs i.1)), (25, zK bs), (26, .int .i64 bs.length), (27, .int .i64 i.1)])
    (H := fun i => h ++ [.emp 1, qtx i.2.2.2.2 i.2.1, i.2.2.1, i.2.2.2.1, .emp 0])
    (inv := fun i => i.1 ≤ bs.length ∧ i.2.1.length = i.1 ∧ zk l width 0 (ki bs) = (zk l width (qfD bs i.1) ((ki bs).drop i.1)).map (i.2.1 ++ ·) ∧ zf [i.2.2.1] 0 = true ∧ zf [i.2.2.2.1] 0 = true ∧ (i.2.1 = [] → i.2.2.2.2 = 1)) (m := fun i => bs.length - i.1) (0, [], .emp 0, .emp 0, 1)
    ⟨by simp only; omega, rfl, ?_, rfl, rfl, fun _ => rfl⟩ (Wk.temps ?_) ?_
   ·simp only [List.drop_zero, List.nil_append]
    show _ = Option.map _ (zk l width 0 (ki bs))
    simp
   ·(simp only [List.length_nil, qu, zK, qv, List.foldl, List.replicate, go_sem, qr, qp, qm, qq]; try (repeat' first | (with_reducible refine And.intro ?_ ?_) | (refine qh ?_; omega) | (refine qd ?_; rfl) | exact VLe.refl _))
    all_goals trace_state
   ·rintro ⟨i, L, O2, O3, v⟩ ⟨i1, i2, i3, i4, i5, i6⟩ K hK
    simp only at i1 i2 i3 i4 i5 i6 hK
    have i4' : ∀ m, zf (O2 :: m) 0 = true := fun _ => i4
    have i5' : ∀ m, zf (O3 :: m) 0 = true := fun _ => i5
    by_cases hi : i < bs.length
    ·obtain ⟨b0, b1, b2⟩ := qlq hbr hi
     rw [qmZ bs hi] at i3
     obtain ⟨to, hto⟩ : ∃ to : Nat, bs.getD i 0 = to := ⟨(bs.getD i 0).toNat, by omega⟩
     rw [hto] at b0 b1 b2
     have hto2 : (bs.getD i 0).toNat = to := by omega
     have hfr : qfD bs (i + 1) = to + 1 := by unfold qfD; rw [if_neg (by omega)]; show (bs.getD i 0).toNat + 1 = _; omega
     rw [hto2] at i3
     simp only [zk] at i3
     have hc44 : ∀ h : List AObj, qs Tryz.prog 46 [qu l, .int .i64 width, .int .i64 (qfD bs i), .int .i64 to] h (.tup [.agg (qN (jJ l width (qfD bs i) to)), .bool (jZ l width (qfD bs i) to).2.2]) h := fun h => t44 l width (qfD bs i) to h hv hB w0 w1 (by omega) (by omega)
     cases hfe : (jZ l width (qfD bs i) to).2.2 with
     | false =>
      rw [hfe] at i3 hc44
      have e : jn l width bs = ([], 21) := by unfold jn; rw [if_pos hw, if_pos hbr, i3]; rfl
      rw [e]
      by_cases hL : L = []
      ·subst hL
       have hv1 := i6 rfl
       subst hv1
       simp (disch := omega) only [qv, List.foldl, List.replicate, zK, hto, i4', i5', qdy, List.length_nil, go_sem, qc, dvP, mdP]
       repeat' first
        | ((first | refine qj (hc44 _) ?_ ?_); (next => exact flk); simp (disch := omega) only [i4', i5', qM, qN, go_sem, qc, dvP, mdP])
        | ((first | refine qn (fun _ => hc44 _) ?_ ?_); (next => exact flk); simp (disch := omega) only [i4', i5', qM, qN, go_sem, qc, dvP, mdP])
        | ((first | refine qk (fun e => ⟨?_, hc44 _⟩) ?_); (next => exact flk); simp (disch := omega) only [i4', i5', qM, qN, go_sem, qc, dvP, mdP])
        | ((first | refine qe ?_ ?_ | refine qg ?_ ?_); (next => exact rvk); simp only [go_sem]; (first | exact VLe.refl _ | refine qh ?_ | refine qd ?_ | refine ql ?_ | skip))
        | with_reducible first | refine And.intro ?_ ?_ | intro _
       all_goals first
        | omega
        | (simp; done)
        | skip
       exact zo (zU hnl (zU (VLe.refl _) j4.nil))
      ·have eO := qbJ hL v
       have eL := qbX L
       have eT : List.take (L.length * 5) (kx L) = kx L := List.take_of_length_le (by omega)
       simp (disch := omega) only [qv, List.foldl, List.replicate, zK, hto, i4', i5', eO, go_sem, qc, dvP, mdP]
       repeat' first
        | ((first | refine qj (hc44 _) ?_ ?_); (next => exact flk); simp (disch := omega) only [i4', i5', qM, qN, eL, eT, go_sem, qc, dvP, mdP])
        | ((first | refine qn (fun _ => hc44 _) ?_ ?_); (next => exact flk); simp (disch := omega) only [i4', i5', qM, qN, eL, eT, go_sem, qc, dvP, mdP])
        | ((first | refine qk (fun e => ⟨?_, hc44 _⟩) ?_); (next => exact flk); simp (disch := omega) only [i4', i5', qM, qN, eL, eT, go_sem, qc, dvP, mdP])
        | ((first | refine qe ?_ ?_ | refine qg ?_ ?_); (next => exact rvk); simp only [go_sem]; (first | exact VLe.refl _ | refine qh ?_ | refine qd ?_ | refine ql ?_ | skip))
        | with_reducible first | refine And.intro ?_ ?_ | intro _
       all_goals first
        | omega
        | (simp; done)
        | skip
       exact zo (zU hnl (zU (VLe.refl _) j4.nil))
     | true =>
      rw [hfe] at i3 hc44
      by_cases hL : L = []
      ·subst hL
       have hv1 := i6 rfl
       subst hv1
       simp (disch := omega) only [qv, List.foldl, List.replicate, zK, hto, i4', i5', qdy, List.length_nil, go_sem, qc, dvP, mdP]
       repeat' first
        | ((first | refine qj (hc44 _) ?_ ?_); (next => exact flk); simp (disch := omega) only [i4', i5', qM, qN, go_sem, qc, dvP, mdP])
        | ((first | refine qn (fun _ => hc44 _) ?_ ?_); (next => exact flk); simp (disch := omega) only [i4', i5', qM, qN, go_sem, qc, dvP, mdP])
        | ((first | refine qk (fun e => ⟨?_, hc44 _⟩) ?_); (next => exact flk); simp (disch := omega) only [i4', i5', qM, qN, go_sem, qc, dvP, mdP])
        | ((first | refine qe ?_ ?_ | refine qg ?_ ?_); (next => exact rvk); simp only [go_sem]; (first | exact VLe.refl _ | refine qh ?_ | refine qd ?_ | refine ql ?_ | skip))
        | with_reducible first | refine And.intro ?_ ?_ | intro _
       all_goals first
        | omega
        | (simp; done)
        | skip
       refine hK _ _ (i + 1, [jJ l width (qfD bs i) to], .mem (qA (some O2) + 1) 49 (qN (jJ l width (qfD bs i) to)), .mem (qA (some O3) + 1) 49 (qN (jJ l width (qfD bs i) to)), 2) ⟨by simp only; omega, by simp at i2 ⊢; omega, ?_, rfl, rfl, by simp⟩ (by simp only; omega) ?_
       ·simp only [hfr]
        rw [i3]
        simp [Option.map_map, Function.comp_def]
       ·rw [qbJ (by simp)]
        simp only [hfr]
        refine Wk.temps ?_
        (simp only [List.length_singleton, qu, zK, qv, List.foldl, List.replicate, go_sem, qr, qp, qm, qq]; try (repeat' first | (with_reducible refine And.intro ?_ ?_) | (refine qh ?_; omega) | (refine qd ?_; rfl) | exact VLe.refl _))
      ·have eO := qbJ hL v
       have eL := qbX L
       have eT : List.take (L.length * 5) (kx L) = kx L := List.take_of_length_le (by omega)
       simp (disch := omega) only [qv, List.foldl, List.replicate, zK, hto, i4', i5', eO, go_sem, qc, dvP, mdP]
       repeat' first
        | ((first | refine qj (hc44 _) ?_ ?_); (next => exact flk); simp (disch := omega) only [i4', i5', qM, qN, eL, eT, go_sem, qc, dvP, mdP])
        | ((first | refine qn (fun _ => hc44 _) ?_ ?_); (next => exact flk); simp (disch := omega) only [i4', i5', qM, qN, eL, eT, go_sem, qc, dvP, mdP])
        | ((first | refine qk (fun e => ⟨?_, hc44 _⟩) ?_); (next => exact flk); simp (disch := omega) only [i4', i5', qM, qN, eL, eT, go_sem, qc, dvP, mdP])
        | ((first | refine qe ?_ ?_ | refine qg ?_ ?_); (next => exact rvk); simp only [go_sem]; (first | exact VLe.refl _ | refine qh ?_ | refine qd ?_ | refine ql ?_ | skip))
        | with_reducible first | refine And.intro ?_ ?_ | intro _
       all_goals first
        | omega
        | (simp; done)
        | skip
       refine hK _ _ (i + 1, L ++ [jJ l width (qfD bs i) to], .mem (qA (some O2) + 1) 49 (qN (jJ l width (qfD bs i) to)), .mem (qA (some O3) + 1) 49 (qN (jJ l width (qfD bs i) to)), v + 1) ⟨by simp only; omega, by simp; omega, ?_, rfl, rfl, by simp⟩ (by simp only; omega) ?_
       ·simp only [hfr]
        rw [i3]
        simp [Option.map_map, Function.comp_def]
       ·rw [qbJ (by simp)]
        simp only [hfr, qgO]
        refine Wk.temps ?_
        (simp only [List.length_append, List.length_singleton, qu, zK, qv, List.foldl, List.replicate, go_sem, qr, qp, qm, qq]; try (repeat' first | (with_reducible refine And.intro ?_ ?_) | (refine qh ?_; omega) | (refine qd ?_; rfl) | exact VLe.refl _))
    ·have e : i = bs.length := by omega
     subst e
     have e0 : (ki bs).drop bs.length = [] := by rw [← hnl0, List.drop_length]
     rw [e0] at i3
     have e : jn l width bs = (L, 0) := by unfold jn; rw [if_pos hw, if_pos hbr, i3]; simp [zk]
     rw [e]
     by_cases hL : L = []
     ·subst hL
      have hv1 := i6 rfl
      subst hv1
      simp (disch := omega) only [qv, List.foldl, List.replicate, zK, qdy, List.length_nil, go_sem, qc, dvP, mdP]
      repeat' first
       | ((first | refine qe ?_ ?_ | refine qg ?_ ?_); (next => exact rvk); simp only [go_sem]; (first | exact VLe.refl _ | refine qh ?_ | refine qd ?_ | refine ql ?_ | skip))
       | with_reducible first | refine And.intro ?_ ?_ | intro _
      all_goals first
       | omega
       | skip
      exact zo (zU hnl (zU (VLe.refl _) j4.nil))
     ·have eO := qbJ hL v
      have eL := qbX L
      simp (disch := omega) only [qv, List.foldl, List.replicate, zK, eO, eL, go_sem, qc, dvP, mdP]
      repeat' first
       | ((first | refine qe ?_ ?_ | refine qg ?_ ?_); (next => exact rvk); simp only [go_sem]; (first | exact VLe.refl _ | refine qh ?_ | refine qd ?_ | refine ql ?_ | skip))
       | with_reducible first | refine And.intro ?_ ?_ | intro _
      all_goals first
       | omega
       | skip
      rw [if_pos (by omega)]
      exact zo (zU (qwr rfl) (zU (VLe.refl _) j4.nil))
 ·have e : jn l width bs = ([], jb l width) := by unfold jn; rw [if_neg hw]
  rw [e]
  refine qo qs3 (by simp) ?_
  simp only [lcP, lnP, Nat.reduceAdd, Nat.reduceSub, List.replicate, caP, naP, List.append_nil]
  simp (disch := omega) only [qxw, go_sem, qc, dvP, mdP]
  repeat' first
   | ((first | refine qj (t38 l width _ (by omega)) ?_ ?_); (next => exact flk); simp (disch := omega) only [hw, go_sem, qc, dvP, mdP])
   | ((first | refine qk (fun e => ⟨?_, t38 l width _ (by omega)⟩) ?_); (next => exact flk); simp (disch := omega) only [hw, go_sem, qc, dvP, mdP])
   | ((first | refine qe ?_ ?_ | refine qg ?_ ?_); (next => exact rvk); simp only [go_sem]; (first | exact VLe.refl _ | refine qh ?_ | refine qd ?_ | refine ql ?_ | skip))
   | with_reducible first | refine And.intro ?_ ?_ | intro _
  all_goals first
   | omega
   | skip
  exact zo (zU hnl (zU (VLe.refl _) j4.nil))
end
section
open Go Go.Proofs AF HY
namespace HY
set_option maxRecDepth 100000
theorem qfJ (L : List Int) : (List.range L.length).flatMap (fun i => [AV.int .i64 (L.getD i 0)]) = q9 L := by
 rw [← List.map_eq_flatMap]
 unfold q9
 apply List.ext_getElem
 ·simp
 ·intro i h1 h2
  simp at h1
  simp [List.getD_eq_getElem?_getD, h1]
theorem qyU (h : List AObj) : qs Tryz.prog 67 [.nl] h .nl h := by
 refine qo qv5 (by simp) ?_
 simp only [lcP, lnP, Nat.reduceAdd, Nat.reduceSub, List.replicate, caP, naP, List.append_nil]
 simp (disch := omega) only [qxM, go_sem, qc, dvP, mdP]
 repeat' first
  | ((first | refine qe ?_ ?_ | refine qg ?_ ?_); (next => exact rvk); simp only [go_sem]; (first | exact VLe.refl _ | refine qh ?_ | refine qd ?_ | refine ql ?_ | skip))
  | with_reducible first | refine And.intro ?_ ?_ | intro _
 all_goals try exact clz
theorem t90 (L : List Int) (h : List AObj) (k : Nat) (hk : zf h k = true) (h0 : L.length ≠ 0) (hl : L.length ≤ 1000000) :
  qs Tryz.prog 67 [qy L] h (.osl k (qA (qL k h) + 1) 1 0 L.length) (qO k h (.mem (qA (qL k h) + 1) 3 (q9 L))) := by
 refine qgE qv5 k (by simp) ?_
 simp only [lcP, lnP, Nat.reduceAdd, Nat.reduceSub, List.replicate, caP, naP, List.append_nil]
 have el := zy L
 simp (disch := omega) only [qxM, qy, h0, qM, qfJ, el, go_sem, qc, dvP, mdP]
 exact ⟨by repeat' (first | rfl | omega | (with_reducible refine And.intro ?_ ?_)), h.length + 1, 2, 1, 0, L.length, 3, q9 L, [AObj.emp 1, AObj.mem 2 3 (q9 L), AObj.emp 0], ⟨trivial, trivial⟩, rfl, rfl, by omega, by simp only [go_sem], by
  intro c hc
  unfold q9 at hc
  rw [List.mem_map] at hc
  obtain ⟨x, _, rfl⟩ := hc
  rfl, hk, rfl, rfl⟩
def jq (L : List Int) (j : Nat) : Int := if j = 0 then 0 else L.getD (j - 1) 0
def kQ (w : List UInt8) (L : List Int) (j : Nat) : List UInt8 := (w.drop (jq L j).toNat).take ((L.getD j 0).toNat - (jq L j).toNat)
def zt (w : List UInt8) (L : List Int) (j : Nat) : List (List UInt8) := (List.range j).map (kQ w L)
def qg8 (w : List UInt8) (L : List Int) : Prop := ∀ j, j < L.length → 0 ≤ jq L j ∧ jq L j ≤ L.getD j 0 ∧ L.getD j 0 ≤ w.length
theorem qah (L : List Int) : jq L 0 = 0 := rfl
theorem qag (L : List Int) (j : Nat) : jq L (j + 1) = L.getD j 0 := by simp [jq]
theorem qf6 (w : List UInt8) (L : List Int) : zt w L 0 = [] := rfl
theorem qaC (w : List UInt8) (L : List Int) (j : Nat) : zt w L (j + 1) = zt w L j ++ [kQ w L j] := by unfold zt; rw [List.range_succ, List.map_append]; rfl
theorem jv (w : List UInt8) (L : List Int) (j : Nat) : (zt w L j).length = j := by simp [zt]
theorem qdG (L : List (List UInt8)) (x : List UInt8) : jh L ++ [.str x] = jh (L ++ [x]) := by simp [jh]
theorem qes {v n : Nat} {L : List (List UInt8)} {fz : Nat → Bool} {h : List AObj} : VLe (qo8 (some (kC v 9 (jh L))) v 1 0 L.length (rei fz h (n + 1))) (qF L) := by
 unfold kC
 split
 ·rename_i e
  have : L = [] := by cases L with
   | nil => rfl
   | cons a l => simp [jh] at e
  subst this
  rw [slOf_emp, if_pos rfl]
  exact kH
 ·rw [slOf_mem, if_pos ⟨rfl, by rw [zJ]; omega⟩]
  simp only [Nat.zero_add, Nat.mul_one]
  exact qe1 rfl
def zb (ps : List Pat) (w : List UInt8) : List Int := jN ps w ++ [(w.length : Int)]
def zm (ps : List Pat) (w : List UInt8) : List (List UInt8) := if qa2 w = true then zt w (zb ps w) (zb ps w).length else [w]
theorem qek (own : List (List UInt8)) {i j : Nat} (h : i ≤ j) : qh8 own i ≤ qh8 own j := by
 unfold qh8
 have e : own.take i = (own.take j).take i := by rw [List.take_take, Nat.min_eq_left h]
 rw [e]
 exact jC _ _
theorem qf7 (own : List (List UInt8)) (lv : List Int) (m : Nat) : List.Pairwise (· ≤ ·) (qcz own lv m) := by
 unfold qcz qcL
 rw [List.pairwise_map]
 refine List.Pairwise.imp ?_ ((List.pairwise_lt_range (n := m)).filter _)
 intro a b hab
 have := qek own (show a + 1 ≤ b + 1 by omega)
 omega
theorem qhf (w : List UInt8) (lv : List Int) (m : Nat) : ∀ x ∈ qcz (qV w) lv m, 0 ≤ x ∧ x ≤ w.length := by
 intro x hx
 unfold qcz at hx
 rw [List.mem_map] at hx
 obtain ⟨i, _, rfl⟩ := hx
 have := qg7 (qV w) (i + 1)
 rw [qaw] at this
 omega
theorem qjt {w : List UInt8} {L : List Int} (hs : List.Pairwise (· ≤ ·) L) (hb : ∀ x ∈ L, 0 ≤ x ∧ x ≤ w.length) : qg8 w L := by
 intro j hj
 have g : ∀ i (hi : i < L.length), L.getD i 0 = L[i] := fun i hi => by simp [List.getD_eq_getElem?_getD, hi]
 have h1 := hb _ (List.getElem_mem hj)
 rw [g j hj]
 unfold jq
 split
 ·omega
 ·have hj' : j - 1 < L.length := by omega
  have h2 := hb _ (List.getElem_mem hj')
  have h3 := (List.pairwise_iff_getElem.1 hs) (j - 1) j hj' hj (by omega)
  rw [g (j - 1) hj']
  omega
theorem kF (ps : List Pat) (w : List UInt8) : qg8 w (zb ps w) := by
 unfold zb jN
 have hb : ∀ x ∈ (if qaF ps w = 0 then qcz (qV w) (jr ps w) ((qV w).length - 1) else []), 0 ≤ x ∧ x ≤ (w.length : Int) := by
  split
  ·exact qhf w _ _
  ·simp
 have hs : List.Pairwise (· ≤ ·) (if qaF ps w = 0 then qcz (qV w) (jr ps w) ((qV w).length - 1) else []) := by
  split
  ·exact qf7 _ _ _
  ·exact .nil
 refine qjt ?_ ?_
 ·rw [List.pairwise_append]
  refine ⟨hs, by simp, fun a ha b hb' => ?_⟩
  simp at hb'
  subst hb'
  exact (hb a ha).2
 ·intro x hx
  rcases List.mem_append.1 hx with h | h
  ·exact hb x h
  ·simp at h; subst h; omega
theorem qdD (ps : List Pat) (w : List UInt8) : (jN ps w).length ≤ w.length := by
 unfold jN
 split
 ·rw [qid]
  have := qie (qV w).length (jr ps w) ((qV w).length - 1)
  have := jB w
  omega
 ·simp
set_option maxHeartbeats 4000000 in
theorem t66 (ps : List Pat) (w : List UInt8) (h : List AObj) (hok : qa6 ps) (hw : w.length ≤ 100000) (hc : jm ps = 0) : qs Tryz.prog 38 [qw ps, .str w] h (.tup [qF (zm ps w), .int .i64 0]) h := by
 have qbT := fun h => t88 w h (by omega)
 have qly := fun h => t89 ps w h hok (by omega)
 have hcut := kF ps w
 have hpl := qdD ps w
 unfold zm
 by_cases g : qa2 w = true
 case neg =>
  rw [if_neg g]
  have g' : qa2 w = false := by simpa using g
  rw [g'] at qbT
  refine qo qs5 (by simp) ?_
  simp only [lcP, lnP, Nat.reduceAdd, Nat.reduceSub, List.replicate, caP, naP, List.append_nil]
  simp (disch := omega) only [qfc, qE, go_sem, qc, dvP, mdP]
  repeat' first
   | ((first | refine qj (qbT _) ?_ ?_); (next => exact flk); simp (disch := omega) only [qE, go_sem, qc, dvP, mdP])
   | ((first | refine qn (fun _ => qbT _) ?_ ?_); (next => exact flk); simp (disch := omega) only [qE, go_sem, qc, dvP, mdP])
   | ((first | refine qk (fun e => ⟨?_, qbT _⟩) ?_); (next => exact flk); simp (disch := omega) only [qE, go_sem, qc, dvP, mdP])
   | ((first | refine qe ?_ ?_ | refine qg ?_ ?_); (next => exact rvk); simp only [go_sem]; (first | exact VLe.refl _ | refine qh ?_ | refine qd ?_ | refine ql ?_ | skip))
   | with_reducible first | refine And.intro ?_ ?_ | intro _
  all_goals try exact clz
  exact zo ⟨qc6 rfl (fun i hi => by have e0 : i = 0 := (by have : i < 1 := hi; omega); subst e0; rfl), VLe.refl _, trivial⟩
 rw [if_pos g]
 rw [g] at qbT
 have hs : qaF ps w = 0 := by unfold qaF; rw [if_pos hc, if_pos g]
 rw [hs] at qly
 unfold zb at hcut ⊢
 obtain ⟨L, hL⟩ : ∃ L, L = jN ps w := ⟨_, rfl⟩
 rw [← hL] at qly hcut hpl ⊢
 by_cases h0 : L = []
 ·obtain ⟨L', hLL⟩ : ∃ L', L' = L ++ [(w.length : Int)] := ⟨_, rfl⟩
  rw [← hLL] at hcut ⊢
  rw [h0] at hLL
  have hcs : [AV.int .i64 (w.length : Int)] = q9 L' := by rw [hLL]; rfl
  have hln : L'.length = 1 := by rw [hLL]; rfl
  rw [h0, qfL] at qly
  refine qo qs5 (by simp) ?_
  simp only [lcP, lnP, Nat.reduceAdd, Nat.reduceSub, List.replicate, caP, naP, List.append_nil]
  simp (disch := omega) only [qfc, qE, go_sem, qc, dvP, mdP]
  repeat' first
   | ((first | refine qj (qbT _) ?_ ?_ | refine qj (qly _) ?_ ?_ | refine qj (qyU _) ?_ ?_); (next => exact flk); simp (disch := omega) only [qE, go_sem, qc, dvP, mdP])
   | ((first | refine qn (fun _ => qbT _) ?_ ?_ | refine qn (fun _ => qly _) ?_ ?_ | refine qn (fun _ => qyU _) ?_ ?_); (next => exact flk); simp (disch := omega) only [qE, go_sem, qc, dvP, mdP])
   | ((first | refine qk (fun e => ⟨?_, qbT _⟩) ?_ | refine qk (fun e => ⟨?_, qly _⟩) ?_ | refine qk (fun e => ⟨?_, qyU _⟩) ?_); (next => exact flk); simp (disch := omega) only [qE, go_sem, qc, dvP, mdP])
   | ((first | refine qe ?_ ?_ | refine qg ?_ ?_); (next => exact rvk); simp only [go_sem]; (first | exact VLe.refl _ | refine qh ?_ | refine qd ?_ | refine ql ?_ | skip))
   | with_reducible first | refine And.intro ?_ ?_ | intro _
  all_goals try exact clz
  rw [hcs]
  have hcl := zy L'
  refine qJ (T := fun j : Nat × Nat × AObj => qv 47 [(1, .str w), (8, .osl (h.length + 2) j.2.1 1 0 j.1), (9, .int .i64 (jq L' j.1)), (31, .osl (h.length + 4) 1 1 0 1), (32, .int .i64 L'.length), (33, .int .i64 j.1)])
   (H := fun j => h ++ [.emp 1, .emp 0, kC j.2.1 9 (jh (zt w L' j.1)), .mem 1 3 (q9 L'), .mem 1 3 (q9 L'), j.2.2, .emp 0, .emp 0])
   (inv := fun j => j.1 ≤ L'.length ∧ zf [j.2.2] 0 = true) (m := fun j => L'.length - j.1) (0, 1, .emp 0) ⟨by simp, rfl⟩ (Wk.temps ?_) ?_
  ·simp only [qah]
   (simp only [qv, List.foldl, List.replicate, go_sem, qr, qp, qm, qq]; try (repeat' first | (with_reducible refine And.intro ?_ ?_) | (refine qh ?_; omega) | (refine qd ?_; rfl) | exact VLe.refl _))
  rintro ⟨j, v, O⟩ ⟨j1, j2⟩ K hK
  simp only at j1 j2 hK
  have j2' : ∀ m, zf (O :: m) 0 = true := fun _ => j2
  have el := zJ (zt w L' j)
  rw [jv] at el
  have f1 : List.take j (jh (zt w L' j)) = jh (zt w L' j) := List.take_of_length_le (by omega)
  by_cases hj : j < L'.length
  ·obtain ⟨q1, q2, q3⟩ := hcut j hj
   have hg := qbA hj
   have hp := qaC w L' j
   have hpr := qag L' j
   simp (disch := omega) only [qv, List.foldl, List.replicate, qE, el, f1, hg, hcl, j2', go_sem, qc, dvP, mdP]
   repeat' first
    | ((first | refine qe ?_ ?_ | refine qg ?_ ?_); (next => exact rvk); simp only [go_sem]; (first | exact VLe.refl _ | refine qh ?_ | refine qd ?_ | refine ql ?_ | skip))
    | with_reducible first | refine And.intro ?_ ?_ | intro _
   all_goals try exact clz
   rw [qdG, show List.take ((L'.getD j 0).toNat - (jq L' j).toNat) (List.drop (jq L' j).toNat w) = kQ w L' j from rfl, ← hp, ← hpr]
   refine hK _ _ (j + 1, v + 1, .mem (qA (some O) + 1) 9 [.str (kQ w L' j)]) ⟨by simp only; omega, rfl⟩ (by simp only; omega) (Wk.temps ?_)
   (simp only [qv, List.foldl, List.replicate, go_sem, qr, qp, qm, qq]; try (repeat' first | (with_reducible refine And.intro ?_ ?_) | (refine qh ?_; omega) | (refine qd ?_; rfl) | exact VLe.refl _))
  ·have e : j = L'.length := by omega
   subst e
   have hsl := @qes v 5 (zt w L' L'.length) (fun k => decide (h.length ≤ k)) (h ++ [.emp 1, .emp 0, kC v 9 (jh (zt w L' L'.length)), .mem 1 3 (q9 L'), .mem 1 3 (q9 L'), O, .emp 0, .emp 0])
   rw [jv] at hsl
   simp (disch := omega) only [qv, List.foldl, List.replicate, qE, hcl, go_sem, qc, dvP, mdP]
   repeat' first
    | ((first | refine qe ?_ ?_ | refine qg ?_ ?_); (next => exact rvk); simp only [go_sem]; (first | exact VLe.refl _ | refine qh ?_ | refine qd ?_ | refine ql ?_ | skip))
    | with_reducible first | refine And.intro ?_ ?_ | intro _
   all_goals try exact clz
   exact zo ⟨hsl, VLe.refl _, trivial⟩
 ·have c66z' : ∀ h : List AObj, qs Tryz.prog 66 [qw ps, .str w] h (.tup [qy L, .int .i64 0]) h := fun h => by
   have := qly h
   unfold jM at this
   rwa [if_neg h0] at this
  have hl0 : L.length ≠ 0 := fun e => h0 (List.eq_nil_of_length_eq_zero e)
  have el0 := zy L
  have et0 : List.take L.length (q9 L) = q9 L := List.take_of_length_le (by omega)
  obtain ⟨L', hLL⟩ : ∃ L', L' = L ++ [(w.length : Int)] := ⟨_, rfl⟩
  have hcs : q9 L ++ [AV.int .i64 (w.length : Int)] = q9 L' := by rw [hLL, qaN]
  have hln : L.length + 1 = L'.length := by rw [hLL]; simp
  rw [← hLL] at hcut ⊢
  refine qo qs5 (by simp) ?_
  simp only [lcP, lnP, Nat.reduceAdd, Nat.reduceSub, List.replicate, caP, naP, List.append_nil]
  simp (disch := omega) only [qfc, qE, go_sem, qc, dvP, mdP]
  repeat' first
   | ((first | refine qj (qbT _) ?_ ?_ | refine qj (c66z' _) ?_ ?_); (next => exact flk); simp (disch := omega) only [qE, go_sem, qc, dvP, mdP])
   | ((first | refine qn (fun _ => qbT _) ?_ ?_ | refine qn (fun _ => c66z' _) ?_ ?_); (next => exact flk); simp (disch := omega) only [qE, go_sem, qc, dvP, mdP])
   | ((first | refine qk (fun e => ⟨?_, qbT _⟩) ?_ | refine qk (fun e => ⟨?_, c66z' _⟩) ?_); (next => exact flk); simp (disch := omega) only [qE, go_sem, qc, dvP, mdP])
   | ((first | refine qe ?_ ?_ | refine qg ?_ ?_); (next => exact rvk); simp only [go_sem]; (first | exact VLe.refl _ | refine qh ?_ | refine qd ?_ | refine ql ?_ | skip))
   | with_reducible first | refine And.intro ?_ ?_ | intro _
  all_goals try exact clz
  refine qX (t90 L _ (h.length + 7) (by simp only [go_sem]) hl0 (by omega)) ⟨rfl, trivial⟩ ?_
  simp (disch := omega) only [qE, el0, et0, hcs, hln, go_sem, qc, dvP, mdP]
  repeat' first
   | ((first | refine qe ?_ ?_ | refine qg ?_ ?_); (next => exact rvk); simp only [go_sem]; (first | exact VLe.refl _ | refine qh ?_ | refine qd ?_ | refine ql ?_ | skip))
   | with_reducible first | refine And.intro ?_ ?_ | intro _
  all_goals try exact clz
  have hcl := zy L'
  refine qJ (T := fun j : Nat × Nat × AObj => qv 47 [(1, .str w), (8, .osl (h.length + 2) j.2.1 1 0 j.1), (9, .int .i64 (jq L' j.1)), (31, .osl (h.length + 7) 2 1 0 L'.length), (32, .int .i64 L'.length), (33, .int .i64 j.1)])
   (H := fun j => h ++ [.emp 1, .emp 0, kC j.2.1 9 (jh (zt w L' j.1)), .mem 1 3 [.int .i64 w.length], .emp 0, j.2.2, .emp 0, .mem 2 3 (q9 L')])
   (inv := fun j => j.1 ≤ L'.length ∧ zf [j.2.2] 0 = true) (m := fun j => L'.length - j.1) (0, 1, .emp 0) ⟨by simp, rfl⟩ (Wk.temps ?_) ?_
  ·simp only [qah]
   (simp only [qv, List.foldl, List.replicate, go_sem, qr, qp, qm, qq]; try (repeat' first | (with_reducible refine And.intro ?_ ?_) | (refine qh ?_; omega) | (refine qd ?_; rfl) | exact VLe.refl _))
  rintro ⟨j, v, O⟩ ⟨j1, j2⟩ K hK
  simp only at j1 j2 hK
  have j2' : ∀ m, zf (O :: m) 0 = true := fun _ => j2
  have el := zJ (zt w L' j)
  rw [jv] at el
  have f1 : List.take j (jh (zt w L' j)) = jh (zt w L' j) := List.take_of_length_le (by omega)
  by_cases hj : j < L'.length
  ·obtain ⟨q1, q2, q3⟩ := hcut j hj
   have hg := qbA hj
   have hp := qaC w L' j
   have hpr := qag L' j
   simp (disch := omega) only [qv, List.foldl, List.replicate, qE, el, f1, hg, hcl, j2', go_sem, qc, dvP, mdP]
   repeat' first
    | ((first | refine qe ?_ ?_ | refine qg ?_ ?_); (next => exact rvk); simp only [go_sem]; (first | exact VLe.refl _ | refine qh ?_ | refine qd ?_ | refine ql ?_ | skip))
    | with_reducible first | refine And.intro ?_ ?_ | intro _
   all_goals try exact clz
   rw [qdG, show List.take ((L'.getD j 0).toNat - (jq L' j).toNat) (List.drop (jq L' j).toNat w) = kQ w L' j from rfl, ← hp, ← hpr]
   refine hK _ _ (j + 1, v + 1, .mem (qA (some O) + 1) 9 [.str (kQ w L' j)]) ⟨by simp only; omega, rfl⟩ (by simp only; omega) (Wk.temps ?_)
   (simp only [qv, List.foldl, List.replicate, go_sem, qr, qp, qm, qq]; try (repeat' first | (with_reducible refine And.intro ?_ ?_) | (refine qh ?_; omega) | (refine qd ?_; rfl) | exact VLe.refl _))
  ·have e : j = L'.length := by omega
   subst e
   have hsl := @qes v 5 (zt w L' L'.length) (fun k => decide (h.length ≤ k)) (h ++ [.emp 1, .emp 0, kC v 9 (jh (zt w L' L'.length)), .mem 1 3 [.int .i64 w.length], .emp 0, O, .emp 0, .mem 2 3 (q9 L')])
   rw [jv] at hsl
   simp (disch := omega) only [qv, List.foldl, List.replicate, qE, hcl, go_sem, qc, dvP, mdP]
   repeat' first
    | ((first | refine qe ?_ ?_ | refine qg ?_ ?_); (next => exact rvk); simp only [go_sem]; (first | exact VLe.refl _ | refine qh ?_ | refine qd ?_ | refine ql ?_ | skip))
    | with_reducible first | refine And.intro ?_ ?_ | intro _
   all_goals try exact clz
   exact zo ⟨hsl, VLe.refl _, trivial⟩
end HY
end
section
open Go Go.Proofs AF HY
namespace HY
set_option maxRecDepth 100000
end HY
end
section
open Go Go.Proofs AF HY P48
namespace HY
set_option maxRecDepth 100000
structure Wd where
 text : List UInt8
 col : Int
 unit : Int
 dec : Int
 joined : Bool
 verse : Bool
 name : List UInt8
 deriving DecidableEq, Inhabited
def qY (w : Wd) : List AV := [.str w.text, .int .i64 w.col, .int .i64 w.unit, .int .i64 w.dec, .bool w.joined, .bool w.verse, .str w.name]
def qt (ws : List Wd) : AV := .sl ws.length fun i => qY (ws.getD i default)
theorem ql2 {ws : List Wd} {i : Nat} (h : i < ws.length) : ws.drop i = ws.getD i default :: ws.drop (i + 1) := by
 rw [List.drop_eq_getElem_cons h]; simp [List.getD_eq_getElem?_getD, h]
def kL {α : Type} (p : α → Bool) : List α → Nat → Int
 | [], _ => -1
 | c :: r, i => if p c = true then i else kL p r (i + 1)
theorem qme {α : Type} (p : α → Bool) : ∀ (s : List α) (i : Nat), (0 ≤ kL p s i ↔ s.any p = true) ∧ -1 ≤ kL p s i := by
 intro s
 induction s with
 | nil => intro i; simp [kL]
 | cons c r ih =>
  intro i
  by_cases hc : p c = true
  ·have e : kL p (c :: r) i = i := if_pos hc
   rw [e, List.any_cons, hc]
   simp
   try omega
  ·have e : kL p (c :: r) i = kL p r (i + 1) := if_neg hc
   rw [e, List.any_cons]
   have hc' : p c = false := by simpa using hc
   rw [hc', Bool.false_or]
   exact ih (i + 1)
theorem qdj {α : Type} (p : α → Bool) (s : List α) (i : Nat) : decide (0 ≤ kL p s i) = s.any p := by
 rw [Bool.eq_iff_iff, decide_eq_true_eq]; exact (qme p s i).1
theorem t85 (s : List Wd) (p : Wd → Bool) (F : Nat) (h : List AObj) (hs : s.length ≤ 1000000000) (hp : ∀ (c : Wd) (h : List AObj), qs Tryz.prog F [.agg (qY c)] h (.bool (p c)) h) : qs Tryz.prog 24 [qt s, .fn (.func F) [] []] h (.int .i64 (kL p s 0)) h := by
 refine qo qvW (by simp) ?_
 simp only [lcP, lnP, Nat.reduceAdd, Nat.reduceSub, List.replicate, caP, naP, List.append_nil]
 simp (disch := omega) only [qxI, qt, go_sem, qc, dvP, mdP]
 repeat' first
  | ((first | refine qe ?_ ?_ | refine qg ?_ ?_); (next => exact rvk); simp only [go_sem]; (first | exact VLe.refl _ | refine qh ?_ | refine qd ?_ | refine ql ?_ | skip))
  | with_reducible first | refine And.intro ?_ ?_ | intro _
 all_goals try exact clz
 refine qJ (T := fun i : Nat => qv 19 [(0, qt s), (1, .fn (.func F) [] []), (6, qt s), (7, .int .i64 s.length), (8, .int .i64 i)]) (H := fun _ => h) (inv := fun i => i ≤ s.length ∧ kL p s 0 = kL p (s.drop i) i) (m := fun i => s.length - i) 0 ⟨by omega, by simp⟩ (Wk.temps ?_) ?_
 ·(simp only [qt, qv, List.foldl, List.replicate, go_sem, qr, qp, qm, qq]; try (repeat' first | (with_reducible refine And.intro ?_ ?_) | (refine qh ?_; omega) | (refine qd ?_; rfl) | exact VLe.refl _))
 ·rintro i ⟨i1, i2⟩ K hK
  rw [i2]
  by_cases hi : i < s.length
  ·rw [ql2 hi] at i2 ⊢
   simp only [kL] at i2 ⊢
   have hpc := fun h => hp (s.getD i default) h
   cases hb : p (s.getD i default) with
   | true =>
    rw [hb] at hpc
    simp (disch := omega) only [qv, List.foldl, List.replicate, qt, qY, go_sem, qc, dvP, mdP]
    repeat' first
     | (refine zH (hpc _) ?_; simp (disch := omega) only [qt, qY, go_sem, qc, dvP, mdP])
     | ((first | refine qe ?_ ?_ | refine qg ?_ ?_); (next => exact rvk); simp only [go_sem]; (first | exact VLe.refl _ | refine qh ?_ | refine qd ?_ | refine ql ?_ | skip))
     | with_reducible first | refine And.intro ?_ ?_ | intro _
    all_goals try exact clz
   | false =>
    rw [hb] at hpc i2
    simp (disch := omega) only [qv, List.foldl, List.replicate, qt, qY, go_sem, qc, dvP, mdP]
    repeat' first
     | (refine zH (hpc _) ?_; simp (disch := omega) only [qt, qY, go_sem, qc, dvP, mdP])
     | ((first | refine qe ?_ ?_ | refine qg ?_ ?_); (next => exact rvk); simp only [go_sem]; (first | exact VLe.refl _ | refine qh ?_ | refine qd ?_ | refine ql ?_ | skip))
     | with_reducible first | refine And.intro ?_ ?_ | intro _
    all_goals try exact clz
    refine hK _ _ (i + 1) ⟨by omega, by rw [i2]; simp⟩ (by omega) (Wk.temps ?_)
    (simp only [qt, qY, qv, List.foldl, List.replicate, go_sem, qr, qp, qm, qq]; try (repeat' first | (with_reducible refine And.intro ?_ ?_) | (refine qh ?_; omega) | (refine qd ?_; rfl) | exact VLe.refl _))
  ·have e : i = s.length := by omega
   subst e
   rw [List.drop_length]
   simp (disch := omega) only [qv, List.foldl, List.replicate, qt, go_sem, qc, dvP, mdP]
   repeat' first
    | ((first | refine qe ?_ ?_ | refine qg ?_ ?_); (next => exact rvk); simp only [go_sem]; (first | exact VLe.refl _ | refine qh ?_ | refine qd ?_ | refine ql ?_ | skip))
    | with_reducible first | refine And.intro ?_ ?_ | intro _
   all_goals try exact clz
theorem t59 (s : List Wd) (p : Wd → Bool) (F : Nat) (h : List AObj) (hs : s.length ≤ 1000000000) (hp : ∀ (c : Wd) (h : List AObj), qs Tryz.prog F [.agg (qY c)] h (.bool (p c)) h) : qs Tryz.prog 7 [qt s, .fn (.func F) [] []] h (.bool (s.any p)) h := by
 rw [← qdj p s 0]
 refine qo qzP (by simp) ?_
 simp only [lcP, lnP, Nat.reduceAdd, Nat.reduceSub, List.replicate, caP, naP, List.append_nil]
 simp (disch := omega) only [c7z, qt, go_sem, qc, dvP, mdP]
 repeat' first
  | ((first | refine qj (t85 s p F _ hs hp) ?_ ?_); (next => exact flk); simp (disch := omega) only [qt, go_sem, qc, dvP, mdP])
  | ((first | refine qk (fun e => ⟨?_, t85 s p F _ hs hp⟩) ?_); (next => exact flk); simp (disch := omega) only [qt, go_sem, qc, dvP, mdP])
  | ((first | refine qe ?_ ?_ | refine qg ?_ ?_); (next => exact rvk); simp only [go_sem]; (first | exact VLe.refl _ | refine qh ?_ | refine qd ?_ | refine ql ?_ | skip))
  | with_reducible first | refine And.intro ?_ ?_ | intro _
 all_goals try exact clz
theorem t86 (s : List Pat) (p : Pat → Bool) (F : Nat) (h : List AObj) (hs : s.length ≤ 1000000000) (hp : ∀ (i : Nat) (h : List AObj), i < s.length → qs Tryz.prog F [.agg (qbo (s.getD i default))] h (.bool (p (s.getD i default))) h) : qs Tryz.prog 58 [qw s, .fn (.func F) [] []] h (.int .i64 (kL p s 0)) h := by
 refine qo qyk (by simp) ?_
 simp only [lcP, lnP, Nat.reduceAdd, Nat.reduceSub, List.replicate, caP, naP, List.append_nil]
 simp (disch := omega) only [qzx, qw, go_sem, qc, dvP, mdP]
 repeat' first
  | ((first | refine qe ?_ ?_ | refine qg ?_ ?_); (next => exact rvk); simp only [go_sem]; (first | exact VLe.refl _ | refine qh ?_ | refine qd ?_ | refine ql ?_ | skip))
  | with_reducible first | refine And.intro ?_ ?_ | intro _
 all_goals try exact clz
 refine qJ (T := fun i : Nat => qv 19 [(0, qw s), (1, .fn (.func F) [] []), (6, qw s), (7, .int .i64 s.length), (8, .int .i64 i)]) (H := fun _ => h) (inv := fun i => i ≤ s.length ∧ kL p s 0 = kL p (s.drop i) i) (m := fun i => s.length - i) 0 ⟨by omega, by simp⟩ (Wk.temps ?_) ?_
 ·(simp only [qw, qv, List.foldl, List.replicate, go_sem, qr, qp, qm, qq]; try (repeat' first | (with_reducible refine And.intro ?_ ?_) | (refine qh ?_; omega) | (refine qd ?_; rfl) | exact VLe.refl _))
 ·rintro i ⟨i1, i2⟩ K hK
  rw [i2]
  by_cases hi : i < s.length
  ·rw [qeC hi] at i2 ⊢
   simp only [kL] at i2 ⊢
   have hpc := fun h => hp i h hi
   cases hb : p (s.getD i default) with
   | true =>
    rw [hb] at hpc
    simp (disch := omega) only [qv, List.foldl, List.replicate, qw, qbo, go_sem, qc, dvP, mdP]
    repeat' first
     | (refine zH (hpc _) ?_; simp (disch := omega) only [qw, qbo, go_sem, qc, dvP, mdP])
     | ((first | refine qe ?_ ?_ | refine qg ?_ ?_); (next => exact rvk); simp only [go_sem]; (first | exact VLe.refl _ | refine qh ?_ | refine qd ?_ | refine ql ?_ | skip))
     | with_reducible first | refine And.intro ?_ ?_ | intro _
    all_goals try exact clz
   | false =>
    rw [hb] at hpc i2
    simp (disch := omega) only [qv, List.foldl, List.replicate, qw, qbo, go_sem, qc, dvP, mdP]
    repeat' first
     | (refine zH (hpc _) ?_; simp (disch := omega) only [qw, qbo, go_sem, qc, dvP, mdP])
     | ((first | refine qe ?_ ?_ | refine qg ?_ ?_); (next => exact rvk); simp only [go_sem]; (first | exact VLe.refl _ | refine qh ?_ | refine qd ?_ | refine ql ?_ | skip))
     | with_reducible first | refine And.intro ?_ ?_ | intro _
    all_goals try exact clz
    refine hK _ _ (i + 1) ⟨by omega, by rw [i2]; simp⟩ (by omega) (Wk.temps ?_)
    (simp only [qw, qbo, qv, List.foldl, List.replicate, go_sem, qr, qp, qm, qq]; try (repeat' first | (with_reducible refine And.intro ?_ ?_) | (refine qh ?_; omega) | (refine qd ?_; rfl) | exact VLe.refl _))
  ·have e : i = s.length := by omega
   subst e
   rw [List.drop_length]
   simp (disch := omega) only [qv, List.foldl, List.replicate, qw, go_sem, qc, dvP, mdP]
   repeat' first
    | ((first | refine qe ?_ ?_ | refine qg ?_ ?_); (next => exact rvk); simp only [go_sem]; (first | exact VLe.refl _ | refine qh ?_ | refine qd ?_ | refine ql ?_ | skip))
    | with_reducible first | refine And.intro ?_ ?_ | intro _
   all_goals try exact clz
theorem t61 (s : List Pat) (p : Pat → Bool) (F : Nat) (h : List AObj) (hs : s.length ≤ 1000000000) (hp : ∀ (i : Nat) (h : List AObj), i < s.length → qs Tryz.prog F [.agg (qbo (s.getD i default))] h (.bool (p (s.getD i default))) h) : qs Tryz.prog 22 [qw s, .fn (.func F) [] []] h (.bool (s.any p)) h := by
 rw [← qdj p s 0]
 refine qo qx4 (by simp) ?_
 simp only [lcP, lnP, Nat.reduceAdd, Nat.reduceSub, List.replicate, caP, naP, List.append_nil]
 simp (disch := omega) only [qut, qw, go_sem, qc, dvP, mdP]
 repeat' first
  | ((first | refine qj (t86 s p F _ hs hp) ?_ ?_); (next => exact flk); simp (disch := omega) only [qw, go_sem, qc, dvP, mdP])
  | ((first | refine qk (fun e => ⟨?_, t86 s p F _ hs hp⟩) ?_); (next => exact flk); simp (disch := omega) only [qw, go_sem, qc, dvP, mdP])
  | ((first | refine qe ?_ ?_ | refine qg ?_ ?_); (next => exact rvk); simp only [go_sem]; (first | exact VLe.refl _ | refine qh ?_ | refine qd ?_ | refine ql ?_ | skip))
  | with_reducible first | refine And.intro ?_ ?_ | intro _
 all_goals try exact clz
def qbp (w : Wd) : Bool := decide (w.text = []) || decide (64 < w.text.length)
def qiz (w : Wd) : Bool := (decide (10 < w.text.length) && decide (w.text.length ≤ 64)) || decide (67 < w.text.length)
def qfk (p : Pat) : Bool := decide (12 < p.letters.length) || decide (14 < p.levels.length)
theorem t65 (w : Wd) (h : List AObj) : qs Tryz.prog 37 [.agg (qY w)] h (.bool (qbp w)) h := by
 unfold qbp
 by_cases g : w.text = []
 ·have k : (w.text = []) = True := eq_true g
  refine qo qvZ (by simp) ?_
  simp only [lcP, lnP, Nat.reduceAdd, Nat.reduceSub, List.replicate, caP, naP, List.append_nil]
  simp (disch := omega) only [qxK, qY, k, go_sem, qc, dvP, mdP]
  repeat' first
   | ((first | refine qe ?_ ?_ | refine qg ?_ ?_); (next => exact rvk); simp only [go_sem]; (first | exact VLe.refl _ | refine qh ?_ | refine qd ?_ | refine ql ?_ | skip))
   | with_reducible first | refine And.intro ?_ ?_ | intro _
  all_goals try exact clz
  all_goals (rw [Bool.eq_iff_iff]; simp only [Bool.or_eq_true, Bool.and_eq_true, decide_eq_true_eq]; omega)
 ·have k : (w.text = []) = False := eq_false g
  refine qo qvZ (by simp) ?_
  simp only [lcP, lnP, Nat.reduceAdd, Nat.reduceSub, List.replicate, caP, naP, List.append_nil]
  simp (disch := omega) only [qxK, qY, k, go_sem, qc, dvP, mdP]
  repeat' first
   | ((first | refine qe ?_ ?_ | refine qg ?_ ?_); (next => exact rvk); simp only [go_sem]; (first | exact VLe.refl _ | refine qh ?_ | refine qd ?_ | refine ql ?_ | skip))
   | with_reducible first | refine And.intro ?_ ?_ | intro _
  all_goals try exact clz
  all_goals (rw [Bool.eq_iff_iff]; simp only [Bool.or_eq_true, Bool.and_eq_true, decide_eq_true_eq]; omega)
theorem t60 (w : Wd) (h : List AObj) : qs Tryz.prog 21 [.agg (qY w)] h (.bool (qiz w)) h := by
 unfold qiz
 refine qo qx3 (by simp) ?_
 simp only [lcP, lnP, Nat.reduceAdd, Nat.reduceSub, List.replicate, caP, naP, List.append_nil]
 simp (disch := omega) only [qzi, qY, go_sem, qc, dvP, mdP]
 repeat' first
  | ((first | refine qe ?_ ?_ | refine qg ?_ ?_); (next => exact rvk); simp only [go_sem]; (first | exact VLe.refl _ | refine qh ?_ | refine qd ?_ | refine ql ?_ | skip))
  | with_reducible first | refine And.intro ?_ ?_ | intro _
 all_goals try exact clz
 all_goals (rw [Bool.eq_iff_iff]; simp only [Bool.or_eq_true, Bool.and_eq_true, decide_eq_true_eq]; omega)
theorem t62 (p : Pat) (h : List AObj) : qs Tryz.prog 23 [.agg (qbo p)] h (.bool (qfk p)) h := by
 unfold qfk
 refine qo qx5 (by simp) ?_
 simp only [lcP, lnP, Nat.reduceAdd, Nat.reduceSub, List.replicate, caP, naP, List.append_nil]
 simp (disch := omega) only [qzj, qbo, qy, go_sem, qc, dvP, mdP]
 repeat' first
  | ((first | refine qe ?_ ?_ | refine qg ?_ ?_); (next => exact rvk); simp only [go_sem]; (first | exact VLe.refl _ | refine qh ?_ | refine qd ?_ | refine ql ?_ | skip))
  | with_reducible first | refine And.intro ?_ ?_ | intro _
 all_goals try exact clz
 all_goals (rw [Bool.eq_iff_iff]; simp only [Bool.or_eq_true, Bool.and_eq_true, decide_eq_true_eq]; omega)
end HY
end
section
open Go Go.Proofs AF HY P48
namespace HY
set_option maxRecDepth 100000
structure Sty where
 sp : Int
 st : Int
 sh : Int
 le : Int
 hy : Int
 deriving DecidableEq, Inhabited
def za (s : Sty) (x : List AV) : List AV := [x.getD 0 .undef, x.getD 1 .undef, x.getD 2 .undef, x.getD 3 .undef, x.getD 4 .undef, .int .i64 s.sp, .int .i64 s.st, .int .i64 s.sh, .int .i64 s.le, .int .i64 s.hy, x.getD 5 .undef, x.getD 6 .undef, x.getD 7 .undef]
def qfE (ps : List Pat) (ws : List Wd) : Bool := decide (5 < ps.length) || (decide (6 < ws.length) || (ws.any qiz || ps.any qfk))
theorem t31 (s : Sty) (x : List AV) (ps : List Pat) (ws : List Wd) (h : List AObj) (hps : ps.length ≤ 9223372036854775807) (hws : ws.length ≤ 9223372036854775807) :
  qs Tryz.prog 6 [.agg (za s x ++ [qw ps, qt ws])] h (.bool (qfE ps ws)) h := by
 unfold qfE
 by_cases g1 : 5 < ps.length
 ·have k1 : (5 < (ps.length : Int)) = True := eq_true (by omega)
  rw [decide_eq_true g1, Bool.true_or]
  refine qo qym (by simp) ?_
  simp only [lcP, lnP, Nat.reduceAdd, Nat.reduceSub, List.replicate, caP, naP, List.append_nil]
  simp (disch := omega) only [c6z, za, qw, qt, k1, go_sem, qc, dvP, mdP]
  repeat' first
   | (refine qP ((.bool false)) ?_; simp (disch := omega) only [za, qw, qt, k1, go_sem, qc, dvP, mdP])
   | (refine qP ((.bool false)) ?_; simp (disch := omega) only [za, qw, qt, k1, go_sem, qc, dvP, mdP])
   | ((first | refine qe ?_ ?_ | refine qg ?_ ?_); (next => exact rvk); simp only [go_sem]; (first | exact VLe.refl _ | refine qh ?_ | refine qd ?_ | refine ql ?_ | skip))
   | with_reducible first | refine And.intro ?_ ?_ | intro _
  all_goals try exact clz
  all_goals trace_state
 ·have k1 : (5 < (ps.length : Int)) = False := eq_false (by omega)
  rw [decide_eq_false g1, Bool.false_or]
  by_cases g2 : 6 < ws.length
  ·have k2 : (6 < (ws.length : Int)) = True := eq_true (by omega)
   rw [decide_eq_true g2, Bool.true_or]
   refine qo qym (by simp) ?_
   simp only [lcP, lnP, Nat.reduceAdd, Nat.reduceSub, List.replicate, caP, naP, List.append_nil]
   simp (disch := omega) only [c6z, za, qw, qt, k1, k2, go_sem, qc, dvP, mdP]
   repeat' first
    | (refine qP ((.bool false)) ?_; simp (disch := omega) only [za, qw, qt, k1, k2, go_sem, qc, dvP, mdP])
    | (refine qP ((.bool false)) ?_; simp (disch := omega) only [za, qw, qt, k1, k2, go_sem, qc, dvP, mdP])
    | ((first | refine qe ?_ ?_ | refine qg ?_ ?_); (next => exact rvk); simp only [go_sem]; (first | exact VLe.refl _ | refine qh ?_ | refine qd ?_ | refine ql ?_ | skip))
    | with_reducible first | refine And.intro ?_ ?_ | intro _
   all_goals try exact clz
   all_goals trace_state
  ·have k2 : (6 < (ws.length : Int)) = False := eq_false (by omega)
   rw [decide_eq_false g2, Bool.false_or]
   have c7z := fun h => t59 ws qiz 21 h (by omega) t60
   have qut := fun h => t61 ps qfk 23 h (by omega) (fun i h _ => t62 _ h)
   refine qo qym (by simp) ?_
   simp only [lcP, lnP, Nat.reduceAdd, Nat.reduceSub, List.replicate, caP, naP, List.append_nil]
   simp (disch := omega) only [c6z, za, qw, qt, k1, k2, go_sem, qc, dvP, mdP]
   repeat' first
    | ((first | refine qj (c7z _) ?_ ?_ | refine qj (qut _) ?_ ?_); (next => exact flk); simp (disch := omega) only [za, qw, qt, k1, k2, go_sem, qc, dvP, mdP])
    | ((first | refine qn (fun _ => c7z _) ?_ ?_ | refine qn (fun _ => qut _) ?_ ?_); (next => exact flk); simp (disch := omega) only [za, qw, qt, k1, k2, go_sem, qc, dvP, mdP])
    | ((first | refine qk (fun e => ⟨?_, c7z _⟩) ?_ | refine qk (fun e => ⟨?_, qut _⟩) ?_); (next => exact flk); simp (disch := omega) only [za, qw, qt, k1, k2, go_sem, qc, dvP, mdP])
    | ((first | refine qe ?_ ?_ | refine qg ?_ ?_); (next => exact rvk); simp only [go_sem]; (first | exact VLe.refl _ | refine qh ?_ | refine qd ?_ | refine ql ?_ | skip))
    | with_reducible first | refine And.intro ?_ ?_ | intro _
   all_goals try exact clz
   all_goals trace_state
end HY
end
section
open Go Go.Proofs AF HY P48
namespace HY
set_option maxRecDepth 100000
def qcf (s : Sty) (i : Nat) (w : Wd) : List It := if i = 0 then [] else if w.verse = true then [⟨3, 0, 0, 0, -10000, []⟩] else if w.joined = true then [] else [⟨2, s.sp, s.st, s.sh, 0, []⟩]
def jI (s : Sty) (k : Nat) (u : List UInt8) : List It := (if k = 0 then [] else [⟨3, s.le, 0, 0, s.hy, [61]⟩]) ++ [⟨1, s.le * ((qV u).length : Int), 0, 0, 0, u⟩]
def qR (s : Sty) (l : List (List UInt8)) (k : Nat) : List It := ((List.range k).map fun i => jI s i (l.getD i [])).flatten
def qcn (s : Sty) (ps : List Pat) (i : Nat) (w : Wd) : List It := qcf s i w ++ qR s (zm ps w.text) (zm ps w.text).length
def zi (s : Sty) (ps : List Pat) (ws : List Wd) (n : Nat) : List It := ((List.range n).map fun i => qcn s ps i (ws.getD i default)).flatten
def kk (s : Sty) : Bool := qbb s.le && (qbb s.sp && (qbb s.st && (qbb s.sh && (decide (0 ≤ s.hy) && decide (s.hy ≤ 10000)))))
def jd (s : Sty) (ps : List Pat) (ws : List Wd) : Int :=
 if kk s = false then 2 else if jm ps ≠ 0 ∨ ws.any qbp = true then 1 else if 4096 < ws.length then 4 else if jk (zi s ps ws ws.length) ≠ 0 then 4 else 0
def qao (s : Sty) (ps : List Pat) (ws : List Wd) : List It := if jd s ps ws = 0 then zi s ps ws ws.length else []
theorem zr (s : Sty) (l : List (List UInt8)) : qR s l 0 = [] := rfl
theorem qhM (s : Sty) (ps : List Pat) (ws : List Wd) : zi s ps ws 0 = [] := rfl
theorem zh (s : Sty) (l : List (List UInt8)) (k : Nat) : qR s l (k + 1) = qR s l k ++ jI s k (l.getD k []) := by unfold qR; rw [List.range_succ, List.map_append, List.flatten_append]; simp
theorem zL (s : Sty) (ps : List Pat) (ws : List Wd) (n : Nat) : zi s ps ws (n + 1) = zi s ps ws n ++ qcn s ps n (ws.getD n default) := by unfold zi; rw [List.range_succ, List.map_append, List.flatten_append]; simp
theorem qaW (s : Sty) (i : Nat) (w : Wd) : (qcf s i w).length ≤ 1 := by unfold qcf; split <;> (try split) <;> (try split) <;> simp
theorem qnm (s : Sty) (k : Nat) (u : List UInt8) : (jI s k u).length ≤ 2 := by unfold jI; split <;> simp
theorem kc (s : Sty) (l : List (List UInt8)) (k : Nat) : (qR s l k).length ≤ 2 * k := by
 induction k with
 | zero => simp [qR]
 | succ k ih => rw [zh, List.length_append]; have := qnm s k (l.getD k []); omega
theorem qb7 (ps : List Pat) (w : List UInt8) : (zm ps w).length ≤ w.length + 1 := by
 unfold zm
 split
 ·rw [jv]; unfold zb; rw [List.length_append]; have := qdD ps w; simp; omega
 ·simp
theorem qoW (s : Sty) (ps : List Pat) (i : Nat) (w : Wd) (h : w.text.length ≤ 64) : (qcn s ps i w).length ≤ 200 := by
 unfold qcn
 rw [List.length_append]
 have := qaW s i w
 have := kc s (zm ps w.text) (zm ps w.text).length
 have := qb7 ps w.text
 omega
theorem qks (s : Sty) (ps : List Pat) (ws : List Wd) (hb : ∀ i, i < ws.length → (ws.getD i default).text.length ≤ 64) (n : Nat) (hn : n ≤ ws.length) : (zi s ps ws n).length ≤ 200 * n := by
 induction n with
 | zero => simp [zi]
 | succ n ih =>
  rw [zL, List.length_append]
  have := qoW s ps n (ws.getD n default) (hb n (by omega))
  have := ih (by omega)
  omega
end HY
end

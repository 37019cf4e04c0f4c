import Derived.Test.YtjijgafefdolkaaGreatDoorK10
set_option linter.all false
set_option linter.unusedSimpArgs false
set_option linter.unusedVariables false
set_option linter.unusedSectionVars false
section
open Go Go.Proofs AF HY P48
namespace LN
set_option maxRecDepth 100000
theorem qjq {l : List It} {k : Nat} (hk : (it l k).kind = 1) {c : UInt8} (hc : c ∈ (it l k).text) : ∀ n a, a ≤ k → k < a + n → c ∈ j9 l n a := by
 intro n
 induction n with
 | zero => intro a h1 h2; omega
 | succ n ih =>
  intro a h1 h2
  rw [j9]
  by_cases e : a = k
  ·subst e
   rw [if_pos hk]
   exact List.mem_append.2 (.inl hc)
  ·exact List.mem_append.2 (.inr (ih (a + 1) (by omega) (by omega)))
theorem qiG {l : List It} {W : Int} {k : Nat} (hk : (it l k).kind = 1) {c : UInt8} (hc : c ∈ (it l k).text) : ∀ (bs : List Nat) (frm : Nat) (ls : List P48.Line), zK l W frm bs = some ls → frm ≤ k → bs.Pairwise (· < ·) → (∀ b ∈ bs, b ≠ k) → (∃ b ∈ bs, k < b) → c ∈ (ls.getD (q9 k bs) default).text := by
 intro bs
 induction bs with
 | nil => intro frm ls _ _ _ _ ⟨b, hb, _⟩; simp at hb
 | cons b r ih =>
  intro frm ls h hf hp hne hex
  rw [zK] at h
  split at h
  ·obtain ⟨ls', h', rfl⟩ := Option.map_eq_some_iff.1 h
   rw [q9]
   obtain ⟨p1, p2⟩ := List.pairwise_cons.1 hp
   by_cases g : k < b
   ·rw [if_pos g]
    have h1 := (qeh l (b - frm) frm).2 k hf hk
    show c ∈ qhN l (qL l frm b) b
    unfold qhN
    refine List.mem_append.2 (.inl (qjq hk hc _ _ h1 ?_))
    have : zD l (b - frm) frm = qL l frm b := rfl
    omega
   ·rw [if_neg g]
    have hbk := hne b (by simp)
    refine ih (b + 1) ls' h' (by omega) p2 (fun b' hb' => hne b' (by simp [hb'])) ?_
    obtain ⟨b', hb', hk'⟩ := hex
    rcases List.mem_cons.1 hb' with rfl | hb'
    ·omega
    ·exact ⟨b', hb', hk'⟩
  ·cases h
theorem qiH {l : List It} {W : Int} : ∀ (bs : List Nat) (frm : Nat) (ls : List P48.Line), zK l W frm bs = some ls → ∀ i, i < bs.length → (ls.getD i default).to = ((bs.getD i 0 : Nat) : Int) := by
 intro bs
 induction bs with
 | nil => intro frm ls h i hi; simp at hi
 | cons b r ih =>
  intro frm ls h i hi
  rw [zK] at h
  split at h
  ·obtain ⟨ls', h', rfl⟩ := Option.map_eq_some_iff.1 h
   cases i with
   | zero => rfl
   | succ i => exact ih _ _ h' i (by simpa using hi)
  ·cases h
def qho (l : List It) (bs : List Nat) (n : Nat) : Nat := qih (unf l) (bs.take n) l.length
theorem qlg {l : List It} {bs : List Nat} {n : Nat} (h : n < bs.length) : qho l bs (n + 1) = qho l bs n + if decide (bs.getD n 0 < l.length) && unf l (bs.getD n 0) then 1 else 0 := by
 unfold qho qih
 rw [List.take_succ_eq_append_getElem h, List.filter_append, List.length_append]
 congr 1
 have : bs[n] = bs.getD n 0 := by rw [List.getD_eq_getElem?_getD, List.getElem?_eq_getElem h]; rfl
 rw [this]
 simp only [List.filter_cons, List.filter_nil]
 split <;> rfl
theorem qoK (l : List It) (bs : List Nat) : qho l bs bs.length = qih (unf l) bs l.length := by unfold qho; rw [List.take_length]
theorem qrG (l : List It) (bs : List Nat) (n : Nat) : qho l bs n ≤ n := by
 unfold qho qih
 have := List.length_filter_le (fun b => decide (b < l.length) && unf l b) (bs.take n)
 have := List.length_take_le n bs
 omega
def qg3 (f : Nat → Nat) (P : List (Nat × Nat)) (n : Nat) : Int := ((P.take n).map fun p => (f p.2 : Int) - f p.1).sum
theorem qf4 (f : Nat → Nat) {P : List (Nat × Nat)} {n : Nat} (h : n < P.length) : qg3 f P (n + 1) = qg3 f P n + ((f (P.getD n default).2 : Int) - f (P.getD n default).1) := by
 unfold qg3
 have : P[n] = P.getD n default := by rw [List.getD_eq_getElem?_getD, List.getElem?_eq_getElem h]; rfl
 rw [List.take_succ_eq_append_getElem h, ← this, List.map_append, List.sum_append]
 congr 1
 simp only [List.map_cons, List.map_nil, List.sum_cons, List.sum_nil]
 omega
theorem qqh (f : Nat → Nat) {P : List (Nat × Nat)} {L : List (Int × Int)} (h : L = P.map fun p => ((p.1 : Int), (p.2 : Int))) : qg3 f P P.length = qqZ f L := by
 unfold qg3 qqZ
 rw [List.take_length, h, List.map_map]
 rfl
theorem qqX {s : Sty} {W : Int} {ps : List Pat} {ws : List Wd} {l : List It} {ls : List P48.Line} (h : qeV s W ps ws l ls) : s.hy ≠ -10000 ∧ l = zH s ps ws ws.length := by
 have he := h.itE
 have hr := h.itR
 unfold qch at hr
 rw [if_pos he] at hr
 refine ⟨?_, hr⟩
 unfold jq at he
 split at he
 ·cases he
 ·rename_i hro
  have hro : kX s = true := by simpa using hro
  unfold kX at hro
  simp only [Bool.and_eq_true, decide_eq_true_eq] at hro
  omega
theorem qpW {s : Sty} {W : Int} {ps : List Pat} {ws : List Wd} {l : List It} {ls : List P48.Line} (h : qeV s W ps ws l ls) : ∀ i, i < ws.length → ∃ c r, (ws.getD i default).text = c :: r := by
 intro i hi
 have he := h.itE
 unfold jq at he
 split at he
 ·cases he
 ·split at he
  ·cases he
  ·rename_i hx
   have hm : ws.getD i default ∈ ws := by rw [List.getD_eq_getElem?_getD, List.getElem?_eq_getElem hi]; exact List.getElem_mem hi
   have hb : qds (ws.getD i default) = false := by
    cases hb : qds (ws.getD i default) with
    | false => rfl
    | true => exact absurd (.inr (List.any_eq_true.2 ⟨_, hm, hb⟩)) hx
   unfold qds at hb
   simp only [Bool.or_eq_false_iff, decide_eq_false_iff_not] at hb
   cases ht : (ws.getD i default).text with
   | nil => exact absurd ht hb.1
   | cons c r => exact ⟨c, r, rfl⟩
theorem qsB {s : Sty} {W : Int} {ps : List Pat} {ws : List Wd} {l : List It} {ls : List P48.Line} (h : qeV s W ps ws l ls) {P : List (Nat × Nat)} (hP : zb l = P.map fun p => ((p.1 : Int), (p.2 : Int))) :
  qg3 (fun k => q9 k (P48.brk l W)) P P.length = (qho l (P48.brk l W) (P48.brk l W).length : Int) := by
 obtain ⟨g1, g2, g3, g4, g5, g6⟩ := qbF h
 obtain ⟨h1, h2⟩ := qqX h
 have hw : Wds l ws.length := by rw [h2]; exact qdq h1 ps ws ws.length
 rw [qqh _ hP, qoK]
 exact qnt (qqv hw) g2 (fun b hb => (g3 b hb).2)
theorem qm2 {s : Sty} {W : Int} {ps : List Pat} {ws : List Wd} {l : List It} {ls : List P48.Line} (h : qeV s W ps ws l ls) {P : List (Nat × Nat)} (hP : zb l = P.map fun p => ((p.1 : Int), (p.2 : Int))) (hk : ∀ p ∈ P, p.1 ≤ p.2 ∧ p.2 < l.length ∧ (it l p.1).kind = 1 ∧ (it l p.2).kind = 1)
  {i : Nat} (hi : i < ws.length) (hiP : i < P.length) {c : UInt8} {r : List UInt8} (ht : (ws.getD i default).text = c :: r) :
  0 < (ls.getD (q9 (P.getD i default).1 (P48.brk l W)) default).text.count c := by
 obtain ⟨g1, g2, g3, g4, g5, g6⟩ := qbF h
 obtain ⟨h1, h2⟩ := qqX h
 have hst := qjH l
 have hsi := qp6 h1 ps ws ws.length
 rw [← h2] at hsi
 rw [hsi, hP, List.map_map, List.map_map] at hst
 have hfi : (P.getD i default).1 = qtb s ps ws i := by
  have e := congrArg (fun L => L[i]?) hst
  simp only [List.getElem?_map, List.getElem?_range hi, List.getElem?_eq_getElem hiP, Option.map_some, Function.comp] at e
  have e := Option.some.inj e
  rw [List.getD_eq_getElem?_getD, List.getElem?_eq_getElem hiP]
  have e2 : ((P[i].1 : Nat) : Int) = ((qtb s ps ws i : Nat) : Int) := e
  simp only [Option.getD_some]
  omega
 have hm : P.getD i default ∈ P := by rw [List.getD_eq_getElem?_getD, List.getElem?_eq_getElem hiP]; exact List.getElem_mem hiP
 obtain ⟨k1, k2, k3, k4⟩ := hk _ hm
 obtain ⟨w1, w2⟩ := qs5 s ps ws ws.length hi
 rw [← h2, ← hfi, ht] at w1
 obtain ⟨t, ht2⟩ := qmv ps c r
 rw [ht2] at w1
 rw [List.count_pos_iff]
 refine qiG k3 (by rw [w1]; simp) _ 0 ls g1 (Nat.zero_le _) g2 (fun b hb e => ?_) ⟨l.length, g4, by omega⟩
 have := (g3 b hb).2
 rw [e, qem (by omega) k3] at this
 cases this
end LN
end
section
open Go Go.Proofs AF HY P48
namespace LN
set_option maxRecDepth 100000
theorem qzf (s : List UInt8) (c : UInt8) (h : List AObj) : qs Tryz.prog 32 [.str s, .str [c]] h (.int .i64 (Go.Lib.indexByte s c)) h := by
 have c63 := fun h => qyG s c h
 refine qn qwH (by simp) ?_
 simp only [lcP, lnP, Nat.reduceAdd, Nat.reduceSub, List.replicate, caP, naP, List.append_nil]
 simp (disch := omega) only [qxV, go_sem, qc, dvP, mdP]
 repeat' first
  | ((first | refine qj (c63 _) ?_ ?_); (next => exact flk); simp (disch := omega) only [go_sem, qc, dvP, mdP])
  | ((first | refine qo (fun _ => c63 _) ?_ ?_); (next => exact flk); simp (disch := omega) only [go_sem, qc, dvP, mdP])
  | ((first | refine qk (fun e => ⟨?_, c63 _⟩) ?_); (next => exact flk); simp (disch := omega) only [go_sem, qc, dvP, mdP])
  | ((first | refine qe ?_ ?_ | refine qg ?_ ?_); (next => exact rvk); simp only [go_sem]; (first | exact VLe.refl _ | refine qh ?_ | refine qd ?_ | refine ql ?_ | skip))
  | with_reducible first | refine And.intro ?_ ?_ | intro _
 all_goals try exact clz
theorem qy5 (s : List UInt8) (c : UInt8) (h : List AObj) (g : 0 < s.count c) : qs Tryz.prog 10 [.str s, .str [c]] h (.bool true) h := by
 have c32 := fun h => qzf s c h
 rw [qfn c s g] at c32
 have k1 : (0 ≤ ((ke c s : Nat) : Int)) = True := eq_true (by omega)
 refine qn qwy (by simp) ?_
 simp only [lcP, lnP, Nat.reduceAdd, Nat.reduceSub, List.replicate, caP, naP, List.append_nil]
 simp (disch := omega) only [qxN, go_sem, qc, dvP, mdP]
 repeat' first
  | ((first | refine qj (c32 _) ?_ ?_); (next => exact flk); simp (disch := omega) only [k1, go_sem, qc, dvP, mdP])
  | ((first | refine qo (fun _ => c32 _) ?_ ?_); (next => exact flk); simp (disch := omega) only [k1, go_sem, qc, dvP, mdP])
  | ((first | refine qk (fun e => ⟨?_, c32 _⟩) ?_); (next => exact flk); simp (disch := omega) only [k1, go_sem, qc, dvP, mdP])
  | ((first | refine qe ?_ ?_ | refine qg ?_ ?_); (next => exact rvk); simp only [go_sem]; (first | exact VLe.refl _ | refine qh ?_ | refine qd ?_ | refine ql ?_ | skip))
  | with_reducible first | refine And.intro ?_ ?_ | intro _
 all_goals try exact clz
set_option maxHeartbeats 16000000 in
theorem a5 (s : Sty) (W : Int) (x : List AV) (ps : List Pat) (ws : List Wd) (h : List AObj) (hps : ps.length ≤ 9223372036854775807) (hws : ws.length ≤ 9223372036854775807) (hx : x.getD 0 .undef = .int .i64 W) :
  qs Tryz.prog 5 [.agg (zi s x), qA ps, qv ws] h (.bool true) h := by
 obtain ⟨A, B, b, ⟨f1, f2, f3, f4⟩, c17, hb⟩ := s17 s W x ps ws h hps hws hx
 have hst : zi s x = [.int .i64 W, x.getD 1 .undef, x.getD 2 .undef, x.getD 3 .undef, x.getD 4 .undef, .int .i64 s.sp, .int .i64 s.st, .int .i64 s.sh, .int .i64 s.le, .int .i64 s.hy, x.getD 5 .undef, x.getD 6 .undef, x.getD 7 .undef] := by unfold zi; rw [hx]
 have c18 := fun h => t10 h
 rw [hst] at c17 ⊢
 cases b with
 | false =>
  unfold qv at c17 ⊢
  unfold qA at c17 ⊢
  refine qn qyp (by simp) ?_
  simp only [lcP, lnP, Nat.reduceAdd, Nat.reduceSub, List.replicate, caP, naP, List.append_nil]
  simp (disch := omega) only [c5z, f1, f2, f3, f4, go_sem, qc, dvP, mdP]
  repeat' first
   | ((first | refine qj (c17 _) ?_ ?_ | refine qj (c18 _) ?_ ?_); (next => exact flk); simp (disch := omega) only [f1, f2, f3, f4, go_sem, qc, dvP, mdP])
   | ((first | refine qo (fun _ => c17 _) ?_ ?_ | refine qo (fun _ => c18 _) ?_ ?_); (next => exact flk); simp (disch := omega) only [f1, f2, f3, f4, go_sem, qc, dvP, mdP])
   | ((first | refine qk (fun e => ⟨?_, c17 _⟩) ?_ | refine qk (fun e => ⟨?_, c18 _⟩) ?_); (next => exact flk); simp (disch := omega) only [f1, f2, f3, f4, go_sem, qc, dvP, mdP])
   | ((first | refine qe ?_ ?_ | refine qg ?_ ?_); (next => exact rvk); simp only [go_sem]; (first | exact VLe.refl _ | refine qh ?_ | refine qd ?_ | refine ql ?_ | skip))
   | with_reducible first | refine And.intro ?_ ?_ | intro _
  all_goals try exact clz
 | true =>
 obtain ⟨l, ls, rfl, rfl, hs⟩ := hb rfl
 obtain ⟨P, p1, p2, p3, p4, p5, p6, p7⟩ := qhL hs
 have hn12 := hs.n12
 have hsm := hs.small
 have hsum := qsB hs p4
 have hbeg := fun (i : Nat) (hi : i < ws.length) (c : UInt8) (r : List UInt8) (ht : (ws.getD i default).text = c :: r) => qm2 hs p4 p2 hi (by omega) ht
 obtain ⟨g1, g2, g3, g4, _, _⟩ := qbF hs
 have hto := qiH _ _ _ g1
 have hlb := qc7 _ _ _ g1
 have c19 := fun h => qwg (t12 l (ls.map qaC) h (by omega) (by rw [List.length_map]; omega))
 have c20 := fun h => qwg (t14 l (ls.map qaC) h (by omega) (by rw [List.length_map]; omega))
 rw [p6] at c19
 rw [p7] at c20
 simp only at c19 c20
 obtain ⟨bs, hbs⟩ : ∃ bs, bs = P48.brk l W := ⟨_, rfl⟩
 obtain ⟨g, hg⟩ : ∃ g : Nat → Nat, g = fun k => q9 k bs := ⟨_, rfl⟩
 have hgl : ∀ k, k < l.length → g k < ls.length := fun k hk => by rw [hg, hbs]; exact p5 k hk
 rw [← hbs] at hsum hto hlb c19 c20
 simp only [← hbs] at hbeg
 rw [← hg] at hsum
 have hto' : ∀ i, i < ls.length → (qaC (ls.getD i default)).to = ((bs.getD i 0 : Nat) : Int) := fun i hi => hto i (by omega)
 have hbeg' : ∀ (i : Nat), i < ws.length → ∀ (c : UInt8) (r : List UInt8), (ws.getD i default).text = c :: r → 0 < (ls.getD (g (P.getD i default).1) default).text.count c := fun i hi c r ht => by
  rw [hg]; exact hbeg i hi c r ht
 obtain ⟨av, hav⟩ : ∃ av : List Int, av = P.map fun p => ((g p.1 + 1 : Nat) : Int) := ⟨_, rfl⟩
 obtain ⟨bv, hbv⟩ : ∃ bv : List Int, bv = P.map fun p => ((g p.2 + 1 : Nat) : Int) := ⟨_, rfl⟩
 have ea : (P.map fun p => ((q9 p.1 bs + 1 : Nat) : Int)) = av := by rw [hav, hg]
 have eb : (P.map fun p => ((q9 p.2 bs + 1 : Nat) : Int)) = bv := by rw [hbv, hg]
 rw [ea] at c19
 rw [eb] at c20
 have la : av.length = ws.length := by rw [hav, List.length_map, p1]
 have lb : bv.length = ws.length := by rw [hbv, List.length_map, p1]
 have hlen : (ls.map qaC).length = ls.length := by simp
 have q8 : (ws.length : Int) ≤ 8 := by have := hs.n8; omega
 have hgm : ∀ i j, i ≤ j → g i ≤ g j := fun i j hij => by rw [hg]; exact qaZ hij _
 have key : ∀ i, i < ws.length → av.getD i 0 = ((g (P.getD i default).1 + 1 : Nat) : Int) ∧ bv.getD i 0 = ((g (P.getD i default).2 + 1 : Nat) : Int) ∧ g (P.getD i default).1 < ls.length ∧ g (P.getD i default).2 < ls.length ∧ g (P.getD i default).1 ≤ g (P.getD i default).2 := by
  intro i hi
  have hiP : i < P.length := by omega
  have hqm : P.getD i default ∈ P := by rw [List.getD_eq_getElem?_getD, List.getElem?_eq_getElem hiP]; exact List.getElem_mem hiP
  obtain ⟨q1, q2, _, _⟩ := p2 _ hqm
  exact ⟨by rw [hav, qbl _ default hiP], by rw [hbv, qbl _ default hiP], hgl _ (by omega), hgl _ q2, hgm _ _ q1⟩
 have hsb : ∀ n, n ≤ P.length → 0 ≤ qg3 g P n ∧ qg3 g P n ≤ 12 * n := by
  intro n
  induction n with
  | zero => intro _; exact ⟨by simp [qg3], by simp [qg3]⟩
  | succ n ih =>
   intro hn
   have := ih (by omega)
   rw [qf4 g (by omega)]
   obtain ⟨_, _, k3, k4, k5⟩ := key n (by omega)
   omega
 unfold qv at c17 ⊢
 unfold qA at c17 ⊢
 unfold qD at c17 c19 c20
 unfold qw at c19 c20
 rw [hlen] at c17 c19 c20
 rw [la] at c19
 rw [lb] at c20
 refine qn qyp (by simp) ?_
 simp only [lcP, lnP, Nat.reduceAdd, Nat.reduceSub, List.replicate, caP, naP, List.append_nil]
 simp (disch := omega) only [c5z, go_sem, qc, dvP, mdP]
 repeat' first
  | ((first | refine qj (c17 _) ?_ ?_ | refine qj (c19 _) ?_ ?_ | refine qj (c20 _) ?_ ?_); (next => exact flk); simp (disch := omega) only [go_sem, qc, dvP, mdP])
  | ((first | refine qo (fun _ => c17 _) ?_ ?_ | refine qo (fun _ => c19 _) ?_ ?_ | refine qo (fun _ => c20 _) ?_ ?_); (next => exact flk); simp (disch := omega) only [go_sem, qc, dvP, mdP])
  | ((first | refine qk (fun e => ⟨?_, c17 _⟩) ?_ | refine qk (fun e => ⟨?_, c19 _⟩) ?_ | refine qk (fun e => ⟨?_, c20 _⟩) ?_); (next => exact flk); simp (disch := omega) only [go_sem, qc, dvP, mdP])
  | ((first | refine qe ?_ ?_ | refine qg ?_ ?_); (next => exact rvk); simp only [go_sem]; (first | exact VLe.refl _ | refine qh ?_ | refine qd ?_ | refine ql ?_ | skip))
  | with_reducible first | refine And.intro ?_ ?_ | intro _
 all_goals try exact clz
 have hPws : P.length = ws.length := p1
 have hbl : bs.length = ls.length := hlb.symm
 have hBle : ∀ k, k < ls.length → bs.getD k 0 ≤ l.length := fun k hk => by
  have hm : bs.getD k 0 ∈ bs := by rw [List.getD_eq_getElem?_getD, List.getElem?_eq_getElem (by omega)]; exact List.getElem_mem (by omega)
  rw [hbs] at hm
  have := (g3 _ hm).1
  rw [hbs]
  exact this
 obtain ⟨SO, hSO⟩ : ∃ SO, SO = AObj.mem 1 25 [.int .i64 W, x.getD 1 .undef, x.getD 2 .undef, x.getD 3 .undef, x.getD 4 .undef, .int .i64 s.sp, .int .i64 s.st, .int .i64 s.sh, .int .i64 s.le, .int .i64 s.hy, x.getD 5 .undef, x.getD 6 .undef, x.getD 7 .undef] := ⟨_, rfl⟩
 rw [← hSO]
 refine qJ (T := fun i : Nat => qu 162 [(2, .sl ws.length fun i => zG (ws.getD i default)), (7, qt l), (8, .sl ls.length fun i => qS ((ls.map qaC).getD i default)), (10, .sl ws.length fun i => [.int .i64 (av.getD i 0)]), (12, .sl ws.length fun i => [.int .i64 (bv.getD i 0)]), (14, .int .i64 (qg3 g P i)), (15, .int .i64 0), (65, .int .i64 ws.length), (66, .int .i64 i)])
  (H := fun _ => h ++ [SO, .emp 0, .emp 0]) (inv := fun i => i ≤ ws.length) (m := fun i => ws.length - i) 0 (Nat.zero_le _) (Wk.temps ?_) ?_
 ·have e0 : qg3 g P 0 = 0 := by simp [qg3]
  (simp only [e0, qu, List.foldl, List.replicate, go_sem, qr, qp, qm, qq]; try (repeat' first | (with_reducible refine And.intro ?_ ?_) | (refine qh ?_; omega) | (refine qd ?_; rfl) | exact VLe.refl _))
 rintro i i1 K hK
 by_cases hi : i < ws.length
 ·obtain ⟨r1, r2, r3, r4, r5⟩ := key i hi
  obtain ⟨b1, b2⟩ := hsb i (by omega)
  have hS := qf4 g (P := P) (n := i) (by omega)
  obtain ⟨X, hX⟩ : ∃ X, X = av.getD i 0 := ⟨_, rfl⟩
  obtain ⟨Y, hY⟩ : ∃ Y, Y = bv.getD i 0 := ⟨_, rfl⟩
  obtain ⟨S, hS0⟩ : ∃ S, S = qg3 g P i := ⟨_, rfl⟩
  have eX := hX.symm
  have eY := hY.symm
  rw [eX] at r1
  rw [eY] at r2
  rw [← hS0] at b1 b2 hS ⊢
  have y0 : ((i : Int) < ws.length) = True := eq_true (by omega)
  have hS' : S + (Y - X) = qg3 g P (i + 1) := by rw [hS, r1, r2]; omega
  have hX0 : 0 ≤ X ∧ X ≤ 13 := by omega
  have hY0 : 0 ≤ Y ∧ Y ≤ 13 := by omega
  simp (disch := omega) only [qu, List.foldl, List.replicate, eX, eY, y0, go_sem, qc, dvP, mdP]
  repeat' first
   | ((first | refine qe ?_ ?_ | refine qg ?_ ?_); (next => exact rvk); simp only [go_sem]; (first | exact VLe.refl _ | refine qh ?_ | refine qd ?_ | refine ql ?_ | skip))
   | with_reducible first | refine And.intro ?_ ?_ | intro _
  all_goals try exact clz
  refine hK _ _ (i + 1) (by omega) (by omega) (Wk.temps ?_)
  rw [← hS']
  (simp only [qu, List.foldl, List.replicate, go_sem, qr, qp, qm, qq]; try (repeat' first | (with_reducible refine And.intro ?_ ?_) | (refine qh ?_; omega) | (refine qd ?_; rfl) | exact VLe.refl _))
 have ei : i = ws.length := by omega
 subst ei
 have y0 : ((ws.length : Int) < ws.length) = False := eq_false (by omega)
 simp (disch := omega) only [qu, List.foldl, List.replicate, y0, go_sem, qc, dvP, mdP]
 repeat' first
  | ((first | refine qe ?_ ?_ | refine qg ?_ ?_); (next => exact rvk); simp only [go_sem]; (first | exact VLe.refl _ | refine qh ?_ | refine qd ?_ | refine ql ?_ | skip))
  | with_reducible first | refine And.intro ?_ ?_ | intro _
 all_goals try exact clz
 rw [← hPws, hsum, hbl]
 rw [hPws]
 refine qJ (T := fun k : Nat × AObj => qu 162 [(2, .sl ws.length fun i => zG (ws.getD i default)), (7, qt l), (8, .sl ls.length fun i => qS ((ls.map qaC).getD i default)), (10, .sl ws.length fun i => [.int .i64 (av.getD i 0)]), (14, .int .i64 (qho l bs ls.length : Nat)), (15, .int .i64 (qho l bs k.1 : Nat)), (81, .sl ls.length fun i => qS ((ls.map qaC).getD i default)), (82, .int .i64 ls.length), (83, .int .i64 k.1)])
  (H := fun k => h ++ [SO, k.2, .emp 0]) (inv := fun k => k.1 ≤ ls.length ∧ zc [k.2] 0 = true) (m := fun k => ls.length - k.1) (0, .emp 0) ⟨Nat.zero_le _, rfl⟩ (Wk.temps ?_) ?_
 ·have e0 : qho l bs 0 = 0 := by simp [qho, qih]
  have e1 : ((0 : Nat) : Int) = 0 := rfl
  (simp only [e0, e1, qu, List.foldl, List.replicate, go_sem, qr, qp, qm, qq]; try (repeat' first | (with_reducible refine And.intro ?_ ?_) | (refine qh ?_; omega) | (refine qd ?_; rfl) | exact VLe.refl _))
 rintro ⟨k, O⟩ ⟨k1, k2⟩ K2 hK2
 simp only at k1 k2 hK2
 have k2' : ∀ m, zc (O :: m) 0 = true := fun _ => k2
 by_cases hk : k < ls.length
 ·have y1 : ((k : Int) < ls.length) = True := eq_true (by omega)
  obtain ⟨y, hy⟩ : ∃ y, y = (ls.map qaC).getD k default := ⟨_, rfl⟩
  have ey := hy.symm
  have hyl : y = qaC (ls.getD k default) := by
   rw [hy, List.getD_eq_getElem?_getD, List.getD_eq_getElem?_getD, List.getElem?_map, List.getElem?_eq_getElem hk]; rfl
  obtain ⟨B, hB⟩ : ∃ B, B = bs.getD k 0 := ⟨_, rfl⟩
  have et : y.to = (B : Int) := by rw [hyl, hto' k hk, hB]
  have hBl := hBle k hk
  have hE := qlg (l := l) (bs := bs) (n := k) (by omega)
  rw [← hB] at hBl hE
  have hEl := qrG l bs k
  obtain ⟨E, hE0⟩ : ∃ E, E = qho l bs k := ⟨_, rfl⟩
  rw [← hE0] at hE hEl ⊢
  have y2 : ((0 : Int) ≤ (B : Int)) = True := eq_true (by omega)
  by_cases hBl2 : B < l.length
  ·have y3 : ((B : Int) < l.length) = True := eq_true (by omega)
   rw [decide_eq_true hBl2, Bool.true_and] at hE
   by_cases c1 : (it l B).kind = 3
   ·have y4 : ((it l B).kind = 3) = True := eq_true c1
    by_cases c2 : (it l B).penalty = -10000
    ·have y5 : ((it l B).penalty = -10000) = True := eq_true c2
     have hu : unf l B = false := by unfold unf; rw [c2]; simp
     rw [if_neg (by rw [hu]; simp)] at hE
     simp (disch := omega) only [qu, qt, qH, qS, List.foldl, List.replicate, k2', ey, et, y1, y2, y3, y4, y5, Int.toNat_natCast, go_sem, qc, dvP, mdP]
     repeat' first
      | ((first | refine qe ?_ ?_ | refine qg ?_ ?_); (next => exact rvk); simp only [go_sem]; (first | exact VLe.refl _ | refine qh ?_ | refine qd ?_ | refine ql ?_ | skip))
      | with_reducible first | refine And.intro ?_ ?_ | intro _
     all_goals try exact clz
     refine hK2 _ _ (k + 1, .mem (qz (some O) + 1) 49 [.int .i64 y.frm, .int .i64 B, .int .i64 y.bad, .int .i64 y.chg, .str y.text]) ⟨hk, rfl⟩ (by simp only; omega) (Wk.temps ?_)
     rw [hE]
     (simp only [qt, qH, qS, qu, List.foldl, List.replicate, go_sem, qr, qp, qm, qq]; try (repeat' first | (with_reducible refine And.intro ?_ ?_) | (refine qh ?_; omega) | (refine qd ?_; rfl) | exact VLe.refl _))
    ·have y5 : ((it l B).penalty = -10000) = False := eq_false c2
     have hu : unf l B = true := by unfold unf; rw [decide_eq_true c1, decide_eq_true c2]; rfl
     rw [if_pos hu] at hE
     have e2 : ((E + 1 : Nat) : Int) = (E : Int) + 1 := by omega
     simp (disch := omega) only [qu, qt, qH, qS, List.foldl, List.replicate, k2', ey, et, y1, y2, y3, y4, y5, Int.toNat_natCast, go_sem, qc, dvP, mdP]
     repeat' first
      | ((first | refine qe ?_ ?_ | refine qg ?_ ?_); (next => exact rvk); simp only [go_sem]; (first | exact VLe.refl _ | refine qh ?_ | refine qd ?_ | refine ql ?_ | skip))
      | with_reducible first | refine And.intro ?_ ?_ | intro _
     all_goals try exact clz
     refine hK2 _ _ (k + 1, .mem (qz (some O) + 1) 49 [.int .i64 y.frm, .int .i64 B, .int .i64 y.bad, .int .i64 y.chg, .str y.text]) ⟨hk, rfl⟩ (by simp only; omega) (Wk.temps ?_)
     rw [hE, e2]
     (simp only [qt, qH, qS, qu, List.foldl, List.replicate, go_sem, qr, qp, qm, qq]; try (repeat' first | (with_reducible refine And.intro ?_ ?_) | (refine qh ?_; omega) | (refine qd ?_; rfl) | exact VLe.refl _))
   ·have y4 : ((it l B).kind = 3) = False := eq_false c1
    have hu : unf l B = false := by unfold unf; rw [decide_eq_false c1]; rfl
    rw [if_neg (by rw [hu]; simp)] at hE
    simp (disch := omega) only [qu, qt, qH, qS, List.foldl, List.replicate, k2', ey, et, y1, y2, y3, y4, Int.toNat_natCast, go_sem, qc, dvP, mdP]
    repeat' first
     | ((first | refine qe ?_ ?_ | refine qg ?_ ?_); (next => exact rvk); simp only [go_sem]; (first | exact VLe.refl _ | refine qh ?_ | refine qd ?_ | refine ql ?_ | skip))
     | with_reducible first | refine And.intro ?_ ?_ | intro _
    all_goals try exact clz
    refine hK2 _ _ (k + 1, .mem (qz (some O) + 1) 49 [.int .i64 y.frm, .int .i64 B, .int .i64 y.bad, .int .i64 y.chg, .str y.text]) ⟨hk, rfl⟩ (by simp only; omega) (Wk.temps ?_)
    rw [hE]
    (simp only [qt, qH, qS, qu, List.foldl, List.replicate, go_sem, qr, qp, qm, qq]; try (repeat' first | (with_reducible refine And.intro ?_ ?_) | (refine qh ?_; omega) | (refine qd ?_; rfl) | exact VLe.refl _))
  ·have y3 : ((B : Int) < l.length) = False := eq_false (by omega)
   rw [decide_eq_false hBl2, Bool.false_and, if_neg (by simp)] at hE
   simp (disch := omega) only [qu, qt, qH, qS, List.foldl, List.replicate, k2', ey, et, y1, y2, y3, Int.toNat_natCast, go_sem, qc, dvP, mdP]
   repeat' first
    | ((first | refine qe ?_ ?_ | refine qg ?_ ?_); (next => exact rvk); simp only [go_sem]; (first | exact VLe.refl _ | refine qh ?_ | refine qd ?_ | refine ql ?_ | skip))
    | with_reducible first | refine And.intro ?_ ?_ | intro _
   all_goals try exact clz
   refine hK2 _ _ (k + 1, .mem (qz (some O) + 1) 49 [.int .i64 y.frm, .int .i64 B, .int .i64 y.bad, .int .i64 y.chg, .str y.text]) ⟨hk, rfl⟩ (by simp only; omega) (Wk.temps ?_)
   rw [hE]
   (simp only [qt, qH, qS, qu, List.foldl, List.replicate, go_sem, qr, qp, qm, qq]; try (repeat' first | (with_reducible refine And.intro ?_ ?_) | (refine qh ?_; omega) | (refine qd ?_; rfl) | exact VLe.refl _))
 have ek : k = ls.length := by omega
 subst ek
 have y1 : ((ls.length : Int) < ls.length) = False := eq_false (by omega)
 simp (disch := omega) only [qu, List.foldl, List.replicate, y1, go_sem, qc, dvP, mdP]
 repeat' first
  | ((first | refine qe ?_ ?_ | refine qg ?_ ?_); (next => exact rvk); simp only [go_sem]; (first | exact VLe.refl _ | refine qh ?_ | refine qd ?_ | refine ql ?_ | skip))
  | with_reducible first | refine And.intro ?_ ?_ | intro _
 all_goals try exact clz
 obtain ⟨E, hE0⟩ : ∃ E, E = qho l bs ls.length := ⟨_, rfl⟩
 rw [← hE0]
 refine qJ (T := fun k : Nat × AObj => qu 162 [(8, .sl ls.length fun i => qS ((ls.map qaC).getD i default)), (10, .sl ws.length fun i => [.int .i64 (av.getD i 0)]), (14, .int .i64 (E : Nat)), (15, .int .i64 (E : Nat)), (118, .sl ws.length fun i => zG (ws.getD i default)), (119, .int .i64 ws.length), (120, .int .i64 k.1)])
  (H := fun k => h ++ [SO, O, k.2]) (inv := fun k => k.1 ≤ ws.length ∧ zc [k.2] 0 = true) (m := fun k => ws.length - k.1) (0, .emp 0) ⟨Nat.zero_le _, rfl⟩ (Wk.temps ?_) ?_
 ·(simp only [qu, List.foldl, List.replicate, go_sem, qr, qp, qm, qq]; try (repeat' first | (with_reducible refine And.intro ?_ ?_) | (refine qh ?_; omega) | (refine qd ?_; rfl) | exact VLe.refl _))
 rintro ⟨i, Q⟩ ⟨i1, i2⟩ K3 hK3
 simp only at i1 i2 hK3
 have i2' : ∀ m, zc (Q :: m) 0 = true := fun _ => i2
 by_cases hi : i < ws.length
 ·obtain ⟨r1, r2, r3, r4, r5⟩ := key i hi
  have y0 : ((i : Int) < ws.length) = True := eq_true (by omega)
  obtain ⟨w, hw⟩ : ∃ w, w = ws.getD i default := ⟨_, rfl⟩
  have ew := hw.symm
  obtain ⟨c, r, ht⟩ := qpW hs i hi
  have hcnt := hbeg' i hi c r ht
  rw [ew] at ht
  obtain ⟨G, hG⟩ : ∃ G, G = g (P.getD i default).1 := ⟨_, rfl⟩
  rw [← hG] at r1 r3 hcnt
  obtain ⟨y, hy⟩ : ∃ y, y = (ls.map qaC).getD G default := ⟨_, rfl⟩
  have ey := hy.symm
  have hyl : y.text = (ls.getD G default).text := by
   rw [hy, List.getD_eq_getElem?_getD, List.getD_eq_getElem?_getD, List.getElem?_map, List.getElem?_eq_getElem r3]; rfl
  rw [← hyl] at hcnt
  have c10 := fun h => qy5 y.text c h hcnt
  have ex : av.getD i 0 = (G : Int) + 1 := by rw [r1]; omega
  have y2 : ((G : Int) + 1 < 1) = False := eq_false (by omega)
  have y3 : ((ls.length : Int) < (G : Int) + 1) = False := eq_false (by omega)
  have y4 : ((G : Int) < ls.length) = True := eq_true (by omega)
  have tk : (c :: r).take 1 = [c] := rfl
  simp (disch := omega) only [qu, qS, zG, List.foldl, List.replicate, i2', ew, ht, ex, ey, y0, y2, y3, y4, tk, Int.add_sub_cancel, Int.toNat_natCast, go_sem, qc, dvP, mdP]
  repeat' first
   | ((first | refine qj (c10 _) ?_ ?_); (next => exact flk); simp (disch := omega) only [qS, zG, i2', ew, ht, ex, ey, y0, y2, y3, y4, tk, Int.add_sub_cancel, Int.toNat_natCast, go_sem, qc, dvP, mdP])
   | ((first | refine qo (fun _ => c10 _) ?_ ?_); (next => exact flk); simp (disch := omega) only [qS, zG, i2', ew, ht, ex, ey, y0, y2, y3, y4, tk, Int.add_sub_cancel, Int.toNat_natCast, go_sem, qc, dvP, mdP])
   | ((first | refine qk (fun e => ⟨?_, c10 _⟩) ?_); (next => exact flk); simp (disch := omega) only [qS, zG, i2', ew, ht, ex, ey, y0, y2, y3, y4, tk, Int.add_sub_cancel, Int.toNat_natCast, go_sem, qc, dvP, mdP])
   | ((first | refine qe ?_ ?_ | refine qg ?_ ?_); (next => exact rvk); simp only [go_sem]; (first | exact VLe.refl _ | refine qh ?_ | refine qd ?_ | refine ql ?_ | skip))
   | with_reducible first | refine And.intro ?_ ?_ | intro _
  all_goals try exact clz
  refine hK3 _ _ (i + 1, .mem (qz (some Q) + 1) 33 [.str (c :: r), .int .i64 w.col, .int .i64 w.unit, .int .i64 w.dec, .bool w.joined, .bool w.verse, .str w.name]) ⟨hi, rfl⟩ (by simp only; omega) (Wk.temps ?_)
  (simp only [zG, qS, ht, qu, List.foldl, List.replicate, go_sem, qr, qp, qm, qq]; try (repeat' first | (with_reducible refine And.intro ?_ ?_) | (refine qh ?_; omega) | (refine qd ?_; rfl) | exact VLe.refl _))
 have ei : i = ws.length := by omega
 subst ei
 have y0 : ((ws.length : Int) < ws.length) = False := eq_false (by omega)
 simp (disch := omega) only [qu, List.foldl, List.replicate, y0, go_sem, qc, dvP, mdP]
 repeat' first
  | ((first | refine qj (c18 _) ?_ ?_); (next => exact flk); simp (disch := omega) only [y0, go_sem, qc, dvP, mdP])
  | ((first | refine qo (fun _ => c18 _) ?_ ?_); (next => exact flk); simp (disch := omega) only [y0, go_sem, qc, dvP, mdP])
  | ((first | refine qk (fun e => ⟨?_, c18 _⟩) ?_); (next => exact flk); simp (disch := omega) only [y0, go_sem, qc, dvP, mdP])
  | ((first | refine qe ?_ ?_ | refine qg ?_ ?_); (next => exact rvk); simp only [go_sem]; (first | exact VLe.refl _ | refine qh ?_ | refine qd ?_ | refine ql ?_ | skip))
  | with_reducible first | refine And.intro ?_ ?_ | intro _
 all_goals try exact clz
end LN
end

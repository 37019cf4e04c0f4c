import Derived.Test.YtjijgafefdolkaaGreatDoorK11
import Derived.Shelf.Strings.Replace
import Derived.Shelf.Strings.SlTrimAscii
import Derived.Test.YtjijgafefdolkaaGreatDoorProg
import Derived.Test.YtjijgafefdolkaaGreatDoorK7
import Derived.Lib.ReplaceLaws
import Derived.Deep.LoopGhost
import Derived.Test.YtjijgafefdolkaaGreatDoorK3
set_option linter.all false
set_option linter.unusedSimpArgs false
set_option linter.unusedVariables false
set_option linter.unusedSectionVars false
section
open Go Go.Proofs AF HY P48
namespace LN
set_option maxRecDepth 100000
theorem qj9 {l : List It} {k : Nat} (hk : (it l k).kind = 1) {c : UInt8} (hc : c ∈ (it l k).text) : ∀ n a, a ≤ k → k < a + n → c ∈ zN l n a := by
 intro n
 induction n with
 | zero => intro a h1 h2; omega
 | succ n ih =>
  intro a h1 h2
  rw [zN]
  by_cases e : a = k
  ·subst e
   rw [if_pos hk]
   exact List.mem_append.2 (.inl hc)
  ·exact List.mem_append.2 (.inr (ih (a + 1) (by omega) (by omega)))
theorem qjn {l : List It} {W : Int} {k : Nat} (hk : (it l k).kind = 1) {c : UInt8} (hc : c ∈ (it l k).text) : ∀ (bs : List Nat) (frm : Nat) (ls : List P48.Line), zk l W frm bs = some ls → frm ≤ k → bs.Pairwise (· < ·) → (∀ b ∈ bs, b ≠ k) → (∃ b ∈ bs, k < b) → c ∈ (ls.getD (zd k bs) default).text := by
 intro bs
 induction bs with
 | nil => intro frm ls _ _ _ _ ⟨b, hb, _⟩; simp at hb
 | cons b r ih =>
  intro frm ls h hf hp hne hex
  rw [zk] at h
  split at h
  ·obtain ⟨ls', h', rfl⟩ := Option.map_eq_some_iff.1 h
   rw [zd]
   obtain ⟨p1, p2⟩ := List.pairwise_cons.1 hp
   by_cases g : k < b
   ·rw [if_pos g]
    have h1 := (qey l (b - frm) frm).2 k hf hk
    show c ∈ qaG l (qI l frm b) b
    unfold qaG
    refine List.mem_append.2 (.inl (qj9 hk hc _ _ h1 ?_))
    have : zp l (b - frm) frm = qI l frm b := rfl
    omega
   ·rw [if_neg g]
    have hbk := hne b (by simp)
    refine ih (b + 1) ls' h' (by omega) p2 (fun b' hb' => hne b' (by simp [hb'])) ?_
    obtain ⟨b', hb', hk'⟩ := hex
    rcases List.mem_cons.1 hb' with rfl | hb'
    ·omega
    ·exact ⟨b', hb', hk'⟩
  ·cases h
theorem qjo {l : List It} {W : Int} : ∀ (bs : List Nat) (frm : Nat) (ls : List P48.Line), zk l W frm bs = some ls → ∀ i, i < bs.length → (ls.getD i default).to = ((bs.getD i 0 : Nat) : Int) := by
 intro bs
 induction bs with
 | nil => intro frm ls h i hi; simp at hi
 | cons b r ih =>
  intro frm ls h i hi
  rw [zk] at h
  split at h
  ·obtain ⟨ls', h', rfl⟩ := Option.map_eq_some_iff.1 h
   cases i with
   | zero => rfl
   | succ i => exact ih _ _ h' i (by simpa using hi)
  ·cases h
def qhX (l : List It) (bs : List Nat) (n : Nat) : Nat := qiS (unf l) (bs.take n) l.length
theorem ql4 {l : List It} {bs : List Nat} {n : Nat} (h : n < bs.length) : qhX l bs (n + 1) = qhX l bs n + if decide (bs.getD n 0 < l.length) && unf l (bs.getD n 0) then 1 else 0 := by
 unfold qhX qiS
 rw [List.take_succ_eq_append_getElem h, List.filter_append, List.length_append]
 congr 1
 have : bs[n] = bs.getD n 0 := by rw [List.getD_eq_getElem?_getD, List.getElem?_eq_getElem h]; rfl
 rw [this]
 simp only [List.filter_cons, List.filter_nil]
 split <;> rfl
theorem qpM (l : List It) (bs : List Nat) : qhX l bs bs.length = qiS (unf l) bs l.length := by unfold qhX; rw [List.take_length]
theorem qsR (l : List It) (bs : List Nat) (n : Nat) : qhX l bs n ≤ n := by
 unfold qhX qiS
 have := List.length_filter_le (fun b => decide (b < l.length) && unf l b) (bs.take n)
 have := List.length_take_le n bs
 omega
def qhy (f : Nat → Nat) (P : List (Nat × Nat)) (n : Nat) : Int := ((P.take n).map fun p => (f p.2 : Int) - f p.1).sum
theorem qgt (f : Nat → Nat) {P : List (Nat × Nat)} {n : Nat} (h : n < P.length) : qhy f P (n + 1) = qhy f P n + ((f (P.getD n default).2 : Int) - f (P.getD n default).1) := by
 unfold qhy
 have : P[n] = P.getD n default := by rw [List.getD_eq_getElem?_getD, List.getElem?_eq_getElem h]; rfl
 rw [List.take_succ_eq_append_getElem h, ← this, List.map_append, List.sum_append]
 congr 1
 simp only [List.map_cons, List.map_nil, List.sum_cons, List.sum_nil]
 omega
theorem qrq (f : Nat → Nat) {P : List (Nat × Nat)} {L : List (Int × Int)} (h : L = P.map fun p => ((p.1 : Int), (p.2 : Int))) : qhy f P P.length = qr9 f L := by
 unfold qhy qr9
 rw [List.take_length, h, List.map_map]
 rfl
theorem qr7 {s : Sty} {W : Int} {ps : List Pat} {ws : List Wd} {l : List It} {ls : List P48.Line} (h : qff s W ps ws l ls) : s.hy ≠ -10000 ∧ l = zi s ps ws ws.length := by
 have he := h.itE
 have hr := h.itR
 unfold qao at hr
 rw [if_pos he] at hr
 refine ⟨?_, hr⟩
 unfold jd at he
 split at he
 ·cases he
 ·rename_i hro
  have hro : kk s = true := by simpa using hro
  unfold kk at hro
  simp only [Bool.and_eq_true, decide_eq_true_eq] at hro
  omega
theorem qq4 {s : Sty} {W : Int} {ps : List Pat} {ws : List Wd} {l : List It} {ls : List P48.Line} (h : qff s W ps ws l ls) : ∀ i, i < ws.length → ∃ c r, (ws.getD i default).text = c :: r := by
 intro i hi
 have he := h.itE
 unfold jd at he
 split at he
 ·cases he
 ·split at he
  ·cases he
  ·rename_i hx
   have hm : ws.getD i default ∈ ws := by rw [List.getD_eq_getElem?_getD, List.getElem?_eq_getElem hi]; exact List.getElem_mem hi
   have hb : qbp (ws.getD i default) = false := by
    cases hb : qbp (ws.getD i default) with
    | false => rfl
    | true => exact absurd (.inr (List.any_eq_true.2 ⟨_, hm, hb⟩)) hx
   unfold qbp at hb
   simp only [Bool.or_eq_false_iff, decide_eq_false_iff_not] at hb
   cases ht : (ws.getD i default).text with
   | nil => exact absurd ht hb.1
   | cons c r => exact ⟨c, r, rfl⟩
theorem qtQ {s : Sty} {W : Int} {ps : List Pat} {ws : List Wd} {l : List It} {ls : List P48.Line} (h : qff s W ps ws l ls) {P : List (Nat × Nat)} (hP : zg l = P.map fun p => ((p.1 : Int), (p.2 : Int))) :
  qhy (fun k => zd k (P48.brk l W)) P P.length = (qhX l (P48.brk l W) (P48.brk l W).length : Int) := by
 obtain ⟨g1, g2, g3, g4, g5, g6⟩ := qbP h
 obtain ⟨h1, h2⟩ := qr7 h
 have hw : Wds l ws.length := by rw [h2]; exact qdK h1 ps ws ws.length
 rw [qrq _ hP, qpM]
 exact qop (qrE hw) g2 (fun b hb => (g3 b hb).2)
theorem qnX {s : Sty} {W : Int} {ps : List Pat} {ws : List Wd} {l : List It} {ls : List P48.Line} (h : qff s W ps ws l ls) {P : List (Nat × Nat)} (hP : zg l = P.map fun p => ((p.1 : Int), (p.2 : Int))) (hk : ∀ p ∈ P, p.1 ≤ p.2 ∧ p.2 < l.length ∧ (it l p.1).kind = 1 ∧ (it l p.2).kind = 1)
  {i : Nat} (hi : i < ws.length) (hiP : i < P.length) {c : UInt8} {r : List UInt8} (ht : (ws.getD i default).text = c :: r) :
  0 < (ls.getD (zd (P.getD i default).1 (P48.brk l W)) default).text.count c := by
 obtain ⟨g1, g2, g3, g4, g5, g6⟩ := qbP h
 obtain ⟨h1, h2⟩ := qr7 h
 have hst := qkr l
 have hsi := qrf h1 ps ws ws.length
 rw [← h2] at hsi
 rw [hsi, hP, List.map_map, List.map_map] at hst
 have hfi : (P.getD i default).1 = quw s ps ws i := by
  have e := congrArg (fun L => L[i]?) hst
  simp only [List.getElem?_map, List.getElem?_range hi, List.getElem?_eq_getElem hiP, Option.map_some, Function.comp] at e
  have e := Option.some.inj e
  rw [List.getD_eq_getElem?_getD, List.getElem?_eq_getElem hiP]
  have e2 : ((P[i].1 : Nat) : Int) = ((quw s ps ws i : Nat) : Int) := e
  simp only [Option.getD_some]
  omega
 have hm : P.getD i default ∈ P := by rw [List.getD_eq_getElem?_getD, List.getElem?_eq_getElem hiP]; exact List.getElem_mem hiP
 obtain ⟨k1, k2, k3, k4⟩ := hk _ hm
 obtain ⟨w1, w2⟩ := qul s ps ws ws.length hi
 rw [← h2, ← hfi, ht] at w1
 obtain ⟨t, ht2⟩ := qnn ps c r
 rw [ht2] at w1
 rw [List.count_pos_iff]
 refine qjn k3 (by rw [w1]; simp) _ 0 ls g1 (Nat.zero_le _) g2 (fun b hb e => ?_) ⟨l.length, g4, by omega⟩
 have := (g3 b hb).2
 rw [e, qcU (by omega) k3] at this
 cases this
end LN
end
section
open Go Go.Proofs AF HY P48
namespace LN
set_option maxRecDepth 100000
theorem qz6 (s : List UInt8) (c : UInt8) (h : List AObj) : qs Tryz.prog 32 [.str s, .str [c]] h (.int .i64 (Go.Lib.indexByte s c)) h := by
 have c63 := fun h => qz8 s c h
 refine qo qx6 (by simp) ?_
 simp only [lcP, lnP, Nat.reduceAdd, Nat.reduceSub, List.replicate, caP, naP, List.append_nil]
 simp (disch := omega) only [qzk, go_sem, qc, dvP, mdP]
 repeat' first
  | ((first | refine qj (c63 _) ?_ ?_); (next => exact flk); simp (disch := omega) only [go_sem, qc, dvP, mdP])
  | ((first | refine qn (fun _ => c63 _) ?_ ?_); (next => exact flk); simp (disch := omega) only [go_sem, qc, dvP, mdP])
  | ((first | refine qk (fun e => ⟨?_, c63 _⟩) ?_); (next => exact flk); simp (disch := omega) only [go_sem, qc, dvP, mdP])
  | ((first | refine qe ?_ ?_ | refine qg ?_ ?_); (next => exact rvk); simp only [go_sem]; (first | exact VLe.refl _ | refine qh ?_ | refine qd ?_ | refine ql ?_ | skip))
  | with_reducible first | refine And.intro ?_ ?_ | intro _
 all_goals try exact clz
theorem qzW (s : List UInt8) (c : UInt8) (h : List AObj) (g : 0 < s.count c) : qs Tryz.prog 10 [.str s, .str [c]] h (.bool true) h := by
 have c32 := fun h => qz6 s c h
 rw [index_cut c s g] at c32
 have k1 : (0 ≤ ((cutAt c s : Nat) : Int)) = True := eq_true (by omega)
 refine qo qvy (by simp) ?_
 simp only [lcP, lnP, Nat.reduceAdd, Nat.reduceSub, List.replicate, caP, naP, List.append_nil]
 simp (disch := omega) only [qxH, go_sem, qc, dvP, mdP]
 repeat' first
  | ((first | refine qj (c32 _) ?_ ?_); (next => exact flk); simp (disch := omega) only [k1, go_sem, qc, dvP, mdP])
  | ((first | refine qn (fun _ => c32 _) ?_ ?_); (next => exact flk); simp (disch := omega) only [k1, go_sem, qc, dvP, mdP])
  | ((first | refine qk (fun e => ⟨?_, c32 _⟩) ?_); (next => exact flk); simp (disch := omega) only [k1, go_sem, qc, dvP, mdP])
  | ((first | refine qe ?_ ?_ | refine qg ?_ ?_); (next => exact rvk); simp only [go_sem]; (first | exact VLe.refl _ | refine qh ?_ | refine qd ?_ | refine ql ?_ | skip))
  | with_reducible first | refine And.intro ?_ ?_ | intro _
 all_goals try exact clz
set_option maxHeartbeats 16000000 in
theorem a5 (s : Sty) (W : Int) (x : List AV) (ps : List Pat) (ws : List Wd) (h : List AObj) (hps : ps.length ≤ 9223372036854775807) (hws : ws.length ≤ 9223372036854775807) (hx : x.getD 0 .undef = .int .i64 W) :
  qs Tryz.prog 5 [.agg (za s x), qw ps, qt ws] h (.bool true) h := by
 obtain ⟨A, B, b, ⟨f1, f2, f3, f4⟩, c17, hb⟩ := s17 s W x ps ws h hps hws hx
 have hst : za s x = [.int .i64 W, x.getD 1 .undef, x.getD 2 .undef, x.getD 3 .undef, x.getD 4 .undef, .int .i64 s.sp, .int .i64 s.st, .int .i64 s.sh, .int .i64 s.le, .int .i64 s.hy, x.getD 5 .undef, x.getD 6 .undef, x.getD 7 .undef] := by unfold za; rw [hx]
 have c18 := fun h => t10 h
 rw [hst] at c17 ⊢
 cases b with
 | false =>
  unfold qt at c17 ⊢
  unfold qw at c17 ⊢
  refine qo qzO (by simp) ?_
  simp only [lcP, lnP, Nat.reduceAdd, Nat.reduceSub, List.replicate, caP, naP, List.append_nil]
  simp (disch := omega) only [c5z, f1, f2, f3, f4, go_sem, qc, dvP, mdP]
  repeat' first
   | ((first | refine qj (c17 _) ?_ ?_ | refine qj (c18 _) ?_ ?_); (next => exact flk); simp (disch := omega) only [f1, f2, f3, f4, go_sem, qc, dvP, mdP])
   | ((first | refine qn (fun _ => c17 _) ?_ ?_ | refine qn (fun _ => c18 _) ?_ ?_); (next => exact flk); simp (disch := omega) only [f1, f2, f3, f4, go_sem, qc, dvP, mdP])
   | ((first | refine qk (fun e => ⟨?_, c17 _⟩) ?_ | refine qk (fun e => ⟨?_, c18 _⟩) ?_); (next => exact flk); simp (disch := omega) only [f1, f2, f3, f4, go_sem, qc, dvP, mdP])
   | ((first | refine qe ?_ ?_ | refine qg ?_ ?_); (next => exact rvk); simp only [go_sem]; (first | exact VLe.refl _ | refine qh ?_ | refine qd ?_ | refine ql ?_ | skip))
   | with_reducible first | refine And.intro ?_ ?_ | intro _
  all_goals try exact clz
 | true =>
 obtain ⟨l, ls, rfl, rfl, hs⟩ := hb rfl
 obtain ⟨P, p1, p2, p3, p4, p5, p6, p7⟩ := qim hs
 have hn12 := hs.n12
 have hsm := hs.small
 have hsum := qtQ hs p4
 have hbeg := fun (i : Nat) (hi : i < ws.length) (c : UInt8) (r : List UInt8) (ht : (ws.getD i default).text = c :: r) => qnX hs p4 p2 hi (by omega) ht
 obtain ⟨g1, g2, g3, g4, _, _⟩ := qbP hs
 have hto := qjo _ _ _ g1
 have hlb := qae _ _ _ g1
 have c19 := fun h => qxE (t12 l (ls.map kU) h (by omega) (by rw [List.length_map]; omega))
 have c20 := fun h => qxE (t14 l (ls.map kU) h (by omega) (by rw [List.length_map]; omega))
 rw [p6] at c19
 rw [p7] at c20
 simp only at c19 c20
 obtain ⟨bs, hbs⟩ : ∃ bs, bs = P48.brk l W := ⟨_, rfl⟩
 obtain ⟨g, hg⟩ : ∃ g : Nat → Nat, g = fun k => zd k bs := ⟨_, rfl⟩
 have hgl : ∀ k, k < l.length → g k < ls.length := fun k hk => by rw [hg, hbs]; exact p5 k hk
 rw [← hbs] at hsum hto hlb c19 c20
 simp only [← hbs] at hbeg
 rw [← hg] at hsum
 have hto' : ∀ i, i < ls.length → (kU (ls.getD i default)).to = ((bs.getD i 0 : Nat) : Int) := fun i hi => hto i (by omega)
 have hbeg' : ∀ (i : Nat), i < ws.length → ∀ (c : UInt8) (r : List UInt8), (ws.getD i default).text = c :: r → 0 < (ls.getD (g (P.getD i default).1) default).text.count c := fun i hi c r ht => by
  rw [hg]; exact hbeg i hi c r ht
 obtain ⟨av, hav⟩ : ∃ av : List Int, av = P.map fun p => ((g p.1 + 1 : Nat) : Int) := ⟨_, rfl⟩
 obtain ⟨bv, hbv⟩ : ∃ bv : List Int, bv = P.map fun p => ((g p.2 + 1 : Nat) : Int) := ⟨_, rfl⟩
 have ea : (P.map fun p => ((zd p.1 bs + 1 : Nat) : Int)) = av := by rw [hav, hg]
 have eb : (P.map fun p => ((zd p.2 bs + 1 : Nat) : Int)) = bv := by rw [hbv, hg]
 rw [ea] at c19
 rw [eb] at c20
 have la : av.length = ws.length := by rw [hav, List.length_map, p1]
 have lb : bv.length = ws.length := by rw [hbv, List.length_map, p1]
 have hlen : (ls.map kU).length = ls.length := by simp
 have q8 : (ws.length : Int) ≤ 8 := by have := hs.n8; omega
 have hgm : ∀ i j, i ≤ j → g i ≤ g j := fun i j hij => by rw [hg]; exact qbd hij _
 have key : ∀ i, i < ws.length → av.getD i 0 = ((g (P.getD i default).1 + 1 : Nat) : Int) ∧ bv.getD i 0 = ((g (P.getD i default).2 + 1 : Nat) : Int) ∧ g (P.getD i default).1 < ls.length ∧ g (P.getD i default).2 < ls.length ∧ g (P.getD i default).1 ≤ g (P.getD i default).2 := by
  intro i hi
  have hiP : i < P.length := by omega
  have hqm : P.getD i default ∈ P := by rw [List.getD_eq_getElem?_getD, List.getElem?_eq_getElem hiP]; exact List.getElem_mem hiP
  obtain ⟨q1, q2, _, _⟩ := p2 _ hqm
  exact ⟨by rw [hav, qby _ default hiP], by rw [hbv, qby _ default hiP], hgl _ (by omega), hgl _ q2, hgm _ _ q1⟩
 have hsb : ∀ n, n ≤ P.length → 0 ≤ qhy g P n ∧ qhy g P n ≤ 12 * n := by
  intro n
  induction n with
  | zero => intro _; exact ⟨by simp [qhy], by simp [qhy]⟩
  | succ n ih =>
   intro hn
   have := ih (by omega)
   rw [qgt g (by omega)]
   obtain ⟨_, _, k3, k4, k5⟩ := key n (by omega)
   omega
 unfold qt at c17 ⊢
 unfold qw at c17 ⊢
 unfold qD at c17 c19 c20
 unfold qy at c19 c20
 rw [hlen] at c17 c19 c20
 rw [la] at c19
 rw [lb] at c20
 refine qo qzO (by simp) ?_
 simp only [lcP, lnP, Nat.reduceAdd, Nat.reduceSub, List.replicate, caP, naP, List.append_nil]
 simp (disch := omega) only [c5z, go_sem, qc, dvP, mdP]
 repeat' first
  | ((first | refine qj (c17 _) ?_ ?_ | refine qj (c19 _) ?_ ?_ | refine qj (c20 _) ?_ ?_); (next => exact flk); simp (disch := omega) only [go_sem, qc, dvP, mdP])
  | ((first | refine qn (fun _ => c17 _) ?_ ?_ | refine qn (fun _ => c19 _) ?_ ?_ | refine qn (fun _ => c20 _) ?_ ?_); (next => exact flk); simp (disch := omega) only [go_sem, qc, dvP, mdP])
  | ((first | refine qk (fun e => ⟨?_, c17 _⟩) ?_ | refine qk (fun e => ⟨?_, c19 _⟩) ?_ | refine qk (fun e => ⟨?_, c20 _⟩) ?_); (next => exact flk); simp (disch := omega) only [go_sem, qc, dvP, mdP])
  | ((first | refine qe ?_ ?_ | refine qg ?_ ?_); (next => exact rvk); simp only [go_sem]; (first | exact VLe.refl _ | refine qh ?_ | refine qd ?_ | refine ql ?_ | skip))
  | with_reducible first | refine And.intro ?_ ?_ | intro _
 all_goals try exact clz
 have hPws : P.length = ws.length := p1
 have hbl : bs.length = ls.length := hlb.symm
 have hBle : ∀ k, k < ls.length → bs.getD k 0 ≤ l.length := fun k hk => by
  have hm : bs.getD k 0 ∈ bs := by rw [List.getD_eq_getElem?_getD, List.getElem?_eq_getElem (by omega)]; exact List.getElem_mem (by omega)
  rw [hbs] at hm
  have := (g3 _ hm).1
  rw [hbs]
  exact this
 obtain ⟨SO, hSO⟩ : ∃ SO, SO = AObj.mem 1 25 [.int .i64 W, x.getD 1 .undef, x.getD 2 .undef, x.getD 3 .undef, x.getD 4 .undef, .int .i64 s.sp, .int .i64 s.st, .int .i64 s.sh, .int .i64 s.le, .int .i64 s.hy, x.getD 5 .undef, x.getD 6 .undef, x.getD 7 .undef] := ⟨_, rfl⟩
 rw [← hSO]
 refine qJ (T := fun i : Nat => qv 162 [(2, .sl ws.length fun i => qY (ws.getD i default)), (7, qu l), (8, .sl ls.length fun i => qN ((ls.map kU).getD i default)), (10, .sl ws.length fun i => [.int .i64 (av.getD i 0)]), (12, .sl ws.length fun i => [.int .i64 (bv.getD i 0)]), (14, .int .i64 (qhy g P i)), (15, .int .i64 0), (65, .int .i64 ws.length), (66, .int .i64 i)])
  (H := fun _ => h ++ [SO, .emp 0, .emp 0]) (inv := fun i => i ≤ ws.length) (m := fun i => ws.length - i) 0 (Nat.zero_le _) (Wk.temps ?_) ?_
 ·have e0 : qhy g P 0 = 0 := by simp [qhy]
  (simp only [e0, qv, List.foldl, List.replicate, go_sem, qr, qp, qm, qq]; try (repeat' first | (with_reducible refine And.intro ?_ ?_) | (refine qh ?_; omega) | (refine qd ?_; rfl) | exact VLe.refl _))
 rintro i i1 K hK
 by_cases hi : i < ws.length
 ·obtain ⟨r1, r2, r3, r4, r5⟩ := key i hi
  obtain ⟨b1, b2⟩ := hsb i (by omega)
  have hS := qgt g (P := P) (n := i) (by omega)
  obtain ⟨X, hX⟩ : ∃ X, X = av.getD i 0 := ⟨_, rfl⟩
  obtain ⟨Y, hY⟩ : ∃ Y, Y = bv.getD i 0 := ⟨_, rfl⟩
  obtain ⟨S, hS0⟩ : ∃ S, S = qhy g P i := ⟨_, rfl⟩
  have eX := hX.symm
  have eY := hY.symm
  rw [eX] at r1
  rw [eY] at r2
  rw [← hS0] at b1 b2 hS ⊢
  have y0 : ((i : Int) < ws.length) = True := eq_true (by omega)
  have hS' : S + (Y - X) = qhy g P (i + 1) := by rw [hS, r1, r2]; omega
  have hX0 : 0 ≤ X ∧ X ≤ 13 := by omega
  have hY0 : 0 ≤ Y ∧ Y ≤ 13 := by omega
  simp (disch := omega) only [qv, List.foldl, List.replicate, eX, eY, y0, go_sem, qc, dvP, mdP]
  repeat' first
   | ((first | refine qe ?_ ?_ | refine qg ?_ ?_); (next => exact rvk); simp only [go_sem]; (first | exact VLe.refl _ | refine qh ?_ | refine qd ?_ | refine ql ?_ | skip))
   | with_reducible first | refine And.intro ?_ ?_ | intro _
  all_goals try exact clz
  refine hK _ _ (i + 1) (by omega) (by omega) (Wk.temps ?_)
  rw [← hS']
  (simp only [qv, List.foldl, List.replicate, go_sem, qr, qp, qm, qq]; try (repeat' first | (with_reducible refine And.intro ?_ ?_) | (refine qh ?_; omega) | (refine qd ?_; rfl) | exact VLe.refl _))
 have ei : i = ws.length := by omega
 subst ei
 have y0 : ((ws.length : Int) < ws.length) = False := eq_false (by omega)
 simp (disch := omega) only [qv, List.foldl, List.replicate, y0, go_sem, qc, dvP, mdP]
 repeat' first
  | ((first | refine qe ?_ ?_ | refine qg ?_ ?_); (next => exact rvk); simp only [go_sem]; (first | exact VLe.refl _ | refine qh ?_ | refine qd ?_ | refine ql ?_ | skip))
  | with_reducible first | refine And.intro ?_ ?_ | intro _
 all_goals try exact clz
 rw [← hPws, hsum, hbl]
 rw [hPws]
 refine qJ (T := fun k : Nat × AObj => qv 162 [(2, .sl ws.length fun i => qY (ws.getD i default)), (7, qu l), (8, .sl ls.length fun i => qN ((ls.map kU).getD i default)), (10, .sl ws.length fun i => [.int .i64 (av.getD i 0)]), (14, .int .i64 (qhX l bs ls.length : Nat)), (15, .int .i64 (qhX l bs k.1 : Nat)), (81, .sl ls.length fun i => qN ((ls.map kU).getD i default)), (82, .int .i64 ls.length), (83, .int .i64 k.1)])
  (H := fun k => h ++ [SO, k.2, .emp 0]) (inv := fun k => k.1 ≤ ls.length ∧ zf [k.2] 0 = true) (m := fun k => ls.length - k.1) (0, .emp 0) ⟨Nat.zero_le _, rfl⟩ (Wk.temps ?_) ?_
 ·have e0 : qhX l bs 0 = 0 := by simp [qhX, qiS]
  have e1 : ((0 : Nat) : Int) = 0 := rfl
  (simp only [e0, e1, qv, List.foldl, List.replicate, go_sem, qr, qp, qm, qq]; try (repeat' first | (with_reducible refine And.intro ?_ ?_) | (refine qh ?_; omega) | (refine qd ?_; rfl) | exact VLe.refl _))
 rintro ⟨k, O⟩ ⟨k1, k2⟩ K2 hK2
 simp only at k1 k2 hK2
 have k2' : ∀ m, zf (O :: m) 0 = true := fun _ => k2
 by_cases hk : k < ls.length
 ·have y1 : ((k : Int) < ls.length) = True := eq_true (by omega)
  obtain ⟨y, hy⟩ : ∃ y, y = (ls.map kU).getD k default := ⟨_, rfl⟩
  have ey := hy.symm
  have hyl : y = kU (ls.getD k default) := by
   rw [hy, List.getD_eq_getElem?_getD, List.getD_eq_getElem?_getD, List.getElem?_map, List.getElem?_eq_getElem hk]; rfl
  obtain ⟨B, hB⟩ : ∃ B, B = bs.getD k 0 := ⟨_, rfl⟩
  have et : y.to = (B : Int) := by rw [hyl, hto' k hk, hB]
  have hBl := hBle k hk
  have hE := ql4 (l := l) (bs := bs) (n := k) (by omega)
  rw [← hB] at hBl hE
  have hEl := qsR l bs k
  obtain ⟨E, hE0⟩ : ∃ E, E = qhX l bs k := ⟨_, rfl⟩
  rw [← hE0] at hE hEl ⊢
  have y2 : ((0 : Int) ≤ (B : Int)) = True := eq_true (by omega)
  by_cases hBl2 : B < l.length
  ·have y3 : ((B : Int) < l.length) = True := eq_true (by omega)
   rw [decide_eq_true hBl2, Bool.true_and] at hE
   by_cases c1 : (it l B).kind = 3
   ·have y4 : ((it l B).kind = 3) = True := eq_true c1
    by_cases c2 : (it l B).penalty = -10000
    ·have y5 : ((it l B).penalty = -10000) = True := eq_true c2
     have hu : unf l B = false := by unfold unf; rw [c2]; simp
     rw [if_neg (by rw [hu]; simp)] at hE
     simp (disch := omega) only [qv, qu, qH, qN, List.foldl, List.replicate, k2', ey, et, y1, y2, y3, y4, y5, Int.toNat_natCast, go_sem, qc, dvP, mdP]
     repeat' first
      | ((first | refine qe ?_ ?_ | refine qg ?_ ?_); (next => exact rvk); simp only [go_sem]; (first | exact VLe.refl _ | refine qh ?_ | refine qd ?_ | refine ql ?_ | skip))
      | with_reducible first | refine And.intro ?_ ?_ | intro _
     all_goals try exact clz
     refine hK2 _ _ (k + 1, .mem (qA (some O) + 1) 49 [.int .i64 y.frm, .int .i64 B, .int .i64 y.bad, .int .i64 y.chg, .str y.text]) ⟨hk, rfl⟩ (by simp only; omega) (Wk.temps ?_)
     rw [hE]
     (simp only [qu, qH, qN, qv, List.foldl, List.replicate, go_sem, qr, qp, qm, qq]; try (repeat' first | (with_reducible refine And.intro ?_ ?_) | (refine qh ?_; omega) | (refine qd ?_; rfl) | exact VLe.refl _))
    ·have y5 : ((it l B).penalty = -10000) = False := eq_false c2
     have hu : unf l B = true := by unfold unf; rw [decide_eq_true c1, decide_eq_true c2]; rfl
     rw [if_pos hu] at hE
     have e2 : ((E + 1 : Nat) : Int) = (E : Int) + 1 := by omega
     simp (disch := omega) only [qv, qu, qH, qN, List.foldl, List.replicate, k2', ey, et, y1, y2, y3, y4, y5, Int.toNat_natCast, go_sem, qc, dvP, mdP]
     repeat' first
      | ((first | refine qe ?_ ?_ | refine qg ?_ ?_); (next => exact rvk); simp only [go_sem]; (first | exact VLe.refl _ | refine qh ?_ | refine qd ?_ | refine ql ?_ | skip))
      | with_reducible first | refine And.intro ?_ ?_ | intro _
     all_goals try exact clz
     refine hK2 _ _ (k + 1, .mem (qA (some O) + 1) 49 [.int .i64 y.frm, .int .i64 B, .int .i64 y.bad, .int .i64 y.chg, .str y.text]) ⟨hk, rfl⟩ (by simp only; omega) (Wk.temps ?_)
     rw [hE, e2]
     (simp only [qu, qH, qN, qv, List.foldl, List.replicate, go_sem, qr, qp, qm, qq]; try (repeat' first | (with_reducible refine And.intro ?_ ?_) | (refine qh ?_; omega) | (refine qd ?_; rfl) | exact VLe.refl _))
   ·have y4 : ((it l B).kind = 3) = False := eq_false c1
    have hu : unf l B = false := by unfold unf; rw [decide_eq_false c1]; rfl
    rw [if_neg (by rw [hu]; simp)] at hE
    simp (disch := omega) only [qv, qu, qH, qN, List.foldl, List.replicate, k2', ey, et, y1, y2, y3, y4, Int.toNat_natCast, go_sem, qc, dvP, mdP]
    repeat' first
     | ((first | refine qe ?_ ?_ | refine qg ?_ ?_); (next => exact rvk); simp only [go_sem]; (first | exact VLe.refl _ | refine qh ?_ | refine qd ?_ | refine ql ?_ | skip))
     | with_reducible first | refine And.intro ?_ ?_ | intro _
    all_goals try exact clz
    refine hK2 _ _ (k + 1, .mem (qA (some O) + 1) 49 [.int .i64 y.frm, .int .i64 B, .int .i64 y.bad, .int .i64 y.chg, .str y.text]) ⟨hk, rfl⟩ (by simp only; omega) (Wk.temps ?_)
    rw [hE]
    (simp only [qu, qH, qN, qv, List.foldl, List.replicate, go_sem, qr, qp, qm, qq]; try (repeat' first | (with_reducible refine And.intro ?_ ?_) | (refine qh ?_; omega) | (refine qd ?_; rfl) | exact VLe.refl _))
  ·have y3 : ((B : Int) < l.length) = False := eq_false (by omega)
   rw [decide_eq_false hBl2, Bool.false_and, if_neg (by simp)] at hE
   simp (disch := omega) only [qv, qu, qH, qN, List.foldl, List.replicate, k2', ey, et, y1, y2, y3, Int.toNat_natCast, go_sem, qc, dvP, mdP]
   repeat' first
    | ((first | refine qe ?_ ?_ | refine qg ?_ ?_); (next => exact rvk); simp only [go_sem]; (first | exact VLe.refl _ | refine qh ?_ | refine qd ?_ | refine ql ?_ | skip))
    | with_reducible first | refine And.intro ?_ ?_ | intro _
   all_goals try exact clz
   refine hK2 _ _ (k + 1, .mem (qA (some O) + 1) 49 [.int .i64 y.frm, .int .i64 B, .int .i64 y.bad, .int .i64 y.chg, .str y.text]) ⟨hk, rfl⟩ (by simp only; omega) (Wk.temps ?_)
   rw [hE]
   (simp only [qu, qH, qN, qv, List.foldl, List.replicate, go_sem, qr, qp, qm, qq]; try (repeat' first | (with_reducible refine And.intro ?_ ?_) | (refine qh ?_; omega) | (refine qd ?_; rfl) | exact VLe.refl _))
 have ek : k = ls.length := by omega
 subst ek
 have y1 : ((ls.length : Int) < ls.length) = False := eq_false (by omega)
 simp (disch := omega) only [qv, List.foldl, List.replicate, y1, go_sem, qc, dvP, mdP]
 repeat' first
  | ((first | refine qe ?_ ?_ | refine qg ?_ ?_); (next => exact rvk); simp only [go_sem]; (first | exact VLe.refl _ | refine qh ?_ | refine qd ?_ | refine ql ?_ | skip))
  | with_reducible first | refine And.intro ?_ ?_ | intro _
 all_goals try exact clz
 obtain ⟨E, hE0⟩ : ∃ E, E = qhX l bs ls.length := ⟨_, rfl⟩
 rw [← hE0]
 refine qJ (T := fun k : Nat × AObj => qv 162 [(8, .sl ls.length fun i => qN ((ls.map kU).getD i default)), (10, .sl ws.length fun i => [.int .i64 (av.getD i 0)]), (14, .int .i64 (E : Nat)), (15, .int .i64 (E : Nat)), (118, .sl ws.length fun i => qY (ws.getD i default)), (119, .int .i64 ws.length), (120, .int .i64 k.1)])
  (H := fun k => h ++ [SO, O, k.2]) (inv := fun k => k.1 ≤ ws.length ∧ zf [k.2] 0 = true) (m := fun k => ws.length - k.1) (0, .emp 0) ⟨Nat.zero_le _, rfl⟩ (Wk.temps ?_) ?_
 ·(simp only [qv, List.foldl, List.replicate, go_sem, qr, qp, qm, qq]; try (repeat' first | (with_reducible refine And.intro ?_ ?_) | (refine qh ?_; omega) | (refine qd ?_; rfl) | exact VLe.refl _))
 rintro ⟨i, Q⟩ ⟨i1, i2⟩ K3 hK3
 simp only at i1 i2 hK3
 have i2' : ∀ m, zf (Q :: m) 0 = true := fun _ => i2
 by_cases hi : i < ws.length
 ·obtain ⟨r1, r2, r3, r4, r5⟩ := key i hi
  have y0 : ((i : Int) < ws.length) = True := eq_true (by omega)
  obtain ⟨w, hw⟩ : ∃ w, w = ws.getD i default := ⟨_, rfl⟩
  have ew := hw.symm
  obtain ⟨c, r, ht⟩ := qq4 hs i hi
  have hcnt := hbeg' i hi c r ht
  rw [ew] at ht
  obtain ⟨G, hG⟩ : ∃ G, G = g (P.getD i default).1 := ⟨_, rfl⟩
  rw [← hG] at r1 r3 hcnt
  obtain ⟨y, hy⟩ : ∃ y, y = (ls.map kU).getD G default := ⟨_, rfl⟩
  have ey := hy.symm
  have hyl : y.text = (ls.getD G default).text := by
   rw [hy, List.getD_eq_getElem?_getD, List.getD_eq_getElem?_getD, List.getElem?_map, List.getElem?_eq_getElem r3]; rfl
  rw [← hyl] at hcnt
  have c10 := fun h => qzW y.text c h hcnt
  have ex : av.getD i 0 = (G : Int) + 1 := by rw [r1]; omega
  have y2 : ((G : Int) + 1 < 1) = False := eq_false (by omega)
  have y3 : ((ls.length : Int) < (G : Int) + 1) = False := eq_false (by omega)
  have y4 : ((G : Int) < ls.length) = True := eq_true (by omega)
  have tk : (c :: r).take 1 = [c] := rfl
  simp (disch := omega) only [qv, qN, qY, List.foldl, List.replicate, i2', ew, ht, ex, ey, y0, y2, y3, y4, tk, Int.add_sub_cancel, Int.toNat_natCast, go_sem, qc, dvP, mdP]
  repeat' first
   | ((first | refine qj (c10 _) ?_ ?_); (next => exact flk); simp (disch := omega) only [qN, qY, i2', ew, ht, ex, ey, y0, y2, y3, y4, tk, Int.add_sub_cancel, Int.toNat_natCast, go_sem, qc, dvP, mdP])
   | ((first | refine qn (fun _ => c10 _) ?_ ?_); (next => exact flk); simp (disch := omega) only [qN, qY, i2', ew, ht, ex, ey, y0, y2, y3, y4, tk, Int.add_sub_cancel, Int.toNat_natCast, go_sem, qc, dvP, mdP])
   | ((first | refine qk (fun e => ⟨?_, c10 _⟩) ?_); (next => exact flk); simp (disch := omega) only [qN, qY, i2', ew, ht, ex, ey, y0, y2, y3, y4, tk, Int.add_sub_cancel, Int.toNat_natCast, go_sem, qc, dvP, mdP])
   | ((first | refine qe ?_ ?_ | refine qg ?_ ?_); (next => exact rvk); simp only [go_sem]; (first | exact VLe.refl _ | refine qh ?_ | refine qd ?_ | refine ql ?_ | skip))
   | with_reducible first | refine And.intro ?_ ?_ | intro _
  all_goals try exact clz
  refine hK3 _ _ (i + 1, .mem (qA (some Q) + 1) 33 [.str (c :: r), .int .i64 w.col, .int .i64 w.unit, .int .i64 w.dec, .bool w.joined, .bool w.verse, .str w.name]) ⟨hi, rfl⟩ (by simp only; omega) (Wk.temps ?_)
  (simp only [qY, qN, ht, qv, List.foldl, List.replicate, go_sem, qr, qp, qm, qq]; try (repeat' first | (with_reducible refine And.intro ?_ ?_) | (refine qh ?_; omega) | (refine qd ?_; rfl) | exact VLe.refl _))
 have ei : i = ws.length := by omega
 subst ei
 have y0 : ((ws.length : Int) < ws.length) = False := eq_false (by omega)
 simp (disch := omega) only [qv, List.foldl, List.replicate, y0, go_sem, qc, dvP, mdP]
 repeat' first
  | ((first | refine qj (c18 _) ?_ ?_); (next => exact flk); simp (disch := omega) only [y0, go_sem, qc, dvP, mdP])
  | ((first | refine qn (fun _ => c18 _) ?_ ?_); (next => exact flk); simp (disch := omega) only [y0, go_sem, qc, dvP, mdP])
  | ((first | refine qk (fun e => ⟨?_, c18 _⟩) ?_); (next => exact flk); simp (disch := omega) only [y0, go_sem, qc, dvP, mdP])
  | ((first | refine qe ?_ ?_ | refine qg ?_ ?_); (next => exact rvk); simp only [go_sem]; (first | exact VLe.refl _ | refine qh ?_ | refine qd ?_ | refine ql ?_ | skip))
  | with_reducible first | refine And.intro ?_ ?_ | intro _
 all_goals try exact clz
end LN
end
section
namespace Go.Proofs
open Go.Shelf
def Tryz.lays160_ren : Go.Shelf.Ren := ⟨fun | 160 => 9 | 232 => 26 | 231 => 25 | 227 => 27 | 234 => 29 | 233 => 28 | 236 => 31 | 235 => 30 | 228 => 59 | 271 => 62 | 151 => 61 | 197 => 60 | 120 => 91 | 152 => 90 | 260 => 89 | 137 => 123 | 119 => 124 | 224 => 94 | 225 => 93 | 217 => 92 | 266 => 125 | n => n, fun | 9 => 9 | 4 => 4 | 3 => 3 | 5 => 5 | 117 => 67 | 116 => 66 | 0 => 0 | 124 => 70 | 21 => 21 | 105 => 98 | 46 => 141 | 119 => 159 | 139 => 162 | 138 => 161 | n => n, fun | 3 => 1 | 4 => 2 | n => n⟩
theorem Tryz.lays160 : Go.Proofs.Lays.n160 Tryz.prog Tryz.lays160_ren := {
 mixed := by kernel_rfl
 f119 := Tryz.func124.trans (congrArg some (by kernel_rfl))
 f120 := Tryz.func91.trans (congrArg some (by kernel_rfl))
 f137 := Tryz.func123.trans (congrArg some (by kernel_rfl))
 f151 := Tryz.func61.trans (congrArg some (by kernel_rfl))
 f152 := Tryz.func90.trans (congrArg some (by kernel_rfl))
 f160 := Tryz.func9.trans (congrArg some (by kernel_rfl))
 f197 := Tryz.func60.trans (congrArg some (by kernel_rfl))
 f217 := Tryz.func92.trans (congrArg some (by kernel_rfl))
 f224 := Tryz.func94.trans (congrArg some (by kernel_rfl))
 f225 := Tryz.func93.trans (congrArg some (by kernel_rfl))
 f227 := Tryz.func27.trans (congrArg some (by kernel_rfl))
 f228 := Tryz.func59.trans (congrArg some (by kernel_rfl))
 f231 := Tryz.func25.trans (congrArg some (by kernel_rfl))
 f232 := Tryz.func26.trans (congrArg some (by kernel_rfl))
 f233 := Tryz.func28.trans (congrArg some (by kernel_rfl))
 f234 := Tryz.func29.trans (congrArg some (by kernel_rfl))
 f235 := Tryz.func30.trans (congrArg some (by kernel_rfl))
 f236 := Tryz.func31.trans (congrArg some (by kernel_rfl))
 f260 := Tryz.func89.trans (congrArg some (by kernel_rfl))
 f266 := Tryz.func125.trans (congrArg some (by kernel_rfl))
 f271 := Tryz.func62.trans (congrArg some (by kernel_rfl))
 t0 := Tryz.underlying0
 a0 := Tryz.isAgg0
 z0 := Tryz.sizeOf0
 v0 := Tryz.zeroValue0
 t3 := Tryz.underlying3
 a3 := Tryz.isAgg3
 z3 := Tryz.sizeOf3
 v3 := Tryz.zeroValue3
 t4 := Tryz.underlying4
 a4 := Tryz.isAgg4
 z4 := Tryz.sizeOf4
 v4 := Tryz.zeroValue4
 t5 := Tryz.underlying5
 a5 := Tryz.isAgg5
 z5 := Tryz.sizeOf5
 v5 := Tryz.zeroValue5
 t9 := Tryz.underlying9
 a9 := Tryz.isAgg9
 z9 := Tryz.sizeOf9
 v9 := Tryz.zeroValue9
 t21 := Tryz.underlying21
 a21 := Tryz.isAgg21
 z21 := Tryz.sizeOf21
 v21 := Tryz.zeroValue21
 t46 := Tryz.underlying141
 a46 := Tryz.isAgg141
 z46 := Tryz.sizeOf141
 v46 := Tryz.zeroValue141
 t105 := Tryz.underlying98
 a105 := Tryz.isAgg98
 z105 := Tryz.sizeOf98
 v105 := Tryz.zeroValue98
 t116 := Tryz.underlying66
 a116 := Tryz.isAgg66
 z116 := Tryz.sizeOf66
 t117 := Tryz.underlying67
 a117 := Tryz.isAgg67
 z117 := Tryz.sizeOf67
 v117 := Tryz.zeroValue67
 t119 := Tryz.underlying159
 a119 := Tryz.isAgg159
 z119 := Tryz.sizeOf159
 t124 := Tryz.underlying70
 a124 := Tryz.isAgg70
 z124 := Tryz.sizeOf70
 v124 := Tryz.zeroValue70
 t138 := Tryz.underlying161
 a138 := Tryz.isAgg161
 z138 := Tryz.sizeOf161
 v138 := Tryz.zeroValue161
 t139 := Tryz.underlying162
 a139 := Tryz.isAgg162
 z139 := Tryz.sizeOf162
 v139 := Tryz.zeroValue162
 g3 := by kernel_rfl
 g4 := by kernel_rfl }
def Tryz.lays155_ren : Go.Shelf.Ren := ⟨fun | 155 => 16 | 154 => 48 | 138 => 82 | 165 => 83 | 143 => 32 | 166 => 78 | 197 => 60 | 169 => 80 | 195 => 114 | 218 => 115 | 240 => 113 | 241 => 116 | 219 => 63 | 260 => 89 | 276 => 134 | 277 => 135 | 217 => 92 | 225 => 93 | 224 => 94 | 267 => 95 | 266 => 125 | 314 => 126 | n => n, fun | 9 => 9 | 3 => 3 | 4 => 4 | 72 => 122 | 0 => 0 | 76 => 125 | 105 => 98 | 21 => 21 | 5 => 5 | 70 => 119 | 20 => 20 | 37 => 120 | 75 => 124 | 127 => 152 | 164 => 175 | 46 => 141 | 119 => 159 | 139 => 162 | 138 => 161 | 146 => 165 | 51 => 164 | 80 => 128 | n => n, fun | 1 => 0 | 3 => 1 | 4 => 2 | n => n⟩
theorem Tryz.lays155 : Go.Proofs.Lays.n155 Tryz.prog Tryz.lays155_ren := {
 mixed := by kernel_rfl
 f138 := Tryz.func82.trans (congrArg some (by kernel_rfl))
 f143 := Tryz.func32.trans (congrArg some (by kernel_rfl))
 f154 := Tryz.func48.trans (congrArg some (by kernel_rfl))
 f155 := Tryz.func16.trans (congrArg some (by kernel_rfl))
 f165 := Tryz.func83.trans (congrArg some (by kernel_rfl))
 f166 := Tryz.func78.trans (congrArg some (by kernel_rfl))
 f169 := Tryz.func80.trans (congrArg some (by kernel_rfl))
 f195 := Tryz.func114.trans (congrArg some (by kernel_rfl))
 f197 := Tryz.func60.trans (congrArg some (by kernel_rfl))
 f217 := Tryz.func92.trans (congrArg some (by kernel_rfl))
 f218 := Tryz.func115.trans (congrArg some (by kernel_rfl))
 f219 := Tryz.func63.trans (congrArg some (by kernel_rfl))
 f224 := Tryz.func94.trans (congrArg some (by kernel_rfl))
 f225 := Tryz.func93.trans (congrArg some (by kernel_rfl))
 f240 := Tryz.func113.trans (congrArg some (by kernel_rfl))
 f241 := Tryz.func116.trans (congrArg some (by kernel_rfl))
 f260 := Tryz.func89.trans (congrArg some (by kernel_rfl))
 f266 := Tryz.func125.trans (congrArg some (by kernel_rfl))
 f267 := Tryz.func95.trans (congrArg some (by kernel_rfl))
 f276 := Tryz.func134.trans (congrArg some (by kernel_rfl))
 f277 := Tryz.func135.trans (congrArg some (by kernel_rfl))
 f314 := Tryz.func126.trans (congrArg some (by kernel_rfl))
 t0 := Tryz.underlying0
 a0 := Tryz.isAgg0
 z0 := Tryz.sizeOf0
 v0 := Tryz.zeroValue0
 t3 := Tryz.underlying3
 a3 := Tryz.isAgg3
 z3 := Tryz.sizeOf3
 v3 := Tryz.zeroValue3
 t4 := Tryz.underlying4
 a4 := Tryz.isAgg4
 z4 := Tryz.sizeOf4
 v4 := Tryz.zeroValue4
 t5 := Tryz.underlying5
 a5 := Tryz.isAgg5
 z5 := Tryz.sizeOf5
 v5 := Tryz.zeroValue5
 t9 := Tryz.underlying9
 a9 := Tryz.isAgg9
 z9 := Tryz.sizeOf9
 v9 := Tryz.zeroValue9
 t20 := Tryz.underlying20
 a20 := Tryz.isAgg20
 z20 := Tryz.sizeOf20
 v20 := Tryz.zeroValue20
 t21 := Tryz.underlying21
 a21 := Tryz.isAgg21
 z21 := Tryz.sizeOf21
 v21 := Tryz.zeroValue21
 t37 := Tryz.underlying120
 a37 := Tryz.isAgg120
 z37 := Tryz.sizeOf120
 v37 := Tryz.zeroValue120
 t46 := Tryz.underlying141
 a46 := Tryz.isAgg141
 z46 := Tryz.sizeOf141
 v46 := Tryz.zeroValue141
 t51 := Tryz.underlying164
 a51 := Tryz.isAgg164
 z51 := Tryz.sizeOf164
 v51 := Tryz.zeroValue164
 t70 := Tryz.underlying119
 a70 := Tryz.isAgg119
 z70 := Tryz.sizeOf119
 v70 := Tryz.zeroValue119
 t72 := Tryz.underlying122
 a72 := Tryz.isAgg122
 z72 := Tryz.sizeOf122
 v72 := Tryz.zeroValue122
 t75 := Tryz.underlying124
 a75 := Tryz.isAgg124
 z75 := Tryz.sizeOf124
 v75 := Tryz.zeroValue124
 t76 := Tryz.underlying125
 a76 := Tryz.isAgg125
 z76 := Tryz.sizeOf125
 v76 := Tryz.zeroValue125
 t105 := Tryz.underlying98
 a105 := Tryz.isAgg98
 z105 := Tryz.sizeOf98
 v105 := Tryz.zeroValue98
 t119 := Tryz.underlying159
 a119 := Tryz.isAgg159
 z119 := Tryz.sizeOf159
 t127 := Tryz.underlying152
 a127 := Tryz.isAgg152
 z127 := Tryz.sizeOf152
 v127 := Tryz.zeroValue152
 t138 := Tryz.underlying161
 a138 := Tryz.isAgg161
 z138 := Tryz.sizeOf161
 v138 := Tryz.zeroValue161
 t139 := Tryz.underlying162
 a139 := Tryz.isAgg162
 z139 := Tryz.sizeOf162
 v139 := Tryz.zeroValue162
 t146 := Tryz.underlying165
 a146 := Tryz.isAgg165
 z146 := Tryz.sizeOf165
 v146 := Tryz.zeroValue165
 t164 := Tryz.underlying175
 a164 := Tryz.isAgg175
 z164 := Tryz.sizeOf175
 v164 := Tryz.zeroValue175
 g1 := by kernel_rfl
 g3 := by kernel_rfl
 g4 := by kernel_rfl }
theorem Tryz.Builder_Extra_155 : Builder.Extra Tryz.prog Tryz.lays155_ren := {
 sizeBuilder := by kernel_rfl
 liesBuilder := by kernel_rfl
 t5 := Tryz.underlying5
 a5 := Tryz.isAgg5
 z5 := Tryz.sizeOf5
 v5 := Tryz.zeroValue5
 infoByte := by kernel_rfl
 cellsByte := by kernel_rfl
 sizeByte := by kernel_rfl
 neB5 := by decide }
open Go.RowKit in
theorem Tryz.strings_Trim_laid (s cutset : ByteArray) (w : World) (hs : s.size ≤ 9223372036854775807) (hcs : cutset.size < 4294967281) (hascii : ∀ (j : Nat) b, cutset.data.toList[j]? = some b → b.toNat < 128) :
  Calls Tryz.prog 9 #[.string s, .string cutset] w fun e w' => e = .returned (.string ⟨(Lib.trimS s.data.toList cutset.data.toList).toArray⟩) ∧ Below w.heap.size w w' := Any.strings_Trim_laid Tryz.lays160 (by kernel_rfl) s cutset w hs hcs hascii
end Go.Proofs
end
section
set_option linter.unusedVariables false
namespace Go.Proofs
open Go.Shelf Go.RowKit Go.Lib
theorem jW {p : Prop} (h : p) : Hid p := h
set_option maxHeartbeats 1000000 in
set_option maxRecDepth 100000 in
theorem qfu (s : ByteArray) (c : UInt8) (w : World) :
  Calls Tryz.prog 82 #[.string s, .string ⟨#[c]⟩] w fun e w' => e = .returned (.int .i64 (Lib.countByte s.data.toList c)) ∧ w' = w := by
 go_enter Tryz.func82, Tryz.ntmps82
 go_wp2
 rw [run_callFunc_extern Tryz.func115 (by kernel_rfl) (by kernel_rfl) (by kernel_rfl) (e := Extern.BytealgCount.count) (by kernel_rfl), Lib.run_countString]
 simp only [Result.andThen]
 rw [Oper.upon_value]
 go_wp2
 go_ret
 exact ⟨rfl, rfl⟩
theorem qjc (b n : Nat) (w : World) (hb : w.heap[b]? = some (.cells #[.pointer none, .slice none 0 0] 122 (0, 0))) (hBw : b ≤ w.heap.size) (hn : n ≤ 281474976710656) :
  Calls Tryz.prog 83 #[.pointer (some ⟨b, 0, none⟩), .int .i64 n] w fun e w' => e = .returned (.tuple #[]) ∧ (Lib.BuilderAt 122 5 b b (.pointer (some ⟨b, 0, none⟩)) [] w' ∧ Below b w w') :=
 Any.Builder_Grow_fresh { Tryz.lays155 with } Tryz.Builder_Extra_155 b b n w (Nat.le_refl _) hb hBw hn
theorem qfa (B b : Nat) (bs : List Value) (s : ByteArray) (w : World) (h : Lib.IsBuilder 122 5 B b bs w) (hlen : bs.length + s.size ≤ 140737488355328) (hBw : B ≤ w.heap.size) :
  Calls Tryz.prog 78 #[.pointer (some ⟨b, 0, none⟩), .string s] w fun e w' => e = .returned (.tuple #[.int .i64 s.size, .nilIface]) ∧ (Lib.BuilderAt 122 5 B b (.pointer (some ⟨b, 0, none⟩)) (bs ++ Lib.strCells s) w' ∧ Below B w w') :=
 Any.Builder_WriteString { Tryz.lays155 with } Tryz.Builder_Extra_155 B b bs s w h hlen hBw
theorem qre (B b : Nat) (l : List UInt8) (w : World) (h : Lib.IsBuilder 122 5 B b (Lib.byteCells l) w) (hBw : B ≤ w.heap.size) :
  Calls Tryz.prog 80 #[.pointer (some ⟨b, 0, none⟩)] w fun e w' => e = .returned (.string ⟨l.toArray⟩) ∧ Below B w w' :=
 Any.Builder_String_any { Tryz.lays155 with } Tryz.Builder_Extra_155 B b l w h hBw
theorem qi0 (c : UInt8) : ∀ l : List UInt8, 0 < l.count c → l.filter (· != c) = l.take (HY.cutAt c l) ++ (l.drop (HY.cutAt c l + 1)).filter (· != c) := by
 intro l
 induction l with
 | nil => intro h; simp at h
 | cons a l ih =>
  intro h
  rw [HY.cutAt_cons]
  by_cases e : a = c
  ·rw [if_pos e]; simp [e]
  ·rw [if_neg e, List.filter_cons, if_pos (by simpa using e), List.take_succ_cons, List.drop_succ_cons, List.cons_append]
   rw [List.count_cons, if_neg (by simpa using e)] at h
   rw [← ih (by omega)]
set_option maxHeartbeats 16000000 in
set_option maxRecDepth 1000000 in
theorem qqU (s old new : ByteArray) (c : UInt8) (ho : old = ⟨#[c]⟩) (hn : new = ⟨#[]⟩) (w : World) (hs : s.size < 4294967281) (hc0 : s.data.toList.count c ≠ 0) :
  Calls Tryz.prog 48 #[.string s, .string old, .string new, .int .i64 (-1)] w fun e w' =>
   e = .returned (.string ⟨(s.data.toList.filter (· != c)).toArray⟩) ∧ Below w.heap.size w w' := by
 have hC : Calls Tryz.prog 82 #[.string s, .string old] w fun e w' => e = .returned (.int .i64 (s.data.toList.count c)) ∧ w' = w := by rw [ho]; exact qfu s c w
 have hI : ∀ (t : ByteArray) w, Calls Tryz.prog 32 #[.string t, .string old] w fun e w' => e = .returned (.int .i64 (Lib.indexByte t.data.toList c)) ∧ w' = w := fun t w => by rw [ho]; exact qqh t c w
 have hos : old.size = 1 := by rw [ho]; rfl
 have hns : new.size = 0 := by rw [hn]; rfl
 have hnc : Lib.strCells new = [] := by rw [hn]; rfl
 have hneq : old ≠ new := fun e => by rw [e, hns] at hos; omega
 have hbeq : (old.toList == new.toList) = false := (Lib.bytes_beq_false_iff old new).2 hneq
 have hlenL : s.data.toList.length = s.size := (Lib.size_eq s).symm
 obtain ⟨K, hK⟩ : ∃ K : Nat, s.data.toList.count c = K := ⟨_, rfl⟩
 have hKs : K ≤ s.size := by rw [← hK, ← hlenL]; exact List.count_le_length
 have hK0 : s.data.toList.drop 0 = s.data.toList := rfl
 rw [hK] at hC hc0
 have hcz : ((K : Int) == 0) = false := beq_eq_false_iff_ne.2 (by omega)
 have hga := Lib.grow_arg s.size K new.size old.size (by omega) (by rw [hos]; omega) (by rw [hns]; omega)
 rw [hns, hos] at hga
 have hod : decide (0 < old.size) = true := decide_eq_true (by omega)
 clear ho hn hneq
 have e82 : ∀ args w, (callFunc 82 args).run Tryz.prog w = .ok (.enter 82 args) w := enters_of Tryz.func82 (by kernel_rfl) rfl
 have e83 : ∀ args w, (callFunc 83 args).run Tryz.prog w = .ok (.enter 83 args) w := enters_of Tryz.func83 (by kernel_rfl) rfl
 have e32 : ∀ args w, (callFunc 32 args).run Tryz.prog w = .ok (.enter 32 args) w := enters_of Tryz.func32 (by kernel_rfl) rfl
 have e78 : ∀ args w, (callFunc 78 args).run Tryz.prog w = .ok (.enter 78 args) w := enters_of Tryz.func78 (by kernel_rfl) rfl
 have e80 : ∀ args w, (callFunc 80 args).run Tryz.prog w = .ok (.enter 80 args) w := enters_of Tryz.func80 (by kernel_rfl) rfl
 go_enter Tryz.func48, Tryz.ntmps48
 go_wp2_with fail
 refine hC.mono ?_
 rintro e w' ⟨rfl, hw⟩
 rw [hw]
 clear hC
 go_wp2_with fail
 rw [show (s.size : Int) + -(K : Int) = ((s.size - K : Nat) : Int) by omega]
 refine (qjc w.heap.size (s.size - K) _ (heap_alloc_new w _) (by simp) (by omega)).mono ?_
 rintro e w1 ⟨rfl, hb0, hb1⟩
 have H1 := jW (Or.inr hb0 : Lib.IsBuilder 122 5 w.heap.size w.heap.size (Lib.byteCells []) w1)
 have Hb1 := jW (((Below.refl w.heap.size w).alloc (Nat.le_refl _) _).trans hb1)
 clear hb0 hb1 hga
 go_wp2_with fail
 go_loopg [11, 53] K (fun g s11 s53 wx => ∃ (i start : Nat) (acc : List UInt8), s53 = .int .i64 i ∧ s11 = .int .i64 start ∧ i + g = K ∧ start ≤ s.size ∧
  Hid (Lib.IsBuilder 122 5 w.heap.size w.heap.size (Lib.byteCells acc) wx) ∧ Hid (Below w.heap.size w wx) ∧ Hid (acc ++ (s.data.toList.drop start).filter (· != c) = s.data.toList.filter (· != c)) ∧
  (s.data.toList.drop start).count c = g ∧ acc.length ≤ start)
 case atStart => exact ⟨0, 0, [], rfl, rfl, by omega, Nat.zero_le _, H1, Hb1, jW (by simp), hK, Nat.le_refl _⟩
 case round =>
  obtain ⟨i, start, acc, rfl, rfl, hig, hst, HB, HW, HR, hgc, hbd⟩ := hrel
  have hBw : w.heap.size ≤ wr.heap.size := HW.out.size
  have c1 : (0 : Int) ≤ (start : Int) := by omega
  have c2 : (start : Int) ≤ (s.size : Int) := by omega
  cases gk with
  | zero =>
   have hiK : ¬ ((i : Int) < (K : Int)) := by omega
   go_wp2_with fail
   refine (qfa w.heap.size w.heap.size _ _ wr HB.out (by rw [Lib.byteCells_length, ByteArray.size_extract]; omega) hBw).mono ?_
   rintro e w3 ⟨rfl, h3, hb3⟩
   rw [Lib.strCells_eq, Lib.extract_to_end, ← Lib.byteCells_append] at h3
   have hfin : acc ++ s.data.toList.drop start = s.data.toList.filter (· != c) := by
    rw [← HR.out]
    congr 1
    refine (List.filter_eq_self.2 fun a ha => ?_).symm
    have := List.count_eq_zero.1 hgc
    simp only [bne_iff_ne, ne_eq]
    rintro rfl
    exact this ha
   rw [hfin] at h3
   have H3 := jW (Or.inr h3 : Lib.IsBuilder 122 5 w.heap.size w.heap.size _ w3)
   have Hb3 := jW (HW.out.trans hb3)
   have hBw3 : w.heap.size ≤ w3.heap.size := Hb3.out.size
   clear h3 hb3 hfin
   go_wp2_with fail
   refine (qre w.heap.size w.heap.size _ w3 H3.out hBw3).mono ?_
   rintro e w5 ⟨rfl, hb5⟩
   have Hb5 := jW (Hb3.out.trans hb5)
   clear hb5
   go_wp2
   go_ret
   exact ⟨rfl, Hb5.out⟩
  | succ g =>
   have hiK : (i : Int) < (K : Int) := by omega
   have hj := HY.index_cut c (s.data.toList.drop start) (by omega)
   have hjl := HY.cutAt_lt c (s.data.toList.drop start) (by omega)
   have hjc := HY.count_cut c (s.data.toList.drop start) (by omega)
   have hjf := qi0 c (s.data.toList.drop start) (by omega)
   obtain ⟨j, hjd⟩ : ∃ j, HY.cutAt c (s.data.toList.drop start) = j := ⟨_, rfl⟩
   rw [hjd] at hj hjl hjc hjf
   rw [List.length_drop, hlenL] at hjl
   rw [List.drop_drop] at hjc hjf
   have c3 : (start : Int) ≤ (start : Int) + (j : Int) := by omega
   have c4 : (start : Int) + (j : Int) ≤ (s.size : Int) := by omega
   have hnext : Lib.byteCells acc ++ Lib.strCells (s.extract start (start + j)) = Lib.byteCells (acc ++ (s.data.toList.drop start).take j) := by
    rw [Lib.strCells_eq, Lib.extract_data, Nat.add_sub_cancel_left, ← Lib.byteCells_append]
   have Hrep := jW (show (acc ++ (s.data.toList.drop start).take j) ++ (s.data.toList.drop (start + j + 1)).filter (· != c) = s.data.toList.filter (· != c) by
    rw [← HR.out, hjf, List.append_assoc, Nat.add_assoc])
   have hcnt : (s.data.toList.drop (start + j + 1)).count c = g := by rw [Nat.add_assoc, hjc]; omega
   have htl : ((s.data.toList.drop start).take j).length ≤ j := List.length_take_le _ _
   have Hn := jW hnext
   clear hnext HR
   go_wp2_with fail
   refine (hI _ _).mono ?_
   rintro e w' ⟨rfl, hw⟩
   rw [hw, Lib.extract_to_end, hj]
   go_wp2_with fail
   refine (qfa w.heap.size w.heap.size _ (s.extract start (start + j)) wr HB.out (by rw [Lib.byteCells_length, ByteArray.size_extract]; omega) hBw).mono ?_
   rintro e w3 ⟨rfl, h3, hb3⟩
   rw [Hn.out] at h3
   have hBw3 : w.heap.size ≤ w3.heap.size := Nat.le_trans hBw hb3.size
   have H3 := jW h3
   have Hb3 := jW hb3
   clear h3 hb3
   go_wp2_with fail
   refine (qfa w.heap.size w.heap.size _ new w3 (Or.inr H3.out) (by rw [Lib.byteCells_length, List.length_append, hns]; omega) hBw3).mono ?_
   rintro e w4 ⟨rfl, h4, hb4⟩
   rw [hnc, List.append_nil] at h4
   have H4 := jW (Or.inr h4 : Lib.IsBuilder 122 5 w.heap.size w.heap.size _ w4)
   have Hb4 := jW ((HW.out.trans Hb3.out).trans hb4)
   clear h4 hb4
   go_wp2
   go_roundg g
   case measure => omega
   case rel => exact ⟨i + 1, start + j + 1, _, by first | rfl | (simp; unfold wrap64; omega), by first | rfl | (simp; unfold wrap64; omega), by omega, by omega, H4, Hb4, Hrep, hcnt, by rw [List.length_append]; omega⟩
theorem qnO (s : ByteArray) (c : UInt8) (w : World) (hs : s.size < 4294967281) :
  Calls Tryz.prog 48 #[.string s, .string ⟨#[c]⟩, .string ⟨#[]⟩, .int .i64 (-1)] w fun e w' =>
   e = .returned (.string ⟨(s.data.toList.filter (· != c)).toArray⟩) ∧ Below w.heap.size w w' := by
 by_cases h : s.data.toList.count c = 0
 ·have e : s.data.toList.filter (· != c) = s.data.toList := List.filter_eq_self.2 fun a ha => by
   simp only [bne_iff_ne, ne_eq]
   rintro rfl
   exact List.count_eq_zero.1 h ha
  rw [e]
  have hC := qfu s c w
  rw [show Lib.countByte s.data.toList c = 0 from h] at hC
  have e82 : ∀ args w, (callFunc 82 args).run Tryz.prog w = .ok (.enter 82 args) w := enters_of Tryz.func82 (by kernel_rfl) rfl
  go_enter Tryz.func48, Tryz.ntmps48
  go_wp2_with fail
  refine hC.mono ?_
  rintro e w' ⟨rfl, hw⟩
  rw [hw]
  go_wp2_with fail
  go_ret
  exact ⟨rfl, Below.refl _ _⟩
 ·exact qqU s _ _ c rfl rfl w hs h
theorem qgd (s : ByteArray) (c : UInt8) (w : World) (hs : s.size < 4294967281) :
  Calls Tryz.prog 16 #[.string s, .string ⟨#[c]⟩, .string ⟨#[]⟩] w fun e w' =>
   e = .returned (.string ⟨(s.data.toList.filter (· != c)).toArray⟩) ∧ Below w.heap.size w w' := by
 have e48 : ∀ args w, (callFunc 48 args).run Tryz.prog w = .ok (.enter 48 args) w := enters_of Tryz.func48 (by kernel_rfl) rfl
 go_enter Tryz.func16, Tryz.ntmps16
 go_wp2_with fail
 refine (qnO s c _ hs).mono ?_
 rintro e w' ⟨rfl, hw⟩
 go_wp2_with fail
 go_ret
 exact ⟨rfl, hw⟩
end Go.Proofs
end
section
open Go Go.Proofs AF HY P48
namespace LN
set_option maxRecDepth 100000
def qh7 (s : List UInt8) : List UInt8 := s.filter (· != 32)
theorem qaT (a b : List UInt8) : qh7 (a ++ b) = qh7 a ++ qh7 b := List.filter_append ..
theorem qm1 {s : List UInt8} (h : s.count 32 = 0) : qh7 s = s := List.filter_eq_self.2 fun a ha => by
 simp only [bne_iff_ne, ne_eq]
 rintro rfl
 exact List.count_eq_zero.1 h ha
def qfb (l : List It) : Nat → Nat → List UInt8
 | 0, _ => []
 | k + 1, i => (if (it l i).kind = 1 then (it l i).text else []) ++ qfb l k (i + 1)
theorem qhS (l : List It) : ∀ k m i, qfb l (k + m) i = qfb l k i ++ qfb l m (i + k) := by
 intro k
 induction k with
 | zero => intro m i; rw [Nat.zero_add]; rfl
 | succ k ih =>
  intro m i
  rw [show k + 1 + m = (k + m) + 1 by omega, qfb, qfb, ih, List.append_assoc, show i + 1 + k = i + (k + 1) by omega]
theorem qfZ (l : List It) : ∀ k i, qh7 (zN l k i) = qh7 (qfb l k i) := by
 intro k
 induction k with
 | zero => intro i; rfl
 | succ k ih =>
  intro i
  rw [zN, qfb, qaT, qaT, ih]
  congr 1
  by_cases h1 : (it l i).kind = 1
  ·rw [if_pos h1, if_pos h1]
  ·rw [if_neg h1, if_neg h1]
   split <;> rfl
theorem qj8 (l : List It) : ∀ k m i, zN l (k + m) i = zN l k i ++ zN l m (i + k) := by
 intro k
 induction k with
 | zero => intro m i; rw [Nat.zero_add]; rfl
 | succ k ih =>
  intro m i
  rw [show k + 1 + m = (k + m) + 1 by omega, zN, zN, ih, List.append_assoc, show i + 1 + k = i + (k + 1) by omega]
theorem qpo (l : List It) : ∀ k i, i ≤ zp l k i ∧ zp l k i ≤ i + k ∧ qfb l k i = qfb l (i + k - zp l k i) (zp l k i) := by
 intro k
 induction k with
 | zero => intro i; exact ⟨Nat.le_refl _, Nat.le_refl _, by rw [zp, Nat.add_zero, Nat.sub_self]⟩
 | succ k ih =>
  intro i
  rw [zp]
  by_cases h : (it l i).kind = 2
  ·rw [if_pos h]
   obtain ⟨h1, h2, h3⟩ := ih (i + 1)
   refine ⟨by omega, by omega, ?_⟩
   rw [qfb, if_neg (by omega), List.nil_append, h3, show i + 1 + k = i + (k + 1) by omega]
  ·rw [if_neg h]
   exact ⟨Nat.le_refl _, by omega, by rw [Nat.add_sub_cancel_left]⟩
structure qky (l : List It) : Prop where
 pen : ∀ k, k < l.length → (it l k).kind = 3 → ((it l k).penalty ≠ -10000 ∧ (it l k).text = [61]) ∨ ((it l k).penalty = -10000 ∧ (it l k).text = [])
 box : ∀ k, k < l.length → ((it l k).kind = 2 ∨ ((it l k).kind = 3 ∧ (it l k).penalty = -10000)) → 1 ≤ k ∧ (it l (k - 1)).kind = 1 ∧ (it l (k - 1)).text ≠ [] ∧ (it l (k - 1)).text.getLast? ≠ some 61
def qfR (l : List It) : Prop := 1 ≤ l.length ∧ (it l (l.length - 1)).kind = 1 ∧ (it l (l.length - 1)).text ≠ [] ∧ (it l (l.length - 1)).text.getLast? ≠ some 61
theorem qqc : qky [] := ⟨fun k h => by simp at h, fun k h => by simp at h⟩
theorem qcY {l : List It} {x : It} (h : qky l) (h1 : x.kind = 3 → (x.penalty ≠ -10000 ∧ x.text = [61]) ∨ (x.penalty = -10000 ∧ x.text = [])) (h2 : (x.kind = 2 ∨ (x.kind = 3 ∧ x.penalty = -10000)) → qfR l) : qky (l ++ [x]) := by
 refine ⟨fun k hk h3 => ?_, fun k hk h3 => ?_⟩
 ·rw [List.length_append, List.length_singleton] at hk
  by_cases e : k = l.length
  ·subst e; rw [zR] at h3 ⊢; exact h1 h3
  ·rw [zD (by omega)] at h3 ⊢; exact h.pen k (by omega) h3
 ·rw [List.length_append, List.length_singleton] at hk
  by_cases e : k = l.length
  ·subst e
   rw [zR] at h3
   obtain ⟨g1, g2⟩ := h2 h3
   rw [zD (by omega)]
   exact ⟨g1, g2⟩
  ·rw [zD (by omega)] at h3
   obtain ⟨g1, g2⟩ := h.box k (by omega) h3
   rw [zD (by omega)]
   exact ⟨g1, g2⟩
theorem qgw (s : List UInt8) : je (s ++ [61]) [61] = s := by
 have : qan (s ++ [61]) [61] = true := by unfold qan; simp
 unfold je
 rw [if_pos this]
 simp
theorem qhA {s : List UInt8} (h : s.getLast? ≠ some 61) : je s [61] = s := by
 have : ¬ qan s [61] = true := by
  unfold qan
  intro hc
  simp at hc
  apply h
  rcases List.eq_nil_or_concat s with rfl | ⟨t, a, rfl⟩
  ·simp at hc
  ·simp at hc ⊢
   exact hc
 unfold je
 rw [if_neg this]
theorem qos {l : List It} (h : qky l) {a b : Nat} (hab : a ≤ b) (hb : b < l.length) (he : qdh l b = true) : qh7 (je (qaG l a b) [61]) = qh7 (qfb l (b - a) a) := by
 unfold qaG
 rw [← qfZ]
 have two : ((it l b).kind = 2 ∨ ((it l b).kind = 3 ∧ (it l b).penalty = -10000)) → je (zN l (b - a) a) [61] = zN l (b - a) a := fun h3 => by
  obtain ⟨g1, g2, g3, g4⟩ := h.box b hb h3
  by_cases e : a = b
  ·subst e; rw [Nat.sub_self]; rfl
  ·obtain ⟨n, hn⟩ : ∃ n, b - a = n + 1 := ⟨b - a - 1, by omega⟩
   rw [hn, qj8, show a + n = b - 1 by omega]
   have : zN l 1 (b - 1) = (it l (b - 1)).text := by rw [zN, if_pos g2]; exact List.append_nil _
   rw [this]
   apply qhA
   rw [List.getLast?_append]
   cases ht : (it l (b - 1)).text.getLast? with
   | none => exact absurd (List.getLast?_eq_none_iff.1 ht) g3
   | some y => rw [ht] at g4; simpa using g4
 by_cases h3 : (it l b).kind = 3
 ·have ha : zG l b = true := by unfold zG; rw [decide_eq_true hb, decide_eq_true h3]; rfl
  rw [if_pos ha]
  rcases h.pen b hb h3 with ⟨_, ht⟩ | ⟨hp, ht⟩
  ·rw [ht, qgw]
  ·rw [ht, List.append_nil, two (.inr ⟨h3, hp⟩)]
 ·have ha : ¬ zG l b = true := by unfold zG; rw [decide_eq_false h3]; simp
  rw [if_neg ha, List.append_nil]
  have h2 : (it l b).kind = 2 := by
   unfold qdh at he
   rw [decide_eq_false h3, decide_eq_false (show ¬ b = l.length by omega)] at he
   simp at he
   exact he.1
  rw [two (.inl h2)]
def qjk : List P48.Line → List UInt8
 | [] => []
 | [y] => y.text
 | y :: z :: r => je y.text [61] ++ qjk (z :: r)
theorem qjl {l : List It} (hg : qky l) {W : Int} : ∀ (bs : List Nat) (frm : Nat) (ls : List P48.Line), zk l W frm bs = some ls → bs.Pairwise (· < ·) → (∀ b ∈ bs, frm ≤ b ∧ b ≤ l.length ∧ qdh l b = true) → bs.getLast? = some l.length →
  qh7 (qjk ls) = qh7 (qfb l (l.length - frm) frm) := by
 intro bs
 induction bs with
 | nil => intro frm ls _ _ _ h; simp at h
 | cons b r ih =>
  intro frm ls h hp hb hl
  rw [zk] at h
  split at h
  ·obtain ⟨ls', h', rfl⟩ := Option.map_eq_some_iff.1 h
   obtain ⟨b1, b2, b3⟩ := hb b (by simp)
   obtain ⟨p1, p2⟩ := List.pairwise_cons.1 hp
   obtain ⟨s1, s2, s3⟩ := qpo l (b - frm) frm
   have s4 : qI l frm b = zp l (b - frm) frm := rfl
   rw [← s4] at s1 s2 s3
   rw [show frm + (b - frm) = b by omega] at s2 s3
   cases r with
   | nil =>
    have e : b = l.length := by simpa using hl
    cases h'
    show qh7 (qaG l (qI l frm b) b) = _
    have ha : ¬ zG l b = true := by unfold zG; rw [decide_eq_false (by omega)]; simp
    unfold qaG
    rw [if_neg ha, List.append_nil, qfZ, ← s3, ← e]
   | cons c r =>
    have hcb : b < c := p1 c (by simp)
    have hc := hb c (by simp)
    have hih := ih (b + 1) ls' h' p2 (fun x hx => ⟨by have := p1 x hx; omega, (hb x (by simp [hx])).2⟩) (by simpa using hl)
    cases ls' with
    | nil =>
     have := qae _ _ _ h'
     simp at this
    | cons z q =>
     rw [qjk, qaT, hih]
     have ht := qos hg (a := qI l frm b) (b := b) s2 (by omega) b3
     show qh7 (je (qaG l (qI l frm b) b) [61]) ++ _ = _
     rw [ht, ← s3]
     have hk : ¬ (it l b).kind = 1 := fun hk => by
      rw [qcU (by omega) hk] at b3
      cases b3
     rw [show l.length - frm = (b - frm) + (1 + (l.length - (b + 1))) by omega, qhS, qhS, qaT, qaT, show frm + (b - frm) = b by omega]
     have : qfb l 1 b = [] := by rw [qfb, if_neg hk]; rfl
     rw [this]
     rfl
  ·cases h
end LN
end
section
open Go Go.Proofs AF HY P48
namespace LN
set_option maxRecDepth 100000
theorem qja {s : Sty} (hh : s.hy ≠ -10000) (L : List (List UInt8)) {l : List It} (h : qky l) : ∀ k, qky (l ++ qR s L k) := by
 intro k
 induction k with
 | zero => rw [zr, List.append_nil]; exact h
 | succ k ih =>
  rw [zh, ← List.append_assoc]
  have box : ∀ {m : List It}, qky m → qky (m ++ [⟨1, s.le * ((qV (L.getD k [])).length : Int), 0, 0, 0, L.getD k []⟩]) := fun hm => qcY hm (fun h => by simp at h) (fun h => by simp at h)
  unfold jI
  by_cases e : k = 0
  ·rw [if_pos e, List.nil_append]
   exact box ih
  ·rw [if_neg e, ← List.append_assoc]
   exact box (qcY ih (fun _ => .inl ⟨hh, rfl⟩) (fun h => by simp at h; exact absurd h hh))
theorem qjm (s : Sty) (L : List (List UInt8)) (l : List It) (k : Nat) (h1 : L.getD k [] ≠ []) (h2 : (L.getD k []).getLast? ≠ some 61) : qfR (l ++ qR s L (k + 1)) := by
 rw [zh, ← List.append_assoc]
 have box : ∀ m : List It, qfR (m ++ [⟨1, s.le * ((qV (L.getD k [])).length : Int), 0, 0, 0, L.getD k []⟩]) := fun m => by
  unfold qfR
  rw [List.length_append, List.length_singleton, Nat.add_sub_cancel, zR]
  exact ⟨by omega, rfl, h1, h2⟩
 unfold jI
 rw [← List.append_assoc]
 exact box _
theorem qno (ps : List Pat) {w : List UInt8} (hw : w ≠ []) (h61 : w.getLast? ≠ some 61) : (zm ps w).getD ((zm ps w).length - 1) [] ≠ [] ∧ ((zm ps w).getD ((zm ps w).length - 1) []).getLast? ≠ some 61 := by
 unfold zm
 split
 ·rw [jv]
  obtain ⟨n, hn⟩ : ∃ n, (zb ps w).length = n + 1 := ⟨(jN ps w).length, by unfold zb; simp⟩
  have hl : (zb ps w).getD n 0 = w.length := by
   unfold zb at hn ⊢
   simp at hn
   rw [← hn]
   simp
  have hp : 0 ≤ jq (zb ps w) n ∧ jq (zb ps w) n < w.length := by
   have h0 : 0 < w.length := List.length_pos_iff.2 hw
   unfold jq
   split
   ·exact ⟨by omega, by omega⟩
   ·rename_i hn0
    have hm : (zb ps w).getD (n - 1) 0 ∈ jN ps w := by
     unfold zb at hn ⊢
     simp at hn
     have hi : n - 1 < (jN ps w).length := by omega
     rw [List.getD_eq_getElem?_getD, List.getElem?_append_left hi, List.getElem?_eq_getElem hi]
     exact List.getElem_mem hi
    unfold jN at hm
    split at hm
    ·unfold qcz qcL at hm
     obtain ⟨i, hi, he⟩ := List.mem_map.1 hm
     have hi := List.mem_range.1 (List.mem_filter.1 hi).1
     rw [← he]
     have c1 := qgS (s := w) (i := i + 1) (by omega)
     have c2 := qdw (own := qV w) (i := i + 1) (by omega)
     have c3 := qg7 (qV w) (i + 1 + 1)
     rw [qaw] at c3
     omega
    ·simp at hm
  have e : (zt w (zb ps w) (zb ps w).length).getD ((zb ps w).length - 1) [] = w.drop (jq (zb ps w) n).toNat := by
   unfold zt
   rw [hn, Nat.add_sub_cancel, List.getD_eq_getElem?_getD, List.getElem?_map, List.getElem?_range (by omega)]
   show kQ w (zb ps w) n = _
   unfold kQ
   rw [hl, Int.toNat_natCast]
   apply List.take_of_length_le
   rw [List.length_drop]
   omega
  rw [e]
  have hlt : (jq (zb ps w) n).toNat < w.length := by omega
  refine ⟨fun hc => ?_, ?_⟩
  ·have := congrArg List.length hc
   rw [List.length_drop] at this
   simp at this
   omega
  ·rw [List.getLast?_drop, if_neg (by omega)]
   exact h61
 ·exact ⟨hw, h61⟩
theorem qjb {s : Sty} (hh : s.hy ≠ -10000) (ps : List Pat) (ws : List Wd) (hw : ∀ i, i < ws.length → (ws.getD i default).text ≠ [] ∧ (ws.getD i default).text.getLast? ≠ some 61) : ∀ n, n ≤ ws.length → qky (zi s ps ws n) ∧ (0 < n → qfR (zi s ps ws n)) := by
 intro n
 induction n with
 | zero => intro _; exact ⟨qqc, fun h => by omega⟩
 | succ n ih =>
  intro hn
  obtain ⟨i1, i2⟩ := ih (by omega)
  obtain ⟨w1, w2⟩ := hw n (by omega)
  rw [zL]
  unfold qcn
  rw [← List.append_assoc]
  have hs : qky (zi s ps ws n ++ qcf s n (ws.getD n default)) := by
   unfold qcf
   by_cases e : n = 0
   ·rw [if_pos e, List.append_nil]; exact i1
   ·rw [if_neg e]
    split
    ·exact qcY i1 (fun _ => .inr ⟨rfl, rfl⟩) (fun _ => i2 (by omega))
    ·split
     ·rw [List.append_nil]; exact i1
     ·exact qcY i1 (fun h => by simp at h) (fun _ => i2 (by omega))
  have hp := qbK ps (ws.getD n default).text
  obtain ⟨k, hk⟩ : ∃ k, (zm ps (ws.getD n default).text).length = k + 1 := ⟨(zm ps (ws.getD n default).text).length - 1, by omega⟩
  refine ⟨qja hh _ hs _, fun _ => ?_⟩
  obtain ⟨l1, l2⟩ := qno ps w1 w2
  rw [hk, Nat.add_sub_cancel] at l1 l2
  rw [hk]
  exact qjm s _ _ _ l1 l2
def bxT (x : It) : List UInt8 := if x.kind = 1 then x.text else []
def bxL (l : List It) : List UInt8 := (l.map bxT).flatten
theorem qgL (a b : List It) : bxL (a ++ b) = bxL a ++ bxL b := by unfold bxL; rw [List.map_append, List.flatten_append]
theorem quI (l : List It) : ∀ k i, i + k = l.length → qfb l k i = bxL (l.drop i) := by
 intro k
 induction k with
 | zero => intro i h; rw [List.drop_of_length_le (by omega)]; rfl
 | succ k ih =>
  intro i h
  rw [qfb, ih (i + 1) (by omega), qbY (show i < l.length by omega)]
  rfl
theorem qpn (l : List It) : qfb l (l.length - 0) 0 = bxL l := by rw [quI l _ 0 (by omega)]; rfl
theorem qls (s : Sty) (L : List (List UInt8)) : ∀ k, k ≤ L.length → bxL (qR s L k) = (L.take k).flatten := by
 intro k
 induction k with
 | zero => intro _; rfl
 | succ k ih =>
  intro hk
  rw [zh, qgL, ih (by omega), List.take_succ_eq_append_getElem (by omega), List.flatten_append]
  congr 1
  have e : L.getD k [] = L[k] := by rw [List.getD_eq_getElem?_getD, List.getElem?_eq_getElem (by omega)]; rfl
  rw [← e]
  unfold jI
  split
  ·simp [bxL, bxT]
  ·simp [bxL, bxT]
theorem qhd {w : List UInt8} {L : List Int} (h : qg8 w L) : ∀ j, j ≤ L.length → (zt w L j).flatten = w.take (jq L j).toNat := by
 intro j
 induction j with
 | zero => intro _; rw [qf6, qah]; simp
 | succ j ih =>
  intro hj
  obtain ⟨h1, h2, h3⟩ := h j (by omega)
  rw [qaC, List.flatten_append, ih (by omega), qag]
  unfold kQ
  rw [List.flatten_singleton]
  obtain ⟨a, ha⟩ : ∃ a, a = (jq L j).toNat := ⟨_, rfl⟩
  obtain ⟨b, hb⟩ : ∃ b, b = (L.getD j 0).toNat := ⟨_, rfl⟩
  rw [← ha, ← hb]
  have hab : a ≤ b := by omega
  rw [show b = a + (b - a) by omega, List.take_add, show a + (b - a) - a = b - a by omega]
theorem qjB (ps : List Pat) (w : List UInt8) : (zm ps w).flatten = w := by
 unfold zm
 split
 ·rw [qhd (kF ps w) _ (Nat.le_refl _)]
  obtain ⟨n, hn⟩ : ∃ n, (zb ps w).length = n + 1 := ⟨(jN ps w).length, by unfold zb; simp⟩
  rw [hn, qag]
  have hl : (zb ps w).getD n 0 = w.length := by
   unfold zb at hn ⊢
   simp at hn
   rw [← hn]
   simp
  rw [hl, Int.toNat_natCast, List.take_length]
 ·simp
def wtT (ws : List Wd) (n : Nat) : List UInt8 := ((List.range n).map fun i => (ws.getD i default).text).flatten
theorem qc5 (ws : List Wd) (n : Nat) : wtT ws (n + 1) = wtT ws n ++ (ws.getD n default).text := by unfold wtT; rw [List.range_succ, List.map_append, List.flatten_append]; simp
theorem qlt (s : Sty) (ps : List Pat) (ws : List Wd) : ∀ n, bxL (zi s ps ws n) = wtT ws n := by
 intro n
 induction n with
 | zero => rfl
 | succ n ih =>
  rw [zL, qgL, ih, qc5]
  congr 1
  unfold qcn
  rw [qgL, qls _ _ _ (Nat.le_refl _), List.take_length, qjB]
  have : bxL (qcf s n (ws.getD n default)) = [] := by unfold qcf; split <;> (try split) <;> (try split) <;> rfl
  rw [this]
  rfl
theorem qun {ws : List Wd} (h : ∀ i, i < ws.length → (ws.getD i default).text.count 32 = 0) : ∀ n, n ≤ ws.length → qh7 (wtT ws n) = wtT ws n := by
 intro n
 induction n with
 | zero => intro _; rfl
 | succ n ih =>
  intro hn
  rw [qc5, qaT, ih (by omega), qm1 (h n (by omega))]
def frS (l : List It) (i : Nat) : List Nat := (List.range i).filter (zF l)
theorem qeE (l : List It) (i : Nat) : frS l (i + 1) = frS l i ++ if zF l i = true then [i] else [] := by
 unfold frS
 rw [List.range_succ, List.filter_append]
 congr 1
 simp only [List.filter_cons, List.filter_nil]
theorem qp9 {l m : List It} : ∀ i, i ≤ l.length → frS (l ++ m) i = frS l i := by
 intro i
 induction i with
 | zero => intro _; rfl
 | succ i ih =>
  intro h
  rw [qeE, qeE, ih (by omega)]
  have : zF (l ++ m) i = zF l i := by unfold zF; rw [zD (by omega), List.length_append, decide_eq_true (show i < l.length + m.length by omega), decide_eq_true (show i < l.length by omega)]
  rw [this]
def frN (l : List It) : Nat := (frS l l.length).length
theorem qdo (l : List It) (x : It) : frN (l ++ [x]) = frN l + if x.kind = 3 ∧ x.penalty = -10000 then 1 else 0 := by
 unfold frN
 rw [List.length_append, List.length_singleton, qeE, qp9 _ (Nat.le_refl _), List.length_append]
 congr 1
 have : zF (l ++ [x]) l.length = (decide (x.kind = 3) && decide (x.penalty = -10000)) := by unfold zF; rw [zR, List.length_append, List.length_singleton, decide_eq_true (Nat.lt_succ_self _)]; rfl
 rw [this]
 by_cases h : x.kind = 3 ∧ x.penalty = -10000
 ·rw [if_pos h, decide_eq_true h.1, decide_eq_true h.2]; rfl
 ·rw [if_neg h, if_neg (by simpa using h)]; rfl
theorem qms {s : Sty} (hh : s.hy ≠ -10000) (L : List (List UInt8)) (l : List It) : ∀ k, frN (l ++ qR s L k) = frN l := by
 intro k
 induction k with
 | zero => rw [zr, List.append_nil]
 | succ k ih =>
  rw [zh, ← List.append_assoc]
  unfold jI
  by_cases e : k = 0
  ·rw [if_pos e, List.nil_append, qdo, ih]; simp
  ·rw [if_neg e, ← List.append_assoc, qdo, qdo, ih]; simp [hh]
def qoQ (ws : List Wd) : Nat → Nat
 | 0 => 0
 | n + 1 => qoQ ws n + if 0 < n ∧ (ws.getD n default).verse = true then 1 else 0
theorem qmt {s : Sty} (hh : s.hy ≠ -10000) (ps : List Pat) (ws : List Wd) : ∀ n, frN (zi s ps ws n) = qoQ ws n := by
 intro n
 induction n with
 | zero => rfl
 | succ n ih =>
  rw [zL, qoQ]
  unfold qcn
  rw [← List.append_assoc, qms hh, ← ih]
  unfold qcf
  by_cases e : n = 0
  ·rw [if_pos e, if_neg (by omega), List.append_nil, Nat.add_zero]
  ·rw [if_neg e]
   by_cases v : (ws.getD n default).verse = true
   ·rw [if_pos v, if_pos ⟨by omega, v⟩, qdo, if_pos ⟨rfl, rfl⟩]
   ·rw [if_neg v, if_neg (c := 0 < n ∧ (ws.getD n default).verse = true) (fun h => v h.2), Nat.add_zero]
    by_cases j : (ws.getD n default).joined = true
    ·rw [if_pos j, List.append_nil]
    ·rw [if_neg j, qdo]; simp
theorem qtc : ∀ (a b : List Nat), a.Nodup → (∀ x ∈ a, x ∈ b) → a.length ≤ b.length := by
 intro a
 induction a with
 | nil => intro b _ _; exact Nat.zero_le _
 | cons x a ih =>
  intro b h1 h2
  obtain ⟨n1, n2⟩ := List.nodup_cons.1 h1
  have hx := h2 x (by simp)
  have := ih (b.erase x) n2 (fun y hy => (List.mem_erase_of_ne (fun e => n1 (by rw [← e]; exact hy))).2 (h2 y (by simp [hy])))
  rw [List.length_erase_of_mem hx] at this
  have hb := List.length_pos_of_mem hx
  rw [List.length_cons]
  omega
theorem qyC {l : List It} {bs : List Nat} (h1 : l.length ∈ bs) (h2 : ∀ i, i < l.length → zF l i = true → i ∈ bs) : frN l < bs.length := by
 have hn : (frS l l.length ++ [l.length]).Nodup := by
  rw [List.nodup_append]
  refine ⟨List.Pairwise.filter _ List.nodup_range, by simp, fun x hx y hy => ?_⟩
  have := List.mem_range.1 (List.mem_filter.1 hx).1
  simp at hy
  omega
 have := qtc _ bs hn (fun x hx => by
  rcases List.mem_append.1 hx with hx | hx
  ·obtain ⟨g1, g2⟩ := List.mem_filter.1 hx
   exact h2 x (List.mem_range.1 g1) g2
  ·simp at hx; rw [hx]; exact h1)
 rw [List.length_append, List.length_singleton] at this
 unfold frN
 omega
end LN
end
section
open Go Go.Proofs AF HY P48
namespace LN
set_option maxRecDepth 100000
theorem t9c (s : List UInt8) (h : List AObj) (hs : s.length ≤ 1000000) : qs Tryz.prog 9 [.str s, .str [32, 61]] h (.str (Go.Lib.trimS s [32, 61])) h := by
 refine ⟨qux Tryz.func9 (by kernel_rfl) (by kernel_rfl), fun w σ xs H hv => ?_⟩
 obtain ⟨x, y, rfl, hx, hy⟩ := hv.two
 rw [ja hx, ja hy]
 refine (callsIn_wide.2 (Tryz.strings_Trim_laid ⟨s.toArray⟩ ⟨[32, 61].toArray⟩ w ?_ (by decide) ?_)).mono ?_
 ·show s.toArray.size ≤ _
  simp
  omega
 ·intro j b hj
  have hm : b ∈ [(32 : UInt8), 61] := List.mem_of_getElem? hj
  rcases List.mem_cons.1 hm with rfl | hm
  ·decide
  ·rcases List.mem_cons.1 hm with rfl | hm
   ·decide
   ·simp at hm
 ·rintro e w' ⟨rfl, hb⟩
  obtain ⟨g1, g2⟩ := Ext.ofBelow H hb
  exact ⟨_, σ, rfl, g1, .imm .str, g2⟩
theorem qAE (s : List UInt8) (h : List AObj) (hs : s.length < 4294967281) : qs Tryz.prog 16 [.str s, .str [32], .str []] h (.str (qh7 s)) h := by
 refine ⟨qux Tryz.func16 (by kernel_rfl) (by kernel_rfl), fun w σ xs H hv => ?_⟩
 obtain ⟨x, y, z, rfl, hx, hy, hz⟩ := hv.three
 rw [ja hx, ja hy, ja hz]
 refine (callsIn_wide.2 (qgd ⟨s.toArray⟩ 32 w ?_)).mono ?_
 ·show s.toArray.size < _
  simpa using hs
 ·rintro e w' ⟨rfl, hb⟩
  obtain ⟨g1, g2⟩ := Ext.ofBelow H hb
  exact ⟨_, σ, rfl, g1, .imm .str, g2⟩
theorem qAv (s : List UInt8) (c : UInt8) (h : List AObj) : qs Tryz.prog 10 [.str s, .str [c]] h (.bool (decide (0 < s.count c))) h := by
 by_cases g : 0 < s.count c
 ·rw [decide_eq_true g]
  exact qzW s c h g
 ·rw [decide_eq_false g]
  have c32 := fun h => qz6 s c h
  rw [qed c s (by omega)] at c32
  have k1 : (0 ≤ (-1 : Int)) = False := eq_false (by omega)
  refine qo qvy (by simp) ?_
  simp only [lcP, lnP, Nat.reduceAdd, Nat.reduceSub, List.replicate, caP, naP, List.append_nil]
  simp (disch := omega) only [qxH, go_sem, qc, dvP, mdP]
  repeat' first
   | ((first | refine qj (c32 _) ?_ ?_); (next => exact flk); simp (disch := omega) only [k1, go_sem, qc, dvP, mdP])
   | ((first | refine qn (fun _ => c32 _) ?_ ?_); (next => exact flk); simp (disch := omega) only [k1, go_sem, qc, dvP, mdP])
   | ((first | refine qk (fun e => ⟨?_, c32 _⟩) ?_); (next => exact flk); simp (disch := omega) only [k1, go_sem, qc, dvP, mdP])
   | ((first | refine qe ?_ ?_ | refine qg ?_ ?_); (next => exact rvk); simp only [go_sem]; (first | exact VLe.refl _ | refine qh ?_ | refine qd ?_ | refine ql ?_ | skip))
   | with_reducible first | refine And.intro ?_ ?_ | intro _
  all_goals try exact clz
def qup (w : Wd) : Bool := decide (Go.Lib.trimS w.text [32, 61] ≠ w.text) || decide (0 < w.text.count 32)
theorem t8b (w : Wd) (h : List AObj) (hw : w.text.length ≤ 1000) : qs Tryz.prog 8 [.agg (qY w)] h (.bool (qup w)) h := by
 unfold qup
 have c9 := fun h => t9c w.text h (by omega)
 have c10 := fun h => qAv w.text 32 h
 by_cases g : Go.Lib.trimS w.text [32, 61] = w.text
 ·have k : (Go.Lib.trimS w.text [32, 61] = w.text) = True := eq_true g
  rw [decide_eq_false (fun hc => hc g), Bool.false_or]
  refine qo qzQ (by simp) ?_
  simp only [lcP, lnP, Nat.reduceAdd, Nat.reduceSub, List.replicate, caP, naP, List.append_nil]
  simp (disch := omega) only [c8z, qY, k, go_sem, qc, dvP, mdP]
  repeat' first
   | ((first | refine qj (c9 _) ?_ ?_ | refine qj (c10 _) ?_ ?_); (next => exact flk); simp (disch := omega) only [qY, k, go_sem, qc, dvP, mdP])
   | ((first | refine qn (fun _ => c9 _) ?_ ?_ | refine qn (fun _ => c10 _) ?_ ?_); (next => exact flk); simp (disch := omega) only [qY, k, go_sem, qc, dvP, mdP])
   | ((first | refine qk (fun e => ⟨?_, c9 _⟩) ?_ | refine qk (fun e => ⟨?_, c10 _⟩) ?_); (next => exact flk); simp (disch := omega) only [qY, k, go_sem, qc, dvP, mdP])
   | ((first | refine qe ?_ ?_ | refine qg ?_ ?_); (next => exact rvk); simp only [go_sem]; (first | exact VLe.refl _ | refine qh ?_ | refine qd ?_ | refine ql ?_ | skip))
   | with_reducible first | refine And.intro ?_ ?_ | intro _
  all_goals try exact clz
 ·have k : (Go.Lib.trimS w.text [32, 61] = w.text) = False := eq_false g
  rw [decide_eq_true g, Bool.true_or]
  refine qo qzQ (by simp) ?_
  simp only [lcP, lnP, Nat.reduceAdd, Nat.reduceSub, List.replicate, caP, naP, List.append_nil]
  simp (disch := omega) only [c8z, qY, k, go_sem, qc, dvP, mdP]
  repeat' first
   | (refine qP ((.bool false)) ?_; simp (disch := omega) only [qY, k, go_sem, qc, dvP, mdP])
   | ((first | refine qj (c9 _) ?_ ?_); (next => exact flk); simp (disch := omega) only [qY, k, go_sem, qc, dvP, mdP])
   | ((first | refine qn (fun _ => c9 _) ?_ ?_); (next => exact flk); simp (disch := omega) only [qY, k, go_sem, qc, dvP, mdP])
   | ((first | refine qk (fun e => ⟨?_, c9 _⟩) ?_); (next => exact flk); simp (disch := omega) only [qY, k, go_sem, qc, dvP, mdP])
   | ((first | refine qe ?_ ?_ | refine qg ?_ ?_); (next => exact rvk); simp only [go_sem]; (first | exact VLe.refl _ | refine qh ?_ | refine qd ?_ | refine ql ?_ | skip))
   | with_reducible first | refine And.intro ?_ ?_ | intro _
  all_goals try exact clz
theorem qz5 (s : List Wd) (p : Wd → Bool) (F : Nat) (h : List AObj) (hs : s.length ≤ 1000000000) (hp : ∀ (i : Nat) (h : List AObj), i < s.length → qs Tryz.prog F [.agg (qY (s.getD i default))] h (.bool (p (s.getD i default))) h) : qs Tryz.prog 24 [qt s, .fn (.func F) [] []] h (.int .i64 (kL p s 0)) h := by
 refine qo qvW (by simp) ?_
 simp only [lcP, lnP, Nat.reduceAdd, Nat.reduceSub, List.replicate, caP, naP, List.append_nil]
 simp (disch := omega) only [qxI, qt, go_sem, qc, dvP, mdP]
 repeat' first
  | ((first | refine qe ?_ ?_ | refine qg ?_ ?_); (next => exact rvk); simp only [go_sem]; (first | exact VLe.refl _ | refine qh ?_ | refine qd ?_ | refine ql ?_ | skip))
  | with_reducible first | refine And.intro ?_ ?_ | intro _
 all_goals try exact clz
 refine qJ (T := fun i : Nat => qv 19 [(0, qt s), (1, .fn (.func F) [] []), (6, qt s), (7, .int .i64 s.length), (8, .int .i64 i)]) (H := fun _ => h) (inv := fun i => i ≤ s.length ∧ kL p s 0 = kL p (s.drop i) i) (m := fun i => s.length - i) 0 ⟨by omega, by simp⟩ (Wk.temps ?_) ?_
 ·(simp only [qt, qv, List.foldl, List.replicate, go_sem, qr, qp, qm, qq]; try (repeat' first | (with_reducible refine And.intro ?_ ?_) | (refine qh ?_; omega) | (refine qd ?_; rfl) | exact VLe.refl _))
 ·rintro i ⟨i1, i2⟩ K hK
  rw [i2]
  by_cases hi : i < s.length
  ·rw [ql2 hi] at i2 ⊢
   simp only [kL] at i2 ⊢
   have hpc := fun h => hp i h hi
   cases hb : p (s.getD i default) with
   | true =>
    rw [hb] at hpc
    simp (disch := omega) only [qv, List.foldl, List.replicate, qt, qY, go_sem, qc, dvP, mdP]
    repeat' first
     | (refine zH (hpc _) ?_; simp (disch := omega) only [qt, qY, go_sem, qc, dvP, mdP])
     | ((first | refine qe ?_ ?_ | refine qg ?_ ?_); (next => exact rvk); simp only [go_sem]; (first | exact VLe.refl _ | refine qh ?_ | refine qd ?_ | refine ql ?_ | skip))
     | with_reducible first | refine And.intro ?_ ?_ | intro _
    all_goals try exact clz
   | false =>
    rw [hb] at hpc i2
    simp (disch := omega) only [qv, List.foldl, List.replicate, qt, qY, go_sem, qc, dvP, mdP]
    repeat' first
     | (refine zH (hpc _) ?_; simp (disch := omega) only [qt, qY, go_sem, qc, dvP, mdP])
     | ((first | refine qe ?_ ?_ | refine qg ?_ ?_); (next => exact rvk); simp only [go_sem]; (first | exact VLe.refl _ | refine qh ?_ | refine qd ?_ | refine ql ?_ | skip))
     | with_reducible first | refine And.intro ?_ ?_ | intro _
    all_goals try exact clz
    refine hK _ _ (i + 1) ⟨by omega, by rw [i2]; simp⟩ (by omega) (Wk.temps ?_)
    (simp only [qt, qY, qv, List.foldl, List.replicate, go_sem, qr, qp, qm, qq]; try (repeat' first | (with_reducible refine And.intro ?_ ?_) | (refine qh ?_; omega) | (refine qd ?_; rfl) | exact VLe.refl _))
  ·have e : i = s.length := by omega
   subst e
   rw [List.drop_length]
   simp (disch := omega) only [qv, List.foldl, List.replicate, qt, go_sem, qc, dvP, mdP]
   repeat' first
    | ((first | refine qe ?_ ?_ | refine qg ?_ ?_); (next => exact rvk); simp only [go_sem]; (first | exact VLe.refl _ | refine qh ?_ | refine qd ?_ | refine ql ?_ | skip))
    | with_reducible first | refine And.intro ?_ ?_ | intro _
   all_goals try exact clz
theorem t7b (s : List Wd) (p : Wd → Bool) (F : Nat) (h : List AObj) (hs : s.length ≤ 1000000000) (hp : ∀ (i : Nat) (h : List AObj), i < s.length → qs Tryz.prog F [.agg (qY (s.getD i default))] h (.bool (p (s.getD i default))) h) : qs Tryz.prog 7 [qt s, .fn (.func F) [] []] h (.bool (s.any p)) h := by
 rw [← qdj p s 0]
 refine qo qzP (by simp) ?_
 simp only [lcP, lnP, Nat.reduceAdd, Nat.reduceSub, List.replicate, caP, naP, List.append_nil]
 simp (disch := omega) only [c7z, qt, go_sem, qc, dvP, mdP]
 repeat' first
  | ((first | refine qj (qz5 s p F _ hs hp) ?_ ?_); (next => exact flk); simp (disch := omega) only [qt, go_sem, qc, dvP, mdP])
  | ((first | refine qk (fun e => ⟨?_, qz5 s p F _ hs hp⟩) ?_); (next => exact flk); simp (disch := omega) only [qt, go_sem, qc, dvP, mdP])
  | ((first | refine qe ?_ ?_ | refine qg ?_ ?_); (next => exact rvk); simp only [go_sem]; (first | exact VLe.refl _ | refine qh ?_ | refine qd ?_ | refine ql ?_ | skip))
  | with_reducible first | refine And.intro ?_ ?_ | intro _
 all_goals try exact clz
theorem qoZ (s : Sty) (ps : List Pat) (ws : List Wd) (hw : ∀ i, (ws.getD i default).text.length ≤ 10) : ∀ n, (zi s ps ws n).length ≤ 23 * n := by
 intro n
 induction n with
 | zero => simp [zi]
 | succ n ih =>
  rw [zL, List.length_append]
  unfold qcn
  rw [List.length_append]
  have h1 := qaW s n (ws.getD n default)
  have h2 := kc s (zm ps (ws.getD n default).text) (zm ps (ws.getD n default).text).length
  have h3 := qb7 ps (ws.getD n default).text
  have h4 := hw n
  omega
theorem qnp (s : Sty) (L : List (List UInt8)) (hL : ∀ u ∈ L, u.length ≤ 10) : ∀ k, ∀ x ∈ qR s L k, x.text.length ≤ 10 := by
 intro k
 induction k with
 | zero => intro x hx; rw [zr] at hx; simp at hx
 | succ k ih =>
  intro x hx
  rw [zh] at hx
  rcases List.mem_append.1 hx with hx | hx
  ·exact ih x hx
  ·have hk : (L.getD k []).length ≤ 10 := by
    by_cases hk : k < L.length
    ·rw [List.getD_eq_getElem?_getD, List.getElem?_eq_getElem hk]; exact hL _ (List.getElem_mem hk)
    ·rw [List.getD_eq_getElem?_getD, List.getElem?_eq_none (by omega)]; exact Nat.zero_le _
   unfold jI at hx
   rcases List.mem_append.1 hx with hx | hx
   ·split at hx
    ·simp at hx
    ·simp at hx; subst hx; simp
   ·simp at hx; subst hx; exact hk
theorem qo3 (s : Sty) (ps : List Pat) (ws : List Wd) (hw : ∀ i, (ws.getD i default).text.length ≤ 10) : ∀ n, ∀ x ∈ zi s ps ws n, x.text.length ≤ 10 := by
 intro n
 induction n with
 | zero => intro x hx; rw [qhM] at hx; simp at hx
 | succ n ih =>
  intro x hx
  rw [zL] at hx
  rcases List.mem_append.1 hx with hx | hx
  ·exact ih x hx
  ·unfold qcn at hx
   rcases List.mem_append.1 hx with hx | hx
   ·unfold qcf at hx
    split at hx
    ·simp at hx
    ·split at hx
     ·simp at hx; subst hx; simp
     ·split at hx
      ·simp at hx
      ·simp at hx; subst hx; simp
   ·refine qnp s _ (fun u hu => ?_) _ x hx
    have h4 := hw n
    unfold zm at hu
    split at hu
    ·unfold zt at hu
     obtain ⟨j, _, rfl⟩ := List.mem_map.1 hu
     have := qib (ws.getD n default).text (zb ps (ws.getD n default).text) j
     omega
    ·simp at hu; subst hu; exact h4
theorem qcm {l : List It} (h : ∀ i, (it l i).text.length ≤ 10) : ∀ k i, (zN l k i).length ≤ 10 * k := by
 intro k
 induction k with
 | zero => intro i; exact Nat.zero_le _
 | succ k ih =>
  intro i
  rw [zN, List.length_append]
  have := ih (i + 1)
  have h1 := h i
  split
  ·omega
  ·split <;> simp <;> omega
theorem qmN {l : List It} (h : ∀ i, (it l i).text.length ≤ 10) {W : Int} : ∀ (bs : List Nat) (frm : Nat) (ls : List P48.Line), zk l W frm bs = some ls → (∀ b ∈ bs, b ≤ l.length) → ∀ y ∈ ls, y.text.length ≤ 10 * (l.length + 1) := by
 intro bs
 induction bs with
 | nil => intro frm ls hl _ y hy; cases hl; simp at hy
 | cons b r ih =>
  intro frm ls hl hb y hy
  rw [zk] at hl
  split at hl
  ·obtain ⟨ls', h', rfl⟩ := Option.map_eq_some_iff.1 hl
   rcases List.mem_cons.1 hy with rfl | hy
   ·show (qaG l (qI l frm b) b).length ≤ _
    unfold qaG
    rw [List.length_append]
    have h1 := qcm h (b - qI l frm b) (qI l frm b)
    have h2 := hb b (by simp)
    have h3 := h b
    split
    ·omega
    ·simp; omega
   ·exact ih _ _ h' (fun b hb' => hb b (by simp [hb'])) y hy
  ·cases hl
def lnT (ls : List P48.Line) (k : Nat) : List UInt8 := if k + 1 < ls.length then je (ls.getD k default).text [61] else (ls.getD k default).text
def qfV (ls : List P48.Line) (n : Nat) : List UInt8 := ((List.range n).map (lnT ls)).flatten
theorem qfW (ls : List P48.Line) (n : Nat) : qfV ls (n + 1) = qfV ls n ++ lnT ls n := by unfold qfV; rw [List.range_succ, List.map_append, List.flatten_append]; simp
theorem qmP : ∀ ls : List P48.Line, qfV ls ls.length = qjk ls := by
 intro ls
 induction ls with
 | nil => rfl
 | cons y r ih =>
  unfold qfV
  rw [List.length_cons, List.range_succ_eq_map, List.map_cons, List.map_map, List.flatten_cons]
  have e : (List.range r.length).map (lnT (y :: r) ∘ Nat.succ) = (List.range r.length).map (lnT r) := by
   apply List.map_congr_left
   intro k hk
   show lnT (y :: r) (k + 1) = lnT r k
   unfold lnT
   rw [List.length_cons]
   by_cases g : k + 1 < r.length
   ·rw [if_pos g, if_pos (by omega)]; rfl
   ·rw [if_neg g, if_neg (by omega)]; rfl
  rw [e]
  show _ ++ qfV r r.length = _
  rw [ih]
  cases r with
  | nil => simp [lnT, qjk]
  | cons z r =>
   rw [qjk]
   congr 1
theorem qte {ls : List P48.Line} {M : Nat} (h : ∀ y ∈ ls, y.text.length ≤ M) (k : Nat) (hk : k < ls.length) : (lnT ls k).length ≤ M := by
 have h1 : (ls.getD k default).text.length ≤ M := by
  rw [List.getD_eq_getElem?_getD, List.getElem?_eq_getElem hk]
  exact h _ (List.getElem_mem hk)
 unfold lnT
 split
 ·unfold je
  split
  ·rw [List.length_take]; omega
  ·exact h1
 ·exact h1
theorem qeL {ls : List P48.Line} {M : Nat} (h : ∀ y ∈ ls, y.text.length ≤ M) : ∀ n, n ≤ ls.length → (qfV ls n).length ≤ n * M := by
 intro n
 induction n with
 | zero => intro _; simp [qfV]
 | succ n ih =>
  intro hn
  rw [qfW, List.length_append]
  have := ih (by omega)
  have := qte h n (by omega)
  rw [Nat.succ_mul]
  omega
theorem qlp {l : List It} {W : Int} (hw : jb l W = 0) (hp : 0 ≤ (kp l W).getD 0 0) : ∃ ls, jn l W ((P48.brk l W).map Int.ofNat) = (ls, 0) := by
 have hc : jk l = 0 := by
  unfold jb at hw
  split at hw
  ·rename_i hc; exact hc
  ·cases hw
 have h := qhQ (width := W) hc (l.length + 1) 0 (by omega) (by omega) hp
 rw [qjC] at h
 obtain ⟨h1, h2, ls, h3, _⟩ := h
 refine ⟨ls, ?_⟩
 unfold jn
 rw [if_pos hw, qgK]
 have : qqm l ((P48.brk l W).map Int.ofNat) = true := by
  unfold qqm
  rw [Bool.and_eq_true]
  exact ⟨h1, h2⟩
 rw [if_pos this, qb5]
 have h3' : zk l W 0 (P48.brk l W) = some ls := h3
 rw [h3']
end LN
end
section
open Go Go.Proofs AF HY P48
namespace LN
set_option maxRecDepth 100000
theorem qor {s : List UInt8} (h : Go.Lib.trimS s [32, 61] = s) : s.getLast? ≠ some 61 := by
 intro hc
 unfold Go.Lib.trimS Go.Lib.trimLeftS Go.Lib.trimRightS at h
 have h1 : ((s.reverse.dropWhile ([32, 61].contains ·)).reverse.dropWhile ([32, 61].contains ·)).length < s.length := by
  have e1 := (List.dropWhile_sublist ([(32 : UInt8), 61].contains ·) (l := (s.reverse.dropWhile ([32, 61].contains ·)).reverse)).length_le
  rw [List.length_reverse] at e1
  have e2 : (s.reverse.dropWhile ([(32 : UInt8), 61].contains ·)).length < s.length := by
   rw [← List.head?_reverse] at hc
   cases hr : s.reverse with
   | nil => rw [hr] at hc; simp at hc
   | cons a r =>
    rw [hr] at hc
    simp at hc
    subst hc
    have e3 := (List.dropWhile_sublist ([(32 : UInt8), 61].contains ·) (l := r)).length_le
    have e4 : s.length = r.length + 1 := by rw [← List.length_reverse, hr]; rfl
    rw [List.dropWhile_cons, if_pos (by decide)]
    omega
  omega
 rw [h] at h1
 omega
theorem qum {ws : List Wd} (h : ∀ i, (ws.getD i default).text.length ≤ 10) : ∀ n, (wtT ws n).length ≤ 10 * n := by
 intro n
 induction n with
 | zero => simp [wtT]
 | succ n ih =>
  rw [qc5, List.length_append]
  have := h n
  omega
theorem qlo {l : List It} {W : Int} {ls : List P48.Line} (hw : jb l W = 0) (hl : jn l W ((P48.brk l W).map Int.ofNat) = (ls, 0)) :
  (P48.brk l W).Pairwise (· < ·) ∧ (∀ b ∈ P48.brk l W, b ≤ l.length ∧ qdh l b = true) ∧ l.length ∈ P48.brk l W ∧ (∀ i, i < l.length → zF l i = true → i ∈ P48.brk l W) ∧ (P48.brk l W).getLast? = some l.length := by
 unfold jn at hl
 rw [if_pos hw] at hl
 split at hl
 ·rename_i hb
  unfold ju at hb
  simp only [Bool.and_eq_true] at hb
  obtain ⟨b1, b2, b3⟩ := hb
  obtain ⟨a1, a2⟩ := qhP _ _ b2
  have b1 := of_decide_eq_true b1
  rw [List.getLast?_map] at b1
  have b4 : (P48.brk l W).getLast? = some l.length := by
   cases hg : (P48.brk l W).getLast? with
   | none => rw [hg] at b1; cases b1
   | some b =>
    rw [hg] at b1
    have hx : (b : Int) = (l.length : Int) := by simpa using b1
    congr 1
    omega
  refine ⟨?_, fun b hbm => ?_, List.mem_of_getLast? b4, fun i hi hf => ?_, b4⟩
  ·rw [List.pairwise_map] at a1
   exact a1.imp (fun hx => by simpa using hx)
  ·have := a2 (Int.ofNat b) (List.mem_map.2 ⟨b, hbm, rfl⟩)
   exact ⟨by have := this.2.2.1; simp at this; omega, this.2.2.2⟩
  ·unfold jy at b3
   have := List.all_eq_true.1 b3 i (List.mem_range.2 hi)
   rw [hf] at this
   simp only [Bool.not_true, Bool.false_or] at this
   rw [List.contains_iff_mem] at this
   obtain ⟨b, hbm, hbe⟩ := List.mem_map.1 this
   have : b = i := by have hx : (b : Int) = (i : Int) := hbe; omega
   rw [← this]
   exact hbm
 ·cases hl
set_option maxHeartbeats 16000000 in
theorem a3 (s : Sty) (W : Int) (x : List AV) (ps : List Pat) (ws : List Wd) (h : List AObj) (hps : ps.length ≤ 9223372036854775807) (hws : ws.length ≤ 9223372036854775807) :
  qs Tryz.prog 3 [.agg (za s x ++ [qw ps, qt ws]), .int .i64 W] h (.bool true) h := by
 have c11 := fun h => _root_.t11 h
 have c6 := fun h => t31 s x ps ws h hps hws
 by_cases g0 : qfE ps ws = true
 ·rw [g0] at c6
  unfold za qw qt at c6 ⊢
  refine qo qs6 (by simp) ?_
  simp only [lcP, lnP, Nat.reduceAdd, Nat.reduceSub, List.replicate, caP, naP, List.append_nil]
  simp (disch := omega) only [c3z, go_sem, qc, dvP, mdP]
  repeat' first
   | (refine qP ((.bool false)) ?_; simp (disch := omega) only [go_sem, qc, dvP, mdP])
   | ((first | refine qj (c6 _) ?_ ?_ | refine qj (c11 _) ?_ ?_); (next => exact flk); simp (disch := omega) only [go_sem, qc, dvP, mdP])
   | ((first | refine qn (fun _ => c6 _) ?_ ?_ | refine qn (fun _ => c11 _) ?_ ?_); (next => exact flk); simp (disch := omega) only [go_sem, qc, dvP, mdP])
   | ((first | refine qk (fun e => ⟨?_, c6 _⟩) ?_ | refine qk (fun e => ⟨?_, c11 _⟩) ?_); (next => exact flk); simp (disch := omega) only [go_sem, qc, dvP, mdP])
   | ((first | refine qe ?_ ?_ | refine qg ?_ ?_); (next => exact rvk); simp only [go_sem]; (first | exact VLe.refl _ | refine qh ?_ | refine qd ?_ | refine ql ?_ | skip))
   | with_reducible first | refine And.intro ?_ ?_ | intro _
  all_goals try exact clz
 have g0' : qfE ps ws = false := by simpa using g0
 rw [g0'] at c6
 unfold qfE at g0'
 simp only [Bool.or_eq_false_iff, decide_eq_false_iff_not] at g0'
 obtain ⟨n5, n6, nw, np⟩ := g0'
 have hbig : ∀ i, (ws.getD i default).text.length ≤ 67 := fun i => by
  by_cases hi : i < ws.length
  ·have hm : ws.getD i default ∈ ws := by rw [List.getD_eq_getElem?_getD, List.getElem?_eq_getElem hi]; exact List.getElem_mem hi
   have := List.any_eq_false.1 nw _ hm
   unfold qiz at this
   simp only [Bool.not_eq_true, Bool.or_eq_false_iff, decide_eq_false_iff_not] at this
   omega
  ·rw [List.getD_eq_getElem?_getD, List.getElem?_eq_none (by omega)]; exact Nat.zero_le _
 by_cases gW : 0 ≤ W ∧ W ≤ 1073741824
 case neg =>
  by_cases gw0 : W < 0
  ·have k1 : (W < 0) = True := eq_true gw0
   unfold za qw qt at c6 ⊢
   refine qo qs6 (by simp) ?_
   simp only [lcP, lnP, Nat.reduceAdd, Nat.reduceSub, List.replicate, caP, naP, List.append_nil]
   simp (disch := omega) only [c3z, k1, go_sem, qc, dvP, mdP]
   repeat' first
    | (refine qP ((.bool false)) ?_; simp (disch := omega) only [k1, go_sem, qc, dvP, mdP])
    | ((first | refine qj (c6 _) ?_ ?_ | refine qj (c11 _) ?_ ?_); (next => exact flk); simp (disch := omega) only [k1, go_sem, qc, dvP, mdP])
    | ((first | refine qn (fun _ => c6 _) ?_ ?_ | refine qn (fun _ => c11 _) ?_ ?_); (next => exact flk); simp (disch := omega) only [k1, go_sem, qc, dvP, mdP])
    | ((first | refine qk (fun e => ⟨?_, c6 _⟩) ?_ | refine qk (fun e => ⟨?_, c11 _⟩) ?_); (next => exact flk); simp (disch := omega) only [k1, go_sem, qc, dvP, mdP])
    | ((first | refine qe ?_ ?_ | refine qg ?_ ?_); (next => exact rvk); simp only [go_sem]; (first | exact VLe.refl _ | refine qh ?_ | refine qd ?_ | refine ql ?_ | skip))
    | with_reducible first | refine And.intro ?_ ?_ | intro _
   all_goals try exact clz
  ·have k1 : (W < 0) = False := eq_false gw0
   have k2 : (1073741824 < W) = True := eq_true (by omega)
   unfold za qw qt at c6 ⊢
   refine qo qs6 (by simp) ?_
   simp only [lcP, lnP, Nat.reduceAdd, Nat.reduceSub, List.replicate, caP, naP, List.append_nil]
   simp (disch := omega) only [c3z, k1, k2, go_sem, qc, dvP, mdP]
   repeat' first
    | (refine qP ((.bool false)) ?_; simp (disch := omega) only [k1, k2, go_sem, qc, dvP, mdP])
    | ((first | refine qj (c6 _) ?_ ?_ | refine qj (c11 _) ?_ ?_); (next => exact flk); simp (disch := omega) only [k1, k2, go_sem, qc, dvP, mdP])
    | ((first | refine qn (fun _ => c6 _) ?_ ?_ | refine qn (fun _ => c11 _) ?_ ?_); (next => exact flk); simp (disch := omega) only [k1, k2, go_sem, qc, dvP, mdP])
    | ((first | refine qk (fun e => ⟨?_, c6 _⟩) ?_ | refine qk (fun e => ⟨?_, c11 _⟩) ?_); (next => exact flk); simp (disch := omega) only [k1, k2, go_sem, qc, dvP, mdP])
    | ((first | refine qe ?_ ?_ | refine qg ?_ ?_); (next => exact rvk); simp only [go_sem]; (first | exact VLe.refl _ | refine qh ?_ | refine qd ?_ | refine ql ?_ | skip))
    | with_reducible first | refine And.intro ?_ ?_ | intro _
   all_goals try exact clz
 have k1 : (W < 0) = False := eq_false (by omega)
 have k2 : (1073741824 < W) = False := eq_false (by omega)
 have c7 := fun h => t7b ws qup 8 h (by omega) (fun i h _ => t8b _ h (by have := hbig i; omega))
 by_cases gt : ws.any qup = true
 ·rw [gt] at c7
  unfold za at c6 ⊢
  unfold qw at c6 ⊢
  unfold qt at c6 c7 ⊢
  refine qo qs6 (by simp) ?_
  simp only [lcP, lnP, Nat.reduceAdd, Nat.reduceSub, List.replicate, caP, naP, List.append_nil]
  simp (disch := omega) only [c3z, k1, k2, go_sem, qc, dvP, mdP]
  repeat' first
   | ((first | refine qj (c6 _) ?_ ?_ | refine qj (c7 _) ?_ ?_ | refine qj (c11 _) ?_ ?_); (next => exact flk); simp (disch := omega) only [k1, k2, go_sem, qc, dvP, mdP])
   | ((first | refine qn (fun _ => c6 _) ?_ ?_ | refine qn (fun _ => c7 _) ?_ ?_ | refine qn (fun _ => c11 _) ?_ ?_); (next => exact flk); simp (disch := omega) only [k1, k2, go_sem, qc, dvP, mdP])
   | ((first | refine qk (fun e => ⟨?_, c6 _⟩) ?_ | refine qk (fun e => ⟨?_, c7 _⟩) ?_ | refine qk (fun e => ⟨?_, c11 _⟩) ?_); (next => exact flk); simp (disch := omega) only [k1, k2, go_sem, qc, dvP, mdP])
   | ((first | refine qe ?_ ?_ | refine qg ?_ ?_); (next => exact rvk); simp only [go_sem]; (first | exact VLe.refl _ | refine qh ?_ | refine qd ?_ | refine ql ?_ | skip))
   | with_reducible first | refine And.intro ?_ ?_ | intro _
  all_goals try exact clz
 have gt' : ws.any qup = false := by simpa using gt
 rw [gt'] at c7
 have hwd : ∀ i, i < ws.length → Go.Lib.trimS (ws.getD i default).text [32, 61] = (ws.getD i default).text ∧ (ws.getD i default).text.count 32 = 0 := fun i hi => by
  have hm : ws.getD i default ∈ ws := by rw [List.getD_eq_getElem?_getD, List.getElem?_eq_getElem hi]; exact List.getElem_mem hi
  have := List.any_eq_false.1 gt' _ hm
  unfold qup at this
  simp only [Bool.not_eq_true, Bool.or_eq_false_iff, decide_eq_false_iff_not, Decidable.not_not] at this
  exact ⟨this.1, by omega⟩
 have hok : qa6 ps := by
  refine ⟨by omega, fun i hi => ?_⟩
  have hm : ps.getD i default ∈ ps := by rw [List.getD_eq_getElem?_getD, List.getElem?_eq_getElem hi]; exact List.getElem_mem hi
  have := List.any_eq_false.1 np _ hm
  unfold qfk at this
  simp only [Bool.not_eq_true, Bool.or_eq_false_iff, decide_eq_false_iff_not] at this
  omega
 have c12 : ∀ h, qs Tryz.prog 12 [.agg (za s x), qw ps, qt ws] h (.tup [qu (qao s ps ws), .int .i64 (jd s ps ws)]) h := fun h => t32 s x ps ws h hok (by omega)
 obtain ⟨l, hl⟩ : ∃ l, l = qao s ps ws := ⟨_, rfl⟩
 obtain ⟨e, he⟩ : ∃ e, e = jd s ps ws := ⟨_, rfl⟩
 rw [← hl, ← he] at c12
 by_cases g5 : e = 0
 case neg =>
  have k5 : (e = 0) = False := eq_false g5
  have hl0 : l = [] := by rw [hl]; unfold qao; rw [if_neg (by rw [← he]; exact g5)]
  rw [hl0] at c12
  unfold za at c6 c12 ⊢
  unfold qw at c6 c12 ⊢
  unfold qt at c6 c7 c12 ⊢
  unfold qu at c12
  refine qo qs6 (by simp) ?_
  simp only [lcP, lnP, Nat.reduceAdd, Nat.reduceSub, List.replicate, caP, naP, List.append_nil]
  simp (disch := omega) only [c3z, k1, k2, k5, go_sem, qc, dvP, mdP]
  repeat' first
   | ((first | refine qj (c6 _) ?_ ?_ | refine qj (c7 _) ?_ ?_ | refine qj (c12 _) ?_ ?_ | refine qj (c11 _) ?_ ?_); (next => exact flk); simp (disch := omega) only [k1, k2, k5, go_sem, qc, dvP, mdP])
   | ((first | refine qn (fun _ => c6 _) ?_ ?_ | refine qn (fun _ => c7 _) ?_ ?_ | refine qn (fun _ => c12 _) ?_ ?_ | refine qn (fun _ => c11 _) ?_ ?_); (next => exact flk); simp (disch := omega) only [k1, k2, k5, go_sem, qc, dvP, mdP])
   | ((first | refine qk (fun e => ⟨?_, c6 _⟩) ?_ | refine qk (fun e => ⟨?_, c7 _⟩) ?_ | refine qk (fun e => ⟨?_, c12 _⟩) ?_ | refine qk (fun e => ⟨?_, c11 _⟩) ?_); (next => exact flk); simp (disch := omega) only [k1, k2, k5, go_sem, qc, dvP, mdP])
   | ((first | refine qe ?_ ?_ | refine qg ?_ ?_); (next => exact rvk); simp only [go_sem]; (first | exact VLe.refl _ | refine qh ?_ | refine qd ?_ | refine ql ?_ | skip))
   | with_reducible first | refine And.intro ?_ ?_ | intro _
  all_goals try exact clz
 have k5 : (e = 0) = True := eq_true g5
 have hE : jd s ps ws = 0 := by rw [← he]; exact g5
 have hlw : l = zi s ps ws ws.length := by rw [hl]; unfold qao; rw [if_pos hE]
 have hE2 : kk s = true ∧ ws.any qbp = false ∧ jk (zi s ps ws ws.length) = 0 := by
  unfold jd at hE
  split at hE
  ·cases hE
  ·rename_i h1
   split at hE
   ·cases hE
   ·rename_i h2
    split at hE
    ·cases hE
    ·split at hE
     ·cases hE
     ·rename_i h4
      refine ⟨by simpa using h1, ?_, by simpa using h4⟩
      cases hb : ws.any qbp with
      | false => rfl
      | true => exact absurd (.inr hb) h2
 obtain ⟨hro, hbw, hck⟩ := hE2
 have hh : s.hy ≠ -10000 := by
  unfold kk at hro
  simp only [Bool.and_eq_true, decide_eq_true_eq] at hro
  omega
 have hw10 : ∀ i, (ws.getD i default).text.length ≤ 10 := fun i => by
  by_cases hi : i < ws.length
  ·have hm : ws.getD i default ∈ ws := by rw [List.getD_eq_getElem?_getD, List.getElem?_eq_getElem hi]; exact List.getElem_mem hi
   have h1 := List.any_eq_false.1 nw _ hm
   have h2 := List.any_eq_false.1 hbw _ hm
   unfold qiz at h1
   unfold qbp at h2
   simp only [Bool.not_eq_true, Bool.or_eq_false_iff, Bool.and_eq_false_iff, decide_eq_false_iff_not] at h1 h2
   omega
  ·rw [List.getD_eq_getElem?_getD, List.getElem?_eq_none (by omega)]; exact Nat.zero_le _
 have hwne : ∀ i, i < ws.length → (ws.getD i default).text ≠ [] ∧ (ws.getD i default).text.getLast? ≠ some 61 := fun i hi => by
  have hm : ws.getD i default ∈ ws := by rw [List.getD_eq_getElem?_getD, List.getElem?_eq_getElem hi]; exact List.getElem_mem hi
  have h2 := List.any_eq_false.1 hbw _ hm
  unfold qbp at h2
  simp only [Bool.not_eq_true, Bool.or_eq_false_iff, decide_eq_false_iff_not] at h2
  exact ⟨h2.1, qor (hwd i hi).1⟩
 have hll : l.length ≤ 138 := by rw [hlw]; have := qoZ s ps ws hw10 ws.length; omega
 have hlt : ∀ i, (it l i).text.length ≤ 10 := fun i => by
  by_cases hi : i < l.length
  ·have hm : it l i ∈ l := by rw [qmK hi]; exact List.getElem_mem hi
   have hm' : it l i ∈ zi s ps ws ws.length := by rw [← hlw]; exact hm
   exact qo3 s ps ws hw10 _ _ hm'
  ·have : it l i = default := by unfold it; rw [List.getD_eq_getElem?_getD, List.getElem?_eq_none (by omega)]; rfl
   rw [this]
   exact Nat.zero_le _
 have hcw : jb l W = 0 := by
  unfold jb qbb
  rw [← hlw] at hck
  rw [if_pos hck, if_pos (by simp; omega)]
 have c13 : ∀ h, qs Tryz.prog 13 [qu l, .int .i64 W] h (jj l W) h := fun h => _root_.t13 l W h (by omega)
 unfold jj at c13
 rw [if_pos hcw] at c13
 by_cases gp : (kp l W).getD 0 0 < 0
 ·rw [if_pos gp] at c13
  unfold za at c6 c12 ⊢
  unfold qw at c6 c12 ⊢
  unfold qt at c6 c7 c12 ⊢
  refine qo qs6 (by simp) ?_
  simp only [lcP, lnP, Nat.reduceAdd, Nat.reduceSub, List.replicate, caP, naP, List.append_nil]
  simp (disch := omega) only [c3z, k1, k2, k5, go_sem, qc, dvP, mdP]
  repeat' first
   | ((first | refine qj (c6 _) ?_ ?_ | refine qj (c7 _) ?_ ?_ | refine qj (c12 _) ?_ ?_ | refine qj (c13 _) ?_ ?_ | refine qj (c11 _) ?_ ?_); (next => exact flk); simp (disch := omega) only [k1, k2, k5, go_sem, qc, dvP, mdP])
   | ((first | refine qn (fun _ => c6 _) ?_ ?_ | refine qn (fun _ => c7 _) ?_ ?_ | refine qn (fun _ => c12 _) ?_ ?_ | refine qn (fun _ => c13 _) ?_ ?_ | refine qn (fun _ => c11 _) ?_ ?_); (next => exact flk); simp (disch := omega) only [k1, k2, k5, go_sem, qc, dvP, mdP])
   | ((first | refine qk (fun e => ⟨?_, c6 _⟩) ?_ | refine qk (fun e => ⟨?_, c7 _⟩) ?_ | refine qk (fun e => ⟨?_, c12 _⟩) ?_ | refine qk (fun e => ⟨?_, c13 _⟩) ?_ | refine qk (fun e => ⟨?_, c11 _⟩) ?_); (next => exact flk); simp (disch := omega) only [k1, k2, k5, go_sem, qc, dvP, mdP])
   | ((first | refine qe ?_ ?_ | refine qg ?_ ?_); (next => exact rvk); simp only [go_sem]; (first | exact VLe.refl _ | refine qh ?_ | refine qd ?_ | refine ql ?_ | skip))
   | with_reducible first | refine And.intro ?_ ?_ | intro _
  all_goals try exact clz
 rw [if_neg gp] at c13
 obtain ⟨ls, hls⟩ := qlp hcw (by omega)
 obtain ⟨bs, hbs⟩ : ∃ bs, bs = (P48.brk l W).map Int.ofNat := ⟨_, rfl⟩
 have hbl : bs.length ≤ 1000000 := by
  rw [hbs, List.length_map]
  have := qdb l W (kp l W) (l.length + 1) 0
  unfold P48.brk
  omega
 have c14 : ∀ h, qs Tryz.prog 14 [qu l, .int .i64 W, qy bs] h (.tup [qD (ls.map kU), .int .i64 0]) h := fun h => by
  have := _root_.t16 l W bs h (by omega) hbl (fun i => by have := hlt i; omega)
  rw [hbs, hls, qrY, ← hbs] at this
  exact this
 rw [← hbs] at c13
 obtain ⟨po, hpo⟩ : ∃ po, po = (kp l W).getD 0 0 := ⟨_, rfl⟩
 rw [← hpo] at c13
 have c13 : ∀ h, qs Tryz.prog 13 [qu l, .int .i64 W] h (.tup [qy bs, .int .i64 po, .int .i64 0]) h := c13
 have c15 := fun (y : List UInt8) (h : List AObj) (hy : y.length ≤ 1000000000) => _root_.HY.t100 y [61] h hy (by simp)
 have hlen : (ls.map kU).length = ls.length := by simp
 unfold za at c6 c12 ⊢
 unfold qw at c6 c12 ⊢
 unfold qt at c6 c7 c12 ⊢
 unfold qD qy at c14
 unfold qy at c13
 rw [hlen] at c14
 refine qo qs6 (by simp) ?_
 simp only [lcP, lnP, Nat.reduceAdd, Nat.reduceSub, List.replicate, caP, naP, List.append_nil]
 simp (disch := omega) only [c3z, k1, k2, k5, go_sem, qc, dvP, mdP]
 repeat' first
  | ((first | refine qj (c6 _) ?_ ?_ | refine qj (c7 _) ?_ ?_ | refine qj (c12 _) ?_ ?_ | refine qj (c13 _) ?_ ?_ | refine qj (c14 _) ?_ ?_); (next => exact flk); simp (disch := omega) only [k1, k2, k5, go_sem, qc, dvP, mdP])
  | ((first | refine qn (fun _ => c6 _) ?_ ?_ | refine qn (fun _ => c7 _) ?_ ?_ | refine qn (fun _ => c12 _) ?_ ?_ | refine qn (fun _ => c13 _) ?_ ?_ | refine qn (fun _ => c14 _) ?_ ?_); (next => exact flk); simp (disch := omega) only [k1, k2, k5, go_sem, qc, dvP, mdP])
  | ((first | refine qk (fun e => ⟨?_, c6 _⟩) ?_ | refine qk (fun e => ⟨?_, c7 _⟩) ?_ | refine qk (fun e => ⟨?_, c12 _⟩) ?_ | refine qk (fun e => ⟨?_, c13 _⟩) ?_ | refine qk (fun e => ⟨?_, c14 _⟩) ?_); (next => exact flk); simp (disch := omega) only [k1, k2, k5, go_sem, qc, dvP, mdP])
  | ((first | refine qe ?_ ?_ | refine qg ?_ ?_); (next => exact rvk); simp only [go_sem]; (first | exact VLe.refl _ | refine qh ?_ | refine qd ?_ | refine ql ?_ | skip))
  | with_reducible first | refine And.intro ?_ ?_ | intro _
 all_goals try exact clz
 have hnb : ki bs = P48.brk l W := by rw [hbs, qb5]
 have hgo : zk l W 0 (P48.brk l W) = some ls := by
  have := hls
  unfold jn at this
  rw [if_pos hcw] at this
  split at this
  ·rw [qb5] at this
   split at this
   ·rename_i q hq; cases this; exact hq
   ·cases this
  ·cases this
 obtain ⟨g1, g2, g3, g4, g6⟩ : (P48.brk l W).Pairwise (· < ·) ∧ (∀ b ∈ P48.brk l W, b ≤ l.length ∧ qdh l b = true) ∧ l.length ∈ P48.brk l W ∧ (∀ i, i < l.length → zF l i = true → i ∈ P48.brk l W) ∧ (P48.brk l W).getLast? = some l.length := qlo hcw hls
 have hlb := qae _ _ _ hgo
 have hgood := (qjb hh ps ws hwne ws.length (Nat.le_refl _)).1
 rw [← hlw] at hgood
 have hjoin := qjl hgood _ 0 ls hgo g1 (fun b hb => ⟨Nat.zero_le _, g2 b hb⟩) g6
 rw [← qmP] at hjoin
 have hbx : bxL l = wtT ws ws.length := by rw [hlw]; exact qlt s ps ws ws.length
 rw [qpn, hbx, qun (fun i hi => (hwd i hi).2) _ (Nat.le_refl _)] at hjoin
 have hver : qoQ ws ws.length < ls.length := by
  have h1 := qyC g3 g4
  have h2 := qmt hh ps ws ws.length
  rw [← hlw] at h2
  rw [hlb, ← h2]
  exact h1
 have htx := qmN hlt _ 0 ls hgo (fun b hb => (g2 b hb).1)
 have hl139 : ls.length ≤ 140 := by
  have h1 := qdb l W (kp l W) (l.length + 1) 0
  have h2 : (P48.brk l W).length ≤ l.length + 1 := h1
  omega
 have htl := qeL htx ls.length (Nat.le_refl _)
 have htl2 : (qfV ls ls.length).length ≤ 140 * 1390 := Nat.le_trans htl (Nat.mul_le_mul hl139 (by omega))
 have c16 := fun h => qAE (qfV ls ls.length) h (by omega)
 rw [hjoin] at c16
 obtain ⟨SO, hSO⟩ : ∃ SO, SO = AObj.mem 1 29 [x.getD 0 .undef, x.getD 1 .undef, x.getD 2 .undef, x.getD 3 .undef, x.getD 4 .undef, .int .i64 s.sp, .int .i64 s.st, .int .i64 s.sh, .int .i64 s.le, .int .i64 s.hy, x.getD 5 .undef, x.getD 6 .undef, x.getD 7 .undef, .sl ps.length fun i => qbo (ps.getD i default), .sl ws.length fun i => qY (ws.getD i default)] := ⟨_, rfl⟩
 rw [← hSO]
 refine qJ (T := fun k : Nat × AObj => qv 131 [(2, .op h.length 1 0), (10, .sl ls.length fun i => qN ((ls.map kU).getD i default)), (12, .str (qfV ls k.1)), (13, .str []), (77, .sl ls.length fun i => qN ((ls.map kU).getD i default)), (78, .int .i64 ls.length), (79, .int .i64 k.1)])
  (H := fun k => h ++ [SO, k.2, .emp 0]) (inv := fun k => k.1 ≤ ls.length ∧ zf [k.2] 0 = true) (m := fun k => ls.length - k.1) (0, .emp 0) ⟨Nat.zero_le _, rfl⟩ (Wk.temps ?_) ?_
 ·have e0 : qfV ls 0 = [] := rfl
  (simp only [e0, qv, List.foldl, List.replicate, go_sem, qr, qp, qm, qq]; try (repeat' first | (with_reducible refine And.intro ?_ ?_) | (refine qh ?_; omega) | (refine qd ?_; rfl) | exact VLe.refl _))
 rintro ⟨k, O⟩ ⟨i1, i2⟩ K hK
 simp only at i1 i2 hK
 have k2' : ∀ m, zf (O :: m) 0 = true := fun _ => i2
 by_cases hk : k < ls.length
 ·have y0 : ((k : Int) < ls.length) = True := eq_true (by omega)
  obtain ⟨y, hy⟩ : ∃ y, y = (ls.map kU).getD k default := ⟨_, rfl⟩
  have ey := hy.symm
  have hyl : y.text = (ls.getD k default).text := by
   rw [hy, List.getD_eq_getElem?_getD, List.getD_eq_getElem?_getD, List.getElem?_map, List.getElem?_eq_getElem hk]; rfl
  have hyt : y.text.length ≤ 1000000000 := by
   rw [hyl, List.getD_eq_getElem?_getD, List.getElem?_eq_getElem hk]
   have := htx _ (List.getElem_mem hk)
   show ls[k].text.length ≤ _
   omega
  have c15 := fun h => c15 y.text h hyt
  have hT : qfV ls (k + 1) = qfV ls k ++ (if k + 1 < ls.length then je y.text [61] else y.text) := by rw [qfW, lnT, hyl]
  by_cases hk1 : k + 1 < ls.length
  ·have y1 : ((k : Int) < (ls.length : Int) - 1) = True := eq_true (by omega)
   rw [if_pos hk1] at hT
   have hTl : (qfV ls k).length + (je y.text [61]).length ≤ 9223372036854775807 := by
    have h1 := qeL htx (k + 1) (by omega)
    have h2 := Nat.mul_le_mul (show k + 1 ≤ 140 by omega) (show 10 * (l.length + 1) ≤ 1390 by omega)
    rw [hT, List.length_append] at h1
    omega
   simp (disch := omega) only [qv, qN, List.foldl, List.replicate, k2', ey, y0, y1, go_sem, qc, dvP, mdP]
   repeat' first
    | ((first | refine qj (c15 _) ?_ ?_); (next => exact flk); simp (disch := omega) only [qN, k2', ey, y0, y1, go_sem, qc, dvP, mdP])
    | ((first | refine qn (fun _ => c15 _) ?_ ?_); (next => exact flk); simp (disch := omega) only [qN, k2', ey, y0, y1, go_sem, qc, dvP, mdP])
    | ((first | refine qk (fun e => ⟨?_, c15 _⟩) ?_); (next => exact flk); simp (disch := omega) only [qN, k2', ey, y0, y1, go_sem, qc, dvP, mdP])
    | ((first | refine qe ?_ ?_ | refine qg ?_ ?_); (next => exact rvk); simp only [go_sem]; (first | exact VLe.refl _ | refine qh ?_ | refine qd ?_ | refine ql ?_ | skip))
    | with_reducible first | refine And.intro ?_ ?_ | intro _
   all_goals try exact clz
   refine hK _ _ (k + 1, .mem (qA (some O) + 1) 49 [.int .i64 y.frm, .int .i64 y.to, .int .i64 y.bad, .int .i64 y.chg, .str y.text]) ⟨hk, rfl⟩ (by simp only; omega) (Wk.temps ?_)
   rw [hT]
   (simp only [qN, qv, List.foldl, List.replicate, go_sem, qr, qp, qm, qq]; try (repeat' first | (with_reducible refine And.intro ?_ ?_) | (refine qh ?_; omega) | (refine qd ?_; rfl) | exact VLe.refl _))
  ·have y1 : ((k : Int) < (ls.length : Int) - 1) = False := eq_false (by omega)
   rw [if_neg hk1] at hT
   have hTl : (qfV ls k).length + y.text.length ≤ 9223372036854775807 := by
    have h1 := qeL htx (k + 1) (by omega)
    have h2 := Nat.mul_le_mul (show k + 1 ≤ 140 by omega) (show 10 * (l.length + 1) ≤ 1390 by omega)
    rw [hT, List.length_append] at h1
    omega
   simp (disch := omega) only [qv, qN, List.foldl, List.replicate, k2', ey, y0, y1, go_sem, qc, dvP, mdP]
   repeat' first
    | ((first | refine qe ?_ ?_ | refine qg ?_ ?_); (next => exact rvk); simp only [go_sem]; (first | exact VLe.refl _ | refine qh ?_ | refine qd ?_ | refine ql ?_ | skip))
    | with_reducible first | refine And.intro ?_ ?_ | intro _
   all_goals try exact clz
   refine hK _ _ (k + 1, .mem (qA (some O) + 1) 49 [.int .i64 y.frm, .int .i64 y.to, .int .i64 y.bad, .int .i64 y.chg, .str y.text]) ⟨hk, rfl⟩ (by simp only; omega) (Wk.temps ?_)
   rw [hT]
   (simp only [qN, qv, List.foldl, List.replicate, go_sem, qr, qp, qm, qq]; try (repeat' first | (with_reducible refine And.intro ?_ ?_) | (refine qh ?_; omega) | (refine qd ?_; rfl) | exact VLe.refl _))
 have ek : k = ls.length := by omega
 subst ek
 have y0 : ((ls.length : Int) < ls.length) = False := eq_false (by omega)
 rw [hSO]
 simp (disch := omega) only [qv, List.foldl, List.replicate, y0, go_sem, qc, dvP, mdP]
 repeat' first
  | ((first | refine qe ?_ ?_ | refine qg ?_ ?_); (next => exact rvk); simp only [go_sem]; (first | exact VLe.refl _ | refine qh ?_ | refine qd ?_ | refine ql ?_ | skip))
  | with_reducible first | refine And.intro ?_ ?_ | intro _
 all_goals try exact clz
 rw [← hSO]
 obtain ⟨T, hT⟩ : ∃ T, T = qfV ls ls.length := ⟨_, rfl⟩
 rw [← hT] at c16 ⊢
 refine qJ (T := fun k : Nat × AObj => qv 131 [(10, .sl ls.length fun i => qN ((ls.map kU).getD i default)), (12, .str T), (13, .str (wtT ws k.1)), (17, .int .i64 (qoQ ws k.1)), (98, .sl ws.length fun i => qY (ws.getD i default)), (99, .int .i64 ws.length), (100, .int .i64 k.1)])
  (H := fun k => h ++ [SO, O, k.2]) (inv := fun k => k.1 ≤ ws.length ∧ zf [k.2] 0 = true ∧ (qoQ ws k.1 : Int) ≤ k.1) (m := fun k => ws.length - k.1) (0, .emp 0) ⟨Nat.zero_le _, rfl, by simp [qoQ]⟩ (Wk.temps ?_) ?_
 ·have e0 : wtT ws 0 = [] := rfl
  have e1 : ((qoQ ws 0 : Nat) : Int) = 0 := rfl
  (simp only [e0, e1, qv, List.foldl, List.replicate, go_sem, qr, qp, qm, qq]; try (repeat' first | (with_reducible refine And.intro ?_ ?_) | (refine qh ?_; omega) | (refine qd ?_; rfl) | exact VLe.refl _))
 rintro ⟨i, Q⟩ ⟨j1, j2, j3⟩ K2 hK2
 simp only at j1 j2 j3 hK2
 have j2' : ∀ m, zf (Q :: m) 0 = true := fun _ => j2
 obtain ⟨V, hV⟩ : ∃ V, V = qoQ ws i := ⟨_, rfl⟩
 rw [← hV] at j3 ⊢
 by_cases hi : i < ws.length
 ·have y0 : ((i : Int) < ws.length) = True := eq_true (by omega)
  obtain ⟨w, hw⟩ : ∃ w, w = ws.getD i default := ⟨_, rfl⟩
  have ew := hw.symm
  have hX : wtT ws (i + 1) = wtT ws i ++ w.text := by rw [qc5, ew]
  have hXl : (wtT ws i).length + w.text.length ≤ 9223372036854775807 := by
   have h1 := qum hw10 (i + 1)
   rw [hX, List.length_append] at h1
   omega
  have hN : qoQ ws (i + 1) = V + if 0 < i ∧ w.verse = true then 1 else 0 := by rw [qoQ, ew, hV]
  by_cases hi0 : 0 < i
  ·have y1 : (0 < (i : Int)) = True := eq_true (by omega)
   cases hv : w.verse with
   | true =>
    rw [if_pos ⟨hi0, hv⟩] at hN
    have e2 : ((V + 1 : Nat) : Int) = (V : Int) + 1 := by omega
    simp (disch := omega) only [qv, qY, List.foldl, List.replicate, j2', ew, hv, y0, y1, go_sem, qc, dvP, mdP]
    repeat' first
     | ((first | refine qe ?_ ?_ | refine qg ?_ ?_); (next => exact rvk); simp only [go_sem]; (first | exact VLe.refl _ | refine qh ?_ | refine qd ?_ | refine ql ?_ | skip))
     | with_reducible first | refine And.intro ?_ ?_ | intro _
    all_goals try exact clz
    refine hK2 _ _ (i + 1, .mem (qA (some Q) + 1) 33 [.str w.text, .int .i64 w.col, .int .i64 w.unit, .int .i64 w.dec, .bool w.joined, .bool true, .str w.name]) ⟨hi, rfl, by simp only; rw [hN]; omega⟩ (by simp only; omega) (Wk.temps ?_)
    rw [hX, hN, e2]
    (simp only [qY, hv, qv, List.foldl, List.replicate, go_sem, qr, qp, qm, qq]; try (repeat' first | (with_reducible refine And.intro ?_ ?_) | (refine qh ?_; omega) | (refine qd ?_; rfl) | exact VLe.refl _))
   | false =>
    rw [if_neg (by rw [hv]; simp)] at hN
    simp (disch := omega) only [qv, qY, List.foldl, List.replicate, j2', ew, hv, y0, y1, go_sem, qc, dvP, mdP]
    repeat' first
     | ((first | refine qe ?_ ?_ | refine qg ?_ ?_); (next => exact rvk); simp only [go_sem]; (first | exact VLe.refl _ | refine qh ?_ | refine qd ?_ | refine ql ?_ | skip))
     | with_reducible first | refine And.intro ?_ ?_ | intro _
    all_goals try exact clz
    refine hK2 _ _ (i + 1, .mem (qA (some Q) + 1) 33 [.str w.text, .int .i64 w.col, .int .i64 w.unit, .int .i64 w.dec, .bool w.joined, .bool false, .str w.name]) ⟨hi, rfl, by simp only; rw [hN]; omega⟩ (by simp only; omega) (Wk.temps ?_)
    rw [hX, hN, Nat.add_zero]
    (simp only [qY, hv, qv, List.foldl, List.replicate, go_sem, qr, qp, qm, qq]; try (repeat' first | (with_reducible refine And.intro ?_ ?_) | (refine qh ?_; omega) | (refine qd ?_; rfl) | exact VLe.refl _))
  ·have y1 : (0 < (i : Int)) = False := eq_false (by omega)
   rw [if_neg (fun hc => hi0 hc.1)] at hN
   simp (disch := omega) only [qv, qY, List.foldl, List.replicate, j2', ew, y0, y1, go_sem, qc, dvP, mdP]
   repeat' first
    | ((first | refine qe ?_ ?_ | refine qg ?_ ?_); (next => exact rvk); simp only [go_sem]; (first | exact VLe.refl _ | refine qh ?_ | refine qd ?_ | refine ql ?_ | skip))
    | with_reducible first | refine And.intro ?_ ?_ | intro _
   all_goals try exact clz
   refine hK2 _ _ (i + 1, .mem (qA (some Q) + 1) 33 [.str w.text, .int .i64 w.col, .int .i64 w.unit, .int .i64 w.dec, .bool w.joined, .bool w.verse, .str w.name]) ⟨hi, rfl, by simp only; rw [hN]; omega⟩ (by simp only; omega) (Wk.temps ?_)
   rw [hX, hN, Nat.add_zero]
   (simp only [qY, qv, List.foldl, List.replicate, go_sem, qr, qp, qm, qq]; try (repeat' first | (with_reducible refine And.intro ?_ ?_) | (refine qh ?_; omega) | (refine qd ?_; rfl) | exact VLe.refl _))
 have ei : i = ws.length := by omega
 subst ei
 have y0 : ((ws.length : Int) < ws.length) = False := eq_false (by omega)
 have y1 : ((V : Int) < ls.length) = True := eq_true (by omega)
 simp (disch := omega) only [qv, List.foldl, List.replicate, y0, y1, go_sem, qc, dvP, mdP]
 repeat' first
  | ((first | refine qj (c16 _) ?_ ?_ | refine qj (c11 _) ?_ ?_); (next => exact flk); simp (disch := omega) only [y0, y1, go_sem, qc, dvP, mdP])
  | ((first | refine qn (fun _ => c16 _) ?_ ?_ | refine qn (fun _ => c11 _) ?_ ?_); (next => exact flk); simp (disch := omega) only [y0, y1, go_sem, qc, dvP, mdP])
  | ((first | refine qk (fun e => ⟨?_, c16 _⟩) ?_ | refine qk (fun e => ⟨?_, c11 _⟩) ?_); (next => exact flk); simp (disch := omega) only [y0, y1, go_sem, qc, dvP, mdP])
  | ((first | refine qe ?_ ?_ | refine qg ?_ ?_); (next => exact rvk); simp only [go_sem]; (first | exact VLe.refl _ | refine qh ?_ | refine qd ?_ | refine ql ?_ | skip))
  | with_reducible first | refine And.intro ?_ ?_ | intro _
 all_goals try exact clz
end LN
end

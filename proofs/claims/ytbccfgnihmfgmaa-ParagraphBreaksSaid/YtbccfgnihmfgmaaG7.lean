import Derived.Test.YtbccfgnihmfgmaaG6
import Derived.Test.YtbccfgnihmfgmaaG2
import Derived.Test.YtbccfgnihmfgmaaG2b
import Derived.RangeFuncBox
import Derived.Laws.Rows
import Derived.Test.YtbccfgnihmfgmaaG5
set_option linter.all false
set_option linter.unusedSimpArgs false
set_option linter.unusedVariables false
set_option linter.unusedSectionVars false
section
/-! the text BA -/
open Go Go.Proofs AF P48
set_option maxRecDepth 100000

theorem okF_of {P : Program} {f : FuncId} {fn : Func} (h : P.funcs[f]? = some fn) (h1 : fn.body.isSome = true) (h2 : (fn.name != "runtime.NumGoroutine") = true) : okF P f = true := by
  unfold okF; rw [h]; simp [h1, h2]

/-- copyCheck: a builder knows its own address behind it. -/
theorem t97 (kb vb : Nat) (A B : AV) (h : List AObj) (hk : getO kb h = some (.mem vb 112 [A, B])) (hA : A = .nilp ∨ A = .op kb vb 0) : ACalls Try.prog 97 [.op kb vb 0] h (.tup []) (setO kb h (.mem vb 112 [.op kb vb 0, B])) := by
  refine ⟨okF_of Try.func97 (by kernel_rfl) (by kernel_rfl), fun w σ xs H hv => ?_⟩
  obtain ⟨x, rfl, hx⟩ := hv.one
  have hc := cellsOf_of hk
  obtain ⟨cs, o, b, arr, g1, rfl, g2, g3, g4, g5, g6, g7, g9, g8⟩ := op_live H hx (by rw [hc]; rfl)
  rw [hc] at g1
  cases g1
  have hobj := H.obj kb _ o hk g2
  obtain ⟨_, hty, _⟩ := hobj
  rw [hty] at g5
  have hsz : 2 ≤ arr.size := g7
  have hc0 : w.cell? ⟨b, 0, none⟩ = some arr[0] := by rw [cell_of g5]; simp
  have hA0 := g8 0 A arr[0] rfl (by simp)
  have hsh : w.shape? b = some (112, arr.size) := by simp [World.shape?, g5]
  have hfz : w.frozen? ⟨b, 0, none⟩ = false := by simp [World.frozen?, g5]
  have hkl := getO_lt hk
  rcases hA with rfl | rfl
  · rw [vr_nilp hA0] at hc0
    refine (callsIn_wide.2 (cc_fresh b w hc0 arr.size hsz hsh hfz)).mono ?_
    rintro e w' ⟨rfl, rfl⟩
    have hg : w.grownBy (w.setCell ⟨b, 0, none⟩ (.pointer (some ⟨b, 0, none⟩))) o.blk := by rw [g4]; exact grownBy_setCell' w b _
    have hh := heap_setCell_same w b 0 arr 112 (.pointer (some ⟨b, 0, none⟩)) g5
    obtain ⟨u1, u2⟩ := H.update (o' := o) (a' := .mem vb 112 [.op kb vb 0, B]) g2 hg (Nat.le_refl _) (fun _ => rfl)
      (by intro b' e; rw [g4] at e; cases e; exact ⟨.inl g4, (Array.getElem?_eq_some_iff.1 hh).1⟩) (fun b' r e hr => by rw [g4] at e; cases e; rw [g5] at hr; cases hr)
      (fun e => ⟨g3, hty, b, _, g4, by rw [hty]; exact hh, by simp [g6], by simp; exact hsz, fun i y hi hy => by
        simp only [Array.getElem?_setIfInBounds] at hy
        split at hy
        · split at hy
          · cases hy; rfl
          · cases hy
        · exact g9 i y (by simpa using hi) hy, fun i c y hc hy => by
        simp only [Array.getElem?_setIfInBounds] at hy
        split at hy
        · rename_i e0
          split at hy
          · cases hy
            subst e0
            simp at hc
            subst hc
            have hko : (σ.set kb o)[kb]? = some o := by rw [List.getElem?_set_self (by rw [H.len]; exact hkl)]
            exact .op o hko ⟨_, rfl⟩ (by omega) (fun _ => ⟨b, g4, rfl⟩)
          · cases hy
        · rename_i e0
          have : i = 1 ∨ 2 ≤ i := by omega
          rcases this with rfl | h2
          · exact (g8 1 c y hc hy).ext e
          · match i, h2, hc with
            | i + 2, _, hc => simp at hc⟩)
    exact ⟨_, _, rfl, u1, .imm (.tup rfl (fun i c x hc => by simp at hc)), u2⟩
  · obtain ⟨o', q1, q2, q3⟩ := vr_op hA0
    rw [g2] at q1
    cases q1
    obtain ⟨b', q4, q5⟩ := q3 g3
    rw [g4] at q4
    cases q4
    rw [q5] at hc0
    refine (callsIn_wide.2 (cc_used b w hc0)).mono ?_
    rintro e w' ⟨rfl, rfl⟩
    rw [setO_same hk]
    exact ⟨_, σ, rfl, H, .imm (.tup rfl (fun i c x hc => by simp at hc)), Ext.refl w' σ⟩
end

section
/-! the text BB -/
open Go Go.Proofs AF P48
set_option maxRecDepth 100000
def bufO (v : Nat) (s : List UInt8) : AObj := if s = [] then .emp v else .mem v 5 (bytesA s)
theorem bufO_nil (v : Nat) : bufO v [] = .emp v := rfl
theorem bufO_ne {s : List UInt8} (h : s ≠ []) (v : Nat) : bufO v s = .mem v 5 (bytesA s) := if_neg h
theorem bytesA_len (s : List UInt8) : (bytesA s).length = s.length := by simp [bytesA]
theorem bytesA_app (s u : List UInt8) : bytesA (s ++ u) = bytesA s ++ bytesA u := by simp [bytesA]
theorem bytesA_low (s : List UInt8) (n : Nat) : ∀ c ∈ bytesA s, lowV n c = true := by
  intro c hc
  unfold bytesA at hc
  rw [List.mem_map] at hc
  obtain ⟨a, _, rfl⟩ := hc
  rfl
theorem bufO_low (v : Nat) (s : List UInt8) (n : Nat) : lowO n (bufO v s) := by
  unfold bufO
  split
  · trivial
  · exact bytesA_low s n

theorem bld_set {kb kj : Nat} {h : List AObj} {X Y Z : AObj} (hne : kb ≠ kj) : setO kb (setO kj (setO kb h X) Y) Z = setO kj (setO kb h Z) Y := by
  rw [setO_comm hne, setO_setO]
theorem bld_low {kb vb kj v m : Nat} {h : List AObj} {s : List UInt8} (hkl : kb < h.length) (hjl : kj < h.length) : ∀ o ∈ setO kj (setO kb h (.mem vb 112 [.op kb vb 0, .osl kj v 1 0 m])) (bufO v s), o ∈ h ∨ lowO h.length o := by
  intro o ho
  rcases mem_setO ho with h1 | rfl
  · rcases mem_setO h1 with h2 | rfl
    · exact .inl h2
    · right
      intro c hc
      simp only [List.mem_cons, List.not_mem_nil, or_false] at hc
      rcases hc with rfl | rfl
      · simpa [lowV] using hkl
      · simpa [lowV] using hjl
  · exact .inr (bufO_low v s _)
theorem bufO_if (v : Nat) (u : List UInt8) : (if u.length = 0 then AObj.emp v else AObj.mem v 5 (bytesA u)) = bufO v u := by
  unfold bufO
  by_cases h : u = []
  · simp [h]
  · rw [if_neg h, if_neg (by simpa using h)]
/-- WriteString. -/
theorem t78 (kb vb kj v : Nat) (A : AV) (s u : List UInt8) (h : List AObj) (hne : kj ≠ kb) (hk : getO kb h = some (.mem vb 112 [A, .osl kj v 1 0 s.length])) (hA : A = .nilp ∨ A = .op kb vb 0) (hj : getO kj h = some (bufO v s)) (hl : s.length + u.length ≤ 140737488355328) :
    ACalls Try.prog 78 [.op kb vb 0, .str u] h (.tup [.int .i64 u.length, .nilif]) (setO kj (setO kb h (.mem vb 112 [.op kb vb 0, .osl kj (v + 1) 1 0 (s.length + u.length)])) (bufO (v + 1) (s ++ u))) := by
  have hkl := getO_lt hk
  have hjl := getO_lt hj
  have hne' : kb ≠ kj := fun e => hne e.symm
  have hk1 : ∀ l, getO kb (h ++ l) = some (.mem vb 112 [A, .osl kj v 1 0 s.length]) := fun l => by rw [getO_left hkl, hk]
  refine acalls_of fn78m (by simp) ?_
  simp only [List.length_cons, List.length_nil, Nat.reduceAdd, Nat.reduceSub, List.replicate, List.cons_append, List.nil_append, List.append_nil]
  simp (disch := omega) only [c78m, go_sem, wrap64_id, Int.tdiv_eq_ediv_of_nonneg, Int.tmod_eq_emod_of_nonneg]
  refine callA_eff (t97 kb vb A _ _ (hk1 _) hA) ⟨rfl, trivial⟩ ?_
  by_cases hs : s = []
  · subst hs
    rw [bufO_nil] at hj
    simp (disch := omega) only [setO_left, getO_setO, getO_setO_ne, getO_L1, getO_L2, setO_L1, setO_L2, cellsOf_def, liveS_def, cellsIn_mem, liveIn_mem, liveIn_emp, hj, go_sem]
    refine ⟨by omega, ⟨by simp, by simp at hl; omega⟩, ?_⟩
    rw [bld_set hne', bufO_if]
    refine fnQ_eff ⟨trivial, trivial, trivial⟩ (by simp only [len_setO]) (bld_low hkl hjl) ⟨rfl, ?_⟩ (VLe.refl _)
    simp
  · rw [bufO_ne hs] at hj
    simp (disch := omega) only [setO_left, getO_setO, getO_setO_ne, getO_L1, getO_L2, setO_L1, setO_L2, cellsOf_def, liveS_def, cellsIn_mem, liveIn_mem, liveIn_emp, hj, bytesA_len, go_sem]
    repeat' first
      | (with_reducible refine And.intro ?_ ?_)
    all_goals first
      | omega
      | (simp [bytesA_len]; done)
      | skip
    rw [bld_set hne', List.take_of_length_le (by simp [bytesA_len]), ← bytesA_app, ← bufO_ne (by simp [hs])]
    exact fnQ_eff ⟨trivial, trivial, trivial⟩ (by simp only [len_setO]) (bld_low hkl hjl) ⟨rfl, rfl⟩ (VLe.refl _)
/-- WriteByte. -/
theorem t79 (kb vb kj v : Nat) (A : AV) (s : List UInt8) (u : UInt8) (h : List AObj) (hne : kj ≠ kb) (hk : getO kb h = some (.mem vb 112 [A, .osl kj v 1 0 s.length])) (hA : A = .nilp ∨ A = .op kb vb 0) (hj : getO kj h = some (bufO v s)) (hl : s.length + 1 ≤ 140737488355328) :
    ACalls Try.prog 79 [.op kb vb 0, .int .u8 u.toNat] h .nilif (setO kj (setO kb h (.mem vb 112 [.op kb vb 0, .osl kj (v + 1) 1 0 (s.length + 1)])) (bufO (v + 1) (s ++ [u]))) := by
  have hkl := getO_lt hk
  have hjl := getO_lt hj
  have hne' : kb ≠ kj := fun e => hne e.symm
  have hj0 : kj ≠ h.length := by omega
  have hj1 : kj ≠ h.length + 1 := by omega
  have hk1 : ∀ l, getO kb (h ++ l) = some (.mem vb 112 [A, .osl kj v 1 0 s.length]) := fun l => by rw [getO_left hkl, hk]
  refine acalls_of fn79m (by simp) ?_
  simp only [List.length_cons, List.length_nil, Nat.reduceAdd, Nat.reduceSub, List.replicate, List.cons_append, List.nil_append, List.append_nil]
  simp (disch := omega) only [c79m, go_sem, wrap64_id, Int.tdiv_eq_ediv_of_nonneg, Int.tmod_eq_emod_of_nonneg]
  refine callA_eff (t97 kb vb A _ _ (hk1 _) hA) ⟨rfl, trivial⟩ ?_
  by_cases hs : s = []
  · subst hs
    rw [bufO_nil] at hj
    simp (disch := omega) only [setO_left, getO_setO, getO_setO_ne, getO_L1, getO_L2, setO_L1, setO_L2, cellsOf_def, liveS_def, cellsIn_mem, liveIn_mem, liveIn_emp, hj, madeA, go_sem]
    repeat' first
      | (with_reducible refine And.intro ?_ ?_)
    all_goals first
      | omega
      | (rw [bne_iff_ne]; exact hj0)
      | (simp; done)
      | skip
    rw [bld_set hne', show AObj.mem (v + 1) 5 [AV.int IntKind.u8 u.toNat] = bufO (v + 1) [u] from (bufO_ne (s := [u]) (by simp) _).symm]
    exact fnQ_eff ⟨trivial, trivial⟩ (by simp only [len_setO]) (bld_low hkl hjl) ⟨rfl, rfl⟩ (VLe.refl _)
  · rw [bufO_ne hs] at hj
    simp (disch := omega) only [setO_left, getO_setO, getO_setO_ne, getO_L1, getO_L2, setO_L1, setO_L2, cellsOf_def, liveS_def, cellsIn_mem, liveIn_mem, liveIn_emp, hj, bytesA_len, madeA, go_sem]
    repeat' first
      | (with_reducible refine And.intro ?_ ?_)
    all_goals first
      | omega
      | (rw [bne_iff_ne]; exact hj0)
      | (simp [bytesA_len]; done)
      | skip
    rw [bld_set hne', List.take_of_length_le (by simp [bytesA_len]), show bytesA s ++ [AV.int IntKind.u8 u.toNat] = bytesA (s ++ [u]) from (bytesA_app s [u]).symm, ← bufO_ne (s := s ++ [u]) (by simp)]
    exact fnQ_eff ⟨trivial, trivial⟩ (by simp only [len_setO]) (bld_low hkl hjl) ⟨rfl, rfl⟩ (VLe.refl _)
theorem grown_freeze (w : World) (g n : Nat) : w.grownBy (w.drew.freeze ⟨g, 0, none⟩ n) (some g) := by
  unfold World.freeze
  split
  · exact ⟨rfl, rfl, rfl, Nat.le_refl _, fun _ _ _ => rfl⟩
  · refine ⟨rfl, rfl, rfl, ?_, fun k hk hne => ?_⟩
    · show w.heap.size ≤ (w.heap.modify g _).size
      rw [Array.size_modify]
      exact Nat.le_refl _
    · have : g ≠ k := fun e => hne (by rw [e])
      show (w.heap.modify g _)[k]? = w.heap[k]?
      rw [Array.getElem?_modify, if_neg this]
/-- String: the buffer is given up. -/
theorem t80 (kb vb kj v : Nat) (A : AV) (s : List UInt8) (h : List AObj) (hne : kj ≠ kb) (hk : getO kb h = some (.mem vb 112 [A, .osl kj v 1 0 s.length])) (hj : getO kj h = some (bufO v s)) :
    ACalls Try.prog 80 [.op kb vb 0] h (.str s) (setO kj h (.emp (v + 1))) := by
  refine ⟨okF_of Try.func80 (by kernel_rfl) (by kernel_rfl), fun w σ xs H hv => ?_⟩
  obtain ⟨x, rfl, hx⟩ := hv.one
  have hc := cellsOf_of hk
  obtain ⟨cs, o, b, arr, g1, rfl, g2, g3, g4, g5, g6, g7, g9, g8⟩ := op_live H hx (by rw [hc]; rfl)
  rw [hc] at g1
  cases g1
  have hsz : 2 ≤ arr.size := g7
  have hc1 : w.cell? ⟨b, 1, none⟩ = some arr[1] := by rw [cell_of g5]; simp
  have hB := g8 1 _ arr[1] rfl (by simp)
  obtain ⟨oj, j1, j2, j3⟩ := vr_osl hB
  have hobj := H.obj kj _ oj hj j1
  have hkj := getO_lt hj
  by_cases hs : s = []
  · subst hs
    rw [bufO_nil] at hj hobj
    obtain ⟨m1, m2⟩ := hobj
    rcases j3 m1 with ⟨_, _, _, e⟩ | ⟨b', cap, e, _⟩
    · rw [e] at hc1
      refine (callsIn_wide.2 (str_none b w hc1)).mono ?_
      rintro e w' ⟨rfl, rfl⟩
      obtain ⟨u1, u2⟩ := H.update (w' := w.drew) (o' := { oj with blk := none, ver := v + 1 }) (a' := .emp (v + 1)) j1 ⟨rfl, rfl, rfl, Nat.le_refl _, fun _ _ _ => rfl⟩ (by simp only; omega) (by simp only; omega) (by intro b' e; cases e) (fun b' r e hr => ⟨r, hr⟩) (fun _ => ⟨rfl, rfl⟩)
      exact ⟨_, _, rfl, u1, .imm .str, u2⟩
    · rw [m2] at e; cases e
  · rw [bufO_ne hs] at hj hobj
    obtain ⟨m1, m2, bj, arrj, m3, m4, m5, m6, m7, m8⟩ := hobj
    rcases j3 m1 with ⟨e, _⟩ | ⟨b', cap, e1, e2, e3, e4, e5⟩
    · rw [m3] at e; cases e
    · rw [m3] at e1
      cases e1
      rw [e2] at hc1
      rw [m2] at m4
      rw [bytesA_len] at m6
      refine (callsIn_wide.2 (str_some b bj cap s arrj w hs hc1 m4 e3 e4 (by omega) (fun j x hx => ?_))).mono ?_
      · have hjl : j < s.length := (List.getElem?_eq_some_iff.1 hx).1
        rw [cell_of m4]
        have ea : arrj[j]? = some arrj[j] := by simp
        have := m8 j (.int .u8 x.toNat) arrj[j] (by simp [bytesA, hx]) ea
        rw [ea, vr_int this]
      · rintro e w' ⟨rfl, rfl⟩
        have hg : w.grownBy (w.drew.freeze ⟨bj, 0, none⟩ s.length) oj.blk := by
          rw [m3]
          exact grown_freeze w bj s.length
        obtain ⟨u1, u2⟩ := H.update (o' := { oj with blk := none, ver := v + 1 }) (a' := .emp (v + 1)) j1 hg (by simp only; omega) (by simp only; omega) (by intro b' e; cases e)
          (fun b' r e hr => by rw [m3] at e; cases e; rw [m4] at hr; cases hr) (fun _ => ⟨rfl, rfl⟩)
        exact ⟨_, _, rfl, u1, .imm .str, u2⟩
end

section
/-! the text BC -/
open Go Go.Proofs AF P48
set_option maxRecDepth 100000

/-- A nil slice in a cell may be seen as a handle to an object that holds nothing. -/
theorem Wk.nilcell {t : List AV} {h : List AObj} {k j v ver : Nat} {ty : TypeId} {cs cs' : List AV} (hk : getO k h = some (.mem ver ty cs)) (hj : getO j h = some (.emp v)) (hl : cs'.length = cs.length)
    (hc : ∀ (i : Nat) c c', cs[i]? = some c → cs'[i]? = some c' → c' = c ∨ (c = .nl ∧ ∃ sz, c' = .osl j v sz 0 0)) : Wk t h t (setO k h (.mem ver ty cs')) := by
  intro N w σ a H
  refine ⟨σ, ⟨⟨by rw [H.hr.len, len_setO], H.hr.inj, H.hr.lt, fun i x o hx ho => ?_⟩, H.sz, H.tm, H.df⟩, Ext.refl w σ⟩
  have hkl := getO_lt hk
  by_cases e : i = k
  · subst e
    have := getO_setO (o := .mem ver ty cs') hkl
    unfold getO at this
    rw [this] at hx
    cases hx
    obtain ⟨m1, m2, b, arr, m3, m4, m5, m6, m7, m8⟩ := H.hr.obj i _ o hk ho
    refine ⟨m1, m2, b, arr, m3, m4, m5, by omega, fun n y hn hy => m7 n y (by omega) hy, fun n c' y hc' hy => ?_⟩
    have hn : n < cs.length := by have := (List.getElem?_eq_some_iff.1 hc').1; omega
    have e1 : cs[n]? = some cs[n] := List.getElem?_eq_getElem hn
    rcases hc n _ _ e1 hc' with rfl | ⟨e2, sz, rfl⟩
    · exact m8 n _ y e1 hy
    · have := m8 n _ y e1 hy
      rw [e2] at this
      have e3 := vr_nl this
      subst e3
      have hjl : j < σ.length := by rw [H.hr.len]; exact getO_lt hj
      have ej : σ[j]? = some σ[j] := List.getElem?_eq_getElem hjl
      obtain ⟨q1, q2⟩ := H.hr.obj j _ _ hj ej
      exact .osl _ ej ⟨_, _, _, rfl⟩ (by omega) (fun _ => .inl ⟨q2, rfl, rfl, rfl⟩)
  · unfold setO at hx
    rw [List.getElem?_set_ne (fun e' => e e'.symm)] at hx
    exact H.hr.obj i x o hx ho

def lineC (x : P48.Line) : List AV := [.int .i64 x.frm, .int .i64 x.to, .int .i64 x.badness, .int .i64 x.change, .str x.text]
def piece (x : It) : List UInt8 := if x.kind = 1 then x.text else if x.kind = 2 then [32] else []
theorem textGo_snoc (l : List It) (k i : Nat) : textGo l (k + 1) i = textGo l k i ++ piece (it l (i + k)) := by
  induction k generalizing i with
  | zero => simp [textGo, piece]
  | succ k ih =>
    rw [textGo, ih (i + 1), show i + 1 + k = i + (k + 1) by omega]
    conv => rhs; rw [textGo]
    simp
theorem textGo_len (l : List It) (B : Nat) (hB : ∀ i, (it l i).text.length ≤ B) (k i : Nat) : (textGo l k i).length ≤ k * (B + 1) := by
  induction k generalizing i with
  | zero => simp [textGo]
  | succ k ih =>
    rw [textGo, List.length_append, Nat.succ_mul]
    have h1 := ih (i + 1)
    have h2 := hB i
    split
    · omega
    · split <;> simp <;> omega

theorem t44 (l : List It) (width : Int) (frm to : Nat) (h : List AObj) (hv : Valid l) (hB : ∀ i, (it l i).text.length ≤ 1000000) (w0 : 0 ≤ width) (w1 : width ≤ 1073741824) (h1 : frm ≤ to) (h2 : to ≤ l.length) :
    ACalls Try.prog 44 [items l, .int .i64 width, .int .i64 frm, .int .i64 to] h (.tup [.agg (lineC (mkLine l width frm to)), .bool (lineOf l width frm to).2.2]) h := by
  have hl := hv.len
  have hbg := begin_le l h1
  obtain ⟨a, ha⟩ : ∃ a, a = begin_ l frm to := ⟨_, rfl⟩
  rw [← ha] at hbg
  refine acalls_of fn44m (by simp) ?_
  simp only [List.length_cons, List.length_nil, Nat.reduceAdd, Nat.reduceSub, List.replicate, List.cons_append, List.nil_append, List.append_nil]
  simp (disch := omega) only [c44m, items, go_sem, wrap64_id, Int.tdiv_eq_ediv_of_nonneg, Int.tmod_eq_emod_of_nonneg]
  repeat' first
    | ((first | refine callA_pure (t75 l frm to _ h1 h2 (by omega)) ?_ ?_); (next => repeat' first | exact flags_n | refine flags_c (by first | rfl | assumption) ?_); simp (disch := omega) only [items, go_sem, wrap64_id, Int.tdiv_eq_ediv_of_nonneg, Int.tmod_eq_emod_of_nonneg])
    | ((first | refine callG_pure (fun e => ⟨?_, t75 l frm to _ h1 h2 (by omega)⟩) ?_); (next => repeat' first | exact flags_n | refine flags_c (by first | rfl | assumption) ?_); simp (disch := omega) only [items, go_sem, wrap64_id, Int.tdiv_eq_ediv_of_nonneg, Int.tmod_eq_emod_of_nonneg])
    | ((first | refine fnQ_pure1 ?_ ?_ | refine fnQ_pure0 ?_ ?_); (next => repeat' first | exact rvs_n | refine rvs_t ?_ | (simp [go_sem]; done)); simp only [go_sem]; (first | exact VLe.refl _ | refine VLe_int ?_ | refine VLe_bool ?_ | refine VLe_str ?_ | skip))
    | (with_reducible refine And.intro ?_ ?_)
    | with_reducible intro _
  all_goals first
    | omega
    | skip
  rw [← ha]
  show ∃ t' h', Wk _ _ t' h' ∧ _
  refine ⟨_, _, Wk.nilcell (k := h.length + 2) (j := h.length + 4) (v := 0) (ver := 1) (ty := 112) (cs := [.nilp, .nl]) (cs' := [.nilp, .osl (h.length + 4) 0 1 0 0]) (by simp only [go_sem]) (by simp only [go_sem]) rfl ?_, ?_⟩
  · intro i c c' hc hc'
    match i, hc, hc' with
    | 0, hc, hc' => left; simp at hc hc'; rw [← hc, ← hc']
    | 1, hc, hc' => right; simp at hc hc'; exact ⟨hc.symm, 1, hc'.symm⟩
  simp (disch := omega) only [items, itemC, go_sem, wrap64_id, Int.tdiv_eq_ediv_of_nonneg, Int.tmod_eq_emod_of_nonneg]
  repeat' first
    | ((first | refine fnQ_pure1 ?_ ?_ | refine fnQ_pure0 ?_ ?_); (next => repeat' first | exact rvs_n | refine rvs_t ?_ | (simp [go_sem]; done)); simp only [go_sem]; (first | exact VLe.refl _ | refine VLe_int ?_ | refine VLe_bool ?_ | refine VLe_str ?_ | skip))
    | (with_reducible refine And.intro ?_ ?_)
    | with_reducible intro _
  all_goals first
    | omega
    | skip
  refine loop_of (T := fun i : Nat × AObj × AV × Nat => spar 77 [(0, items l), (1, .int .i64 width), (2, .int .i64 a), (3, .int .i64 to), (8, .op h.length 1 0), (10, .op (h.length + 1) 1 0), (11, .op (h.length + 2) 1 0), (24, .sl (to - a) fun i => itemC (it l (a + i))), (25, .int .i64 ((to - a : Nat) : Int)), (26, .int .i64 i.1)])
    (H := fun i => h ++ [.mem 1 44 [.int .i64 0, .int .i64 0, .int .i64 0, .int .i64 0, .str []], .mem 1 106 (meas (sumGo Item.width l i.1 a) (sumGo Item.stretch l i.1 a) (sumGo Item.shrink l i.1 a)),
      .mem 1 112 [i.2.2.1, .osl (h.length + 4) i.2.2.2 1 0 (textGo l i.1 a).length], i.2.1, bufO i.2.2.2 (textGo l i.1 a)])
    (inv := fun i => i.1 ≤ to - a ∧ site [i.2.1] 0 = true ∧ (i.2.2.1 = .nilp ∨ i.2.2.1 = .op (h.length + 2) 1 0)) (m := fun i => to - a - i.1) (0, .emp 0, .nilp, 0) ⟨Nat.zero_le _, rfl, .inl rfl⟩ (Wk.temps ?_) ?_
  · simp only [items, itemC, spar, List.foldl, List.replicate, go_sem, VLes_nil, VLes_cons, VLe_undef_iff, VLe_self]
    try (repeat' first | (with_reducible refine And.intro ?_ ?_) | (refine VLe_int ?_; omega) | (refine VLe_bool ?_; rfl))
  · rintro ⟨i, O, A, v⟩ ⟨i1, i2, i3⟩ K hK
    simp only at i1 i2 i3 hK
    have i2' : ∀ m, site (O :: m) 0 = true := fun _ => i2
    have q1 := sumGo_bound Item.width l (fun i => (hv.num i).1) i a
    have q2 := sumGo_bound Item.stretch l (fun i => (hv.num i).2.1) i a
    have q3 := sumGo_bound Item.shrink l (fun i => (hv.num i).2.2.1) i a
    have q4 := textGo_len l 1000000 hB i a
    have q5 : i * (1000000 + 1) ≤ 300 * 1000001 := Nat.mul_le_mul_right _ (by omega)
    obtain ⟨s, hs⟩ : ∃ s, s = textGo l i a := ⟨_, rfl⟩
    have hsl : s.length ≤ 300300300 := by rw [hs]; omega
    by_cases hi : i < to - a
    · have ok := hv.ok (a + i) (by omega)
      have hBi := hB (a + i)
      have key : ∀ (A' : AV) (v' : Nat), (A' = .nilp ∨ A' = .op (h.length + 2) 1 0) → ∀ t', VLes t' (spar 77 [(0, items l), (1, .int .i64 width), (2, .int .i64 a), (3, .int .i64 to), (8, .op h.length 1 0), (10, .op (h.length + 1) 1 0), (11, .op (h.length + 2) 1 0), (24, .sl (to - a) fun i => itemC (it l (a + i))), (25, .int .i64 ((to - a : Nat) : Int)), (26, .int .i64 ((i + 1 : Nat) : Int))]) →
          K t' (h ++ [.mem 1 44 [.int .i64 0, .int .i64 0, .int .i64 0, .int .i64 0, .str []], .mem 1 106 (meas (sumGo Item.width l i a + sel (it l (a + i)) Item.width) (sumGo Item.stretch l i a + sel (it l (a + i)) Item.stretch) (sumGo Item.shrink l i a + sel (it l (a + i)) Item.shrink)),
            .mem 1 112 [A', .osl (h.length + 4) v' 1 0 (s ++ piece (it l (a + i))).length], .mem (verOf (some O) + 1) 28 (itemC (it l (a + i))), bufO v' (s ++ piece (it l (a + i)))]) := by
        intro A' v' hA' t' ht'
        refine hK t' _ (i + 1, .mem (verOf (some O) + 1) 28 (itemC (it l (a + i))), A', v') ⟨hi, rfl, hA'⟩ (by simp only; omega) ?_
        rw [hs]
        simp only [sumGo_snoc, textGo_snoc]
        exact Wk.temps ht'
      simp (disch := omega) only [spar, items, List.foldl, List.replicate, i2', go_sem, wrap64_id, Int.tdiv_eq_ediv_of_nonneg, Int.tmod_eq_emod_of_nonneg]
      rw [← hs]
      repeat' first
        | ((first | refine fnQ_pure1 ?_ ?_ | refine fnQ_pure0 ?_ ?_); (next => repeat' first | exact rvs_n | refine rvs_t ?_ | (simp [go_sem]; done)); simp only [go_sem]; (first | exact VLe.refl _ | refine VLe_int ?_ | refine VLe_bool ?_ | refine VLe_str ?_ | skip))
        | (with_reducible refine And.intro ?_ ?_)
        | with_reducible intro _
      all_goals first
        | omega
        | skip
      refine callA_eff (t77 (h.length + 1) 1 _ _ _ (it l (a + i)) _ (by simp only [go_sem]) ok q1.1 (by omega) q2.1 (by omega) q3.1 (by omega)) ⟨rfl, rfl, trivial⟩ ?_
      have hkk : (it l (a + i)).kind = 1 ∨ (it l (a + i)).kind = 2 ∨ (it l (a + i)).kind = 3 := by have := ok.k1; have := ok.k3; omega
      have e0 : (itemC (it l (a + i)))[0]? = some (.int .i64 (it l (a + i)).kind) := rfl
      have e5 : (itemC (it l (a + i)))[5]? = some (.str (it l (a + i)).text) := rfl
      rcases hkk with hkd | hkd | hkd
      · have hp : piece (it l (a + i)) = (it l (a + i)).text := by simp [piece, hkd]
        simp only [hp, List.length_append] at key
        simp (disch := omega) only [e0, e5, hkd, eq_self, go_sem, wrap64_id, Int.tdiv_eq_ediv_of_nonneg, Int.tmod_eq_emod_of_nonneg]
        repeat' first
          | (refine callA_eff (t78 (h.length + 2) 1 (h.length + 4) v A s (it l (a + i)).text _ (by omega) (by simp only [go_sem]) i3 (by simp only [go_sem]) (by omega)) ⟨rfl, rfl, trivial⟩ ?_; simp (disch := omega) only [go_sem, wrap64_id])
          | (with_reducible refine And.intro ?_ ?_)
          | (with_reducible intro _)
        all_goals first
          | omega
          | skip
        refine key (.op (h.length + 2) 1 0) (v + 1) (.inr rfl) _ ?_
        simp only [items, itemC, spar, List.foldl, List.replicate, go_sem, VLes_nil, VLes_cons, VLe_undef_iff, VLe_self]
        try (repeat' first | (with_reducible refine And.intro ?_ ?_) | (refine VLe_int ?_; omega) | (refine VLe_bool ?_; rfl))
      · have hp : piece (it l (a + i)) = [32] := by simp [piece, hkd]
        simp only [hp, List.length_append, List.length_singleton] at key
        simp (disch := omega) only [e0, e5, hkd, eq_self, go_sem, wrap64_id, Int.tdiv_eq_ediv_of_nonneg, Int.tmod_eq_emod_of_nonneg]
        repeat' first
          | (refine callA_eff (t79 (h.length + 2) 1 (h.length + 4) v A s 32 _ (by omega) (by simp only [go_sem]) i3 (by simp only [go_sem]) (by omega)) ⟨rfl, rfl, trivial⟩ ?_; simp (disch := omega) only [go_sem, wrap64_id])
          | (with_reducible refine And.intro ?_ ?_)
          | (with_reducible intro _)
        all_goals first
          | omega
          | skip
        refine key (.op (h.length + 2) 1 0) (v + 1) (.inr rfl) _ ?_
        simp only [items, itemC, spar, List.foldl, List.replicate, go_sem, VLes_nil, VLes_cons, VLe_undef_iff, VLe_self]
        try (repeat' first | (with_reducible refine And.intro ?_ ?_) | (refine VLe_int ?_; omega) | (refine VLe_bool ?_; rfl))
      · have hp : piece (it l (a + i)) = [] := by simp [piece, hkd]
        simp only [hp, List.append_nil] at key
        simp (disch := omega) only [e0, e5, hkd, eq_self, go_sem, wrap64_id, Int.tdiv_eq_ediv_of_nonneg, Int.tmod_eq_emod_of_nonneg]
        repeat' first
          | (with_reducible refine And.intro ?_ ?_)
          | (with_reducible intro _)
        all_goals first
          | omega
          | skip
        refine key A v i3 _ ?_
        simp only [items, itemC, spar, List.foldl, List.replicate, go_sem, VLes_nil, VLes_cons, VLe_undef_iff, VLe_self]
        try (repeat' first | (with_reducible refine And.intro ?_ ?_) | (refine VLe_int ?_; omega) | (refine VLe_bool ?_; rfl))
    · have e : i = to - a := by omega
      subst e
      have e1 : ∀ f, sumGo f l (to - a) a = sumOf f l a to := fun _ => rfl
      simp only [e1] at q1 q2 q3 ⊢
      rw [← hs]
      have p1 := (hv.num to).2.2.2
      have hfit : fit l width (sumOf Item.width l a to) (sumOf Item.stretch l a to) (sumOf Item.shrink l a to) to = lineOf l width frm to := by rw [ha]; rfl
      have hmk : mkLine l width frm to = ⟨a, to, (lineOf l width frm to).1, (lineOf l width frm to).2.1, s ++ (if atBreak l to then (it l to).text else [])⟩ := by
        unfold mkLine textOf; rw [← ha, hs]
      have e0 : (itemC (it l to))[0]? = some (.int .i64 (it l to).kind) := rfl
      have e5 : (itemC (it l to))[5]? = some (.str (it l to).text) := rfl
      simp (disch := omega) only [spar, List.foldl, List.replicate, items, e0, e5, go_sem, wrap64_id, Int.tdiv_eq_ediv_of_nonneg, Int.tmod_eq_emod_of_nonneg]
      refine ⟨fun hc => absurd hc (by omega), fun _ => ?_⟩
      repeat' first
        | (refine callA_eff (t78 (h.length + 2) 1 (h.length + 4) v A s (it l to).text _ (by omega) (by simp only [go_sem]) i3 (by simp only [go_sem]) (by have := hB to; omega)) ⟨rfl, rfl, trivial⟩ ?_; simp (disch := omega) only [go_sem, wrap64_id])
        | (refine callA_pure (t76 l width _ _ _ to _ hv w0 w1 q1.1 (by omega) q2.1 (by omega) q3.1 (by omega)) ⟨rfl, rfl, rfl, rfl, trivial⟩ ?_; simp (disch := omega) only [hfit, fitAV, go_sem, wrap64_id])
        | (with_reducible refine And.intro ?_ ?_)
        | (with_reducible intro _)
      all_goals first
        | omega
        | skip
      all_goals first
        | (simp [itemC]; done)
        | (simp [meas]; done)
        | skip
      · rename_i hbk
        have hab : atBreak l to = true := by unfold atBreak; simp only [Bool.and_eq_true, decide_eq_true_eq]; omega
        refine callA_eff (t80 (h.length + 2) 1 (h.length + 4) (v + 1) (.op (h.length + 2) 1 0) (s ++ (it l to).text) _ (by omega) (by simp only [go_sem, List.length_append]) (by simp only [go_sem])) ⟨rfl, trivial⟩ ?_
        simp (disch := omega) only [go_sem, wrap64_id, Int.tdiv_eq_ediv_of_nonneg, Int.tmod_eq_emod_of_nonneg]
        repeat' first
          | ((first | refine fnQ_pure1 ?_ ?_ | refine fnQ_pure0 ?_ ?_); (next => repeat' first | exact rvs_n | refine rvs_t ?_ | (simp [go_sem]; done)); simp only [go_sem]; (first | exact VLe.refl _ | refine VLe_int ?_ | refine VLe_bool ?_ | refine VLe_str ?_ | skip))
          | (with_reducible refine And.intro ?_ ?_)
          | with_reducible intro _
        all_goals first
          | omega
          | skip
        rw [hmk, hab]
        exact VLe.refl _
      · rename_i hbk
        have hab : atBreak l to = false := by
          cases hx : atBreak l to with
          | false => rfl
          | true => unfold atBreak at hx; simp only [Bool.and_eq_true, decide_eq_true_eq] at hx; omega
        refine callA_eff (t80 (h.length + 2) 1 (h.length + 4) v A s _ (by omega) (by simp only [go_sem]) (by simp only [go_sem])) ⟨rfl, trivial⟩ ?_
        simp (disch := omega) only [go_sem, wrap64_id, Int.tdiv_eq_ediv_of_nonneg, Int.tmod_eq_emod_of_nonneg]
        repeat' first
          | ((first | refine fnQ_pure1 ?_ ?_ | refine fnQ_pure0 ?_ ?_); (next => repeat' first | exact rvs_n | refine rvs_t ?_ | (simp [go_sem]; done)); simp only [go_sem]; (first | exact VLe.refl _ | refine VLe_int ?_ | refine VLe_bool ?_ | refine VLe_str ?_ | skip))
          | (with_reducible refine And.intro ?_ ?_)
          | with_reducible intro _
        all_goals first
          | omega
          | skip
        rw [hmk, hab]
        simp only [Bool.false_eq_true, if_false, List.append_nil]
        exact VLe.refl _
end

section
/-! the text BD -/
open Go Go.Proofs AF P48
set_option maxRecDepth 100000
theorem t14 (l : List It) (width : Int) (h : List AObj) (hl : l.length ≤ 300) : ACalls Try.prog 14 [items l, .int .i64 width] h (if checkW l width = 0 then .tup [ints (pots l width), .int .i64 0] else .tup [ints [], .int .i64 (checkW l width)]) h := by
  by_cases hw : checkW l width = 0
  · obtain ⟨hc, w0, w1⟩ := checkW_range l width hw
    have hv := Valid.of hl hc
    rw [if_pos hw]
    refine acalls_of fn14 (by simp) ?_
    simp only [List.length_cons, List.length_nil, Nat.reduceAdd, Nat.reduceSub, List.replicate, List.cons_append, List.nil_append, List.append_nil]
    simp (disch := omega) only [c14, go_sem, wrap64_id, Int.tdiv_eq_ediv_of_nonneg, Int.tmod_eq_emod_of_nonneg]
    repeat' first
      | ((first | refine callA_pure (t38 l width _ (by omega)) ?_ ?_ | refine callA_pure (t39 l width hv w0 w1 _) ?_ ?_); (next => repeat' first | exact flags_n | refine flags_c (by first | rfl | assumption) ?_); simp (disch := omega) only [hw, go_sem, wrap64_id, Int.tdiv_eq_ediv_of_nonneg, Int.tmod_eq_emod_of_nonneg])
      | ((first | refine callG_pure (fun e => ⟨?_, t38 l width _ (by omega)⟩) ?_ | refine callG_pure (fun e => ⟨?_, t39 l width hv w0 w1 _⟩) ?_); (next => repeat' first | exact flags_n | refine flags_c (by first | rfl | assumption) ?_); simp (disch := omega) only [hw, go_sem, wrap64_id, Int.tdiv_eq_ediv_of_nonneg, Int.tmod_eq_emod_of_nonneg])
      | ((first | refine fnQ_pure1 ?_ ?_ | refine fnQ_pure0 ?_ ?_); (next => repeat' first | exact rvs_n | refine rvs_t ?_ | (simp [go_sem]; done)); simp only [go_sem]; (first | exact VLe.refl _ | refine VLe_int ?_ | refine VLe_bool ?_ | refine VLe_str ?_ | skip))
      | (with_reducible refine And.intro ?_ ?_)
      | with_reducible intro _
    all_goals first
      | omega
      | trace_state
  · rw [if_neg hw]
    refine acalls_of fn14 (by simp) ?_
    simp only [List.length_cons, List.length_nil, Nat.reduceAdd, Nat.reduceSub, List.replicate, List.cons_append, List.nil_append, List.append_nil]
    simp (disch := omega) only [c14, go_sem, wrap64_id, Int.tdiv_eq_ediv_of_nonneg, Int.tmod_eq_emod_of_nonneg]
    repeat' first
      | ((first | refine callA_pure (t38 l width _ (by omega)) ?_ ?_); (next => repeat' first | exact flags_n | refine flags_c (by first | rfl | assumption) ?_); simp (disch := omega) only [hw, go_sem, wrap64_id, Int.tdiv_eq_ediv_of_nonneg, Int.tmod_eq_emod_of_nonneg])
      | ((first | refine callG_pure (fun e => ⟨?_, t38 l width _ (by omega)⟩) ?_); (next => repeat' first | exact flags_n | refine flags_c (by first | rfl | assumption) ?_); simp (disch := omega) only [hw, go_sem, wrap64_id, Int.tdiv_eq_ediv_of_nonneg, Int.tmod_eq_emod_of_nonneg])
      | ((first | refine fnQ_pure1 ?_ ?_ | refine fnQ_pure0 ?_ ?_); (next => repeat' first | exact rvs_n | refine rvs_t ?_ | (simp [go_sem]; done)); simp only [go_sem]; (first | exact VLe.refl _ | refine VLe_int ?_ | refine VLe_bool ?_ | refine VLe_str ?_ | skip))
      | (with_reducible refine And.intro ?_ ?_)
      | with_reducible intro _
    all_goals first
      | omega
      | skip
    exact VLe_tup (VLes2 ints_nl (VLes2 (VLe.refl _) VLes.nil))
def feasAV (l : List It) (width : Int) (frm to : Nat) : AV :=
  if ends l to = true then (if free l frm to = true then (match cost l width frm to with
    | some c => .tup [.int .i64 c, .bool true, .int .i64 0]
    | none => .tup [.int .i64 0, .bool false, .int .i64 0]) else .tup [.int .i64 0, .bool false, .int .i64 23]) else .tup [.int .i64 0, .bool false, .int .i64 23]
theorem t15 (l : List It) (width : Int) (frm to : Nat) (h : List AObj) (hl : l.length ≤ 300) (hw : checkW l width = 0) (hB : ∀ i, (it l i).text.length ≤ 1000000) (h1 : frm ≤ to) (h2 : to ≤ l.length) :
    ACalls Try.prog 15 [items l, .int .i64 width, .int .i64 frm, .int .i64 to] h (feasAV l width frm to) h := by
  obtain ⟨hc, w0, w1⟩ := checkW_range l width hw
  have hv := Valid.of hl hc
  have hitems : ∀ h : List AObj, ACalls Try.prog 38 [items l, .int .i64 width] h (.int .i64 0) h := fun h => by have := t38 l width h (by omega); rwa [hw] at this
  have hfn := fit_nonneg l width (sumOf Item.width l (begin_ l frm to) to) (sumOf Item.stretch l (begin_ l frm to) to) (sumOf Item.shrink l (begin_ l frm to) to) to
  have hln : 0 ≤ (lineOf l width frm to).1 ∧ (lineOf l width frm to).1 ≤ 10000 := hfn
  have hpn := penalty_nonneg hc to
  cases he : ends l to with
  | false =>
    refine acalls_of fn15 (by simp) ?_
    simp only [List.length_cons, List.length_nil, Nat.reduceAdd, Nat.reduceSub, List.replicate, List.cons_append, List.nil_append, List.append_nil]
    simp (disch := omega) only [c15, items, go_sem, wrap64_id, Int.tdiv_eq_ediv_of_nonneg, Int.tmod_eq_emod_of_nonneg]
    repeat' first
      | ((first | refine callA_pure (hitems _) ?_ ?_ | refine callA_pure (t42 l to _ h2 (by omega)) ?_ ?_); (next => repeat' first | exact flags_n | refine flags_c (by first | rfl | assumption) ?_); simp (disch := omega) only [items, he, go_sem, wrap64_id, Int.tdiv_eq_ediv_of_nonneg, Int.tmod_eq_emod_of_nonneg])
      | ((first | refine callG_pure (fun e => ⟨?_, hitems _⟩) ?_ | refine callG_pure (fun e => ⟨?_, t42 l to _ h2 (by omega)⟩) ?_); (next => repeat' first | exact flags_n | refine flags_c (by first | rfl | assumption) ?_); simp (disch := omega) only [items, he, go_sem, wrap64_id, Int.tdiv_eq_ediv_of_nonneg, Int.tmod_eq_emod_of_nonneg])
      | ((first | refine fnQ_pure1 ?_ ?_ | refine fnQ_pure0 ?_ ?_); (next => repeat' first | exact rvs_n | refine rvs_t ?_ | (simp [go_sem]; done)); simp only [go_sem]; (first | exact VLe.refl _ | refine VLe_int ?_ | refine VLe_bool ?_ | refine VLe_str ?_ | skip))
      | (with_reducible refine And.intro ?_ ?_)
      | with_reducible intro _
    all_goals first
      | omega
      | skip
    unfold feasAV
    rw [he]
    exact VLe.refl _
  | true =>
    refine acalls_of fn15 (by simp) ?_
    simp only [List.length_cons, List.length_nil, Nat.reduceAdd, Nat.reduceSub, List.replicate, List.cons_append, List.nil_append, List.append_nil]
    simp (disch := omega) only [c15, items, go_sem, wrap64_id, Int.tdiv_eq_ediv_of_nonneg, Int.tmod_eq_emod_of_nonneg]
    repeat' first
      | ((first | refine callA_pure (hitems _) ?_ ?_ | refine callA_pure (t42 l to _ h2 (by omega)) ?_ ?_); (next => repeat' first | exact flags_n | refine flags_c (by first | rfl | assumption) ?_); simp (disch := omega) only [items, he, go_sem, wrap64_id, Int.tdiv_eq_ediv_of_nonneg, Int.tmod_eq_emod_of_nonneg])
      | ((first | refine callG_pure (fun e => ⟨?_, hitems _⟩) ?_ | refine callG_pure (fun e => ⟨?_, t42 l to _ h2 (by omega)⟩) ?_); (next => repeat' first | exact flags_n | refine flags_c (by first | rfl | assumption) ?_); simp (disch := omega) only [items, he, go_sem, wrap64_id, Int.tdiv_eq_ediv_of_nonneg, Int.tmod_eq_emod_of_nonneg])
      | ((first | refine fnQ_pure1 ?_ ?_ | refine fnQ_pure0 ?_ ?_); (next => repeat' first | exact rvs_n | refine rvs_t ?_ | (simp [go_sem]; done)); simp only [go_sem]; (first | exact VLe.refl _ | refine VLe_int ?_ | refine VLe_bool ?_ | refine VLe_str ?_ | skip))
      | (with_reducible refine And.intro ?_ ?_)
      | with_reducible intro _
    all_goals first
      | omega
      | skip
    refine loop_of (T := fun i : Nat => spar 69 [(0, items l), (1, .int .i64 width), (2, .int .i64 frm), (3, .int .i64 to), (12, .int .i64 i)]) (H := fun _ => h ++ [.emp 0]) (inv := fun i => frm ≤ i ∧ i ≤ to ∧ free l frm i = true) (m := fun i => to - i) frm ⟨Nat.le_refl _, h1, by rw [free_iff]; omega⟩ (Wk.temps ?_) ?_
    · simp only [items, spar, List.foldl, List.replicate, go_sem, VLes_nil, VLes_cons, VLe_undef_iff, VLe_self]
      try (repeat' first | (with_reducible refine And.intro ?_ ?_) | (refine VLe_int ?_; omega) | (refine VLe_bool ?_; rfl))
    · rintro i ⟨i1, i2, i3⟩ K hK
      by_cases hi : i < to
      · cases hfo : forced l i with
        | false =>
          simp (disch := omega) only [spar, List.foldl, List.replicate, items, go_sem, wrap64_id, Int.tdiv_eq_ediv_of_nonneg, Int.tmod_eq_emod_of_nonneg]
          repeat' first
            | ((first | refine callA_pure (t43 l i _) ?_ ?_); (next => repeat' first | exact flags_n | refine flags_c (by first | rfl | assumption) ?_); simp (disch := omega) only [hfo, go_sem, wrap64_id, Int.tdiv_eq_ediv_of_nonneg, Int.tmod_eq_emod_of_nonneg])
            | ((first | refine callG_pure (fun e => ⟨?_, t43 l i _⟩) ?_); (next => repeat' first | exact flags_n | refine flags_c (by first | rfl | assumption) ?_); simp (disch := omega) only [hfo, go_sem, wrap64_id, Int.tdiv_eq_ediv_of_nonneg, Int.tmod_eq_emod_of_nonneg])
            | ((first | refine fnQ_pure1 ?_ ?_ | refine fnQ_pure0 ?_ ?_); (next => repeat' first | exact rvs_n | refine rvs_t ?_ | (simp [go_sem]; done)); simp only [go_sem]; (first | exact VLe.refl _ | refine VLe_int ?_ | refine VLe_bool ?_ | refine VLe_str ?_ | skip))
            | (with_reducible refine And.intro ?_ ?_)
            | with_reducible intro _
          all_goals first
            | omega
            | skip
          refine hK _ _ (i + 1) ⟨by omega, by omega, by rw [free_succ i1, i3, hfo]; rfl⟩ (by omega) (Wk.temps ?_)
          simp only [items, spar, List.foldl, List.replicate, go_sem, VLes_nil, VLes_cons, VLe_undef_iff, VLe_self]
          try (repeat' first | (with_reducible refine And.intro ?_ ?_) | (refine VLe_int ?_; omega) | (refine VLe_bool ?_; rfl))
        | true =>
          simp (disch := omega) only [spar, List.foldl, List.replicate, items, go_sem, wrap64_id, Int.tdiv_eq_ediv_of_nonneg, Int.tmod_eq_emod_of_nonneg]
          repeat' first
            | ((first | refine callA_pure (t43 l i _) ?_ ?_); (next => repeat' first | exact flags_n | refine flags_c (by first | rfl | assumption) ?_); simp (disch := omega) only [hfo, go_sem, wrap64_id, Int.tdiv_eq_ediv_of_nonneg, Int.tmod_eq_emod_of_nonneg])
            | ((first | refine callG_pure (fun e => ⟨?_, t43 l i _⟩) ?_); (next => repeat' first | exact flags_n | refine flags_c (by first | rfl | assumption) ?_); simp (disch := omega) only [hfo, go_sem, wrap64_id, Int.tdiv_eq_ediv_of_nonneg, Int.tmod_eq_emod_of_nonneg])
            | ((first | refine fnQ_pure1 ?_ ?_ | refine fnQ_pure0 ?_ ?_); (next => repeat' first | exact rvs_n | refine rvs_t ?_ | (simp [go_sem]; done)); simp only [go_sem]; (first | exact VLe.refl _ | refine VLe_int ?_ | refine VLe_bool ?_ | refine VLe_str ?_ | skip))
            | (with_reducible refine And.intro ?_ ?_)
            | with_reducible intro _
          all_goals first
            | omega
            | skip
          have hfr : free l frm to = false := by
            cases hx : free l frm to with
            | false => rfl
            | true => have := free_iff.1 hx i i1 hi; rw [hfo] at this; cases this
          unfold feasAV
          rw [he, hfr]
          exact VLe.refl _
      · have e : i = to := by omega
        subst e
        obtain ⟨r, hr⟩ : ∃ r, r = lineOf l width frm i := ⟨_, rfl⟩
        have hc44 : ∀ h : List AObj, ACalls Try.prog 44 [items l, .int .i64 width, .int .i64 frm, .int .i64 i] h (.tup [.agg (lineC (mkLine l width frm i)), .bool r.2.2]) h := fun h => by rw [hr]; exact t44 l width frm i h hv hB w0 w1 h1 h2
        have em : (mkLine l width frm i).badness = r.1 := by rw [hr]; rfl
        rw [← hr] at hln
        cases hi2 : r.2.2 with
        | false =>
          rw [hi2] at hc44
          simp (disch := omega) only [spar, List.foldl, List.replicate, items, go_sem, wrap64_id, Int.tdiv_eq_ediv_of_nonneg, Int.tmod_eq_emod_of_nonneg]
          repeat' first
            | ((first | refine callA_pure (hc44 _) ?_ ?_ | refine callA_pure (t45 l i _) ?_ ?_); (next => repeat' first | exact flags_n | refine flags_c (by first | rfl | assumption) ?_); simp (disch := omega) only [lineC, em, go_sem, wrap64_id, Int.tdiv_eq_ediv_of_nonneg, Int.tmod_eq_emod_of_nonneg])
            | ((first | refine callG_pure (fun e => ⟨?_, hc44 _⟩) ?_ | refine callG_pure (fun e => ⟨?_, t45 l i _⟩) ?_); (next => repeat' first | exact flags_n | refine flags_c (by first | rfl | assumption) ?_); simp (disch := omega) only [lineC, em, go_sem, wrap64_id, Int.tdiv_eq_ediv_of_nonneg, Int.tmod_eq_emod_of_nonneg])
            | ((first | refine fnQ_pure1 ?_ ?_ | refine fnQ_pure0 ?_ ?_); (next => repeat' first | exact rvs_n | refine rvs_t ?_ | (simp [go_sem]; done)); simp only [go_sem]; (first | exact VLe.refl _ | refine VLe_int ?_ | refine VLe_bool ?_ | refine VLe_str ?_ | skip))
            | (with_reducible refine And.intro ?_ ?_)
            | with_reducible intro _
          all_goals first
            | omega
            | skip
          unfold feasAV cost
          rw [he, i3, ← hr, hi2]
          exact VLe.refl _
        | true =>
          rw [hi2] at hc44
          simp (disch := omega) only [spar, List.foldl, List.replicate, items, go_sem, wrap64_id, Int.tdiv_eq_ediv_of_nonneg, Int.tmod_eq_emod_of_nonneg]
          repeat' first
            | ((first | refine callA_pure (hc44 _) ?_ ?_ | refine callA_pure (t45 l i _) ?_ ?_); (next => repeat' first | exact flags_n | refine flags_c (by first | rfl | assumption) ?_); simp (disch := omega) only [lineC, em, go_sem, wrap64_id, Int.tdiv_eq_ediv_of_nonneg, Int.tmod_eq_emod_of_nonneg])
            | ((first | refine callG_pure (fun e => ⟨?_, hc44 _⟩) ?_ | refine callG_pure (fun e => ⟨?_, t45 l i _⟩) ?_); (next => repeat' first | exact flags_n | refine flags_c (by first | rfl | assumption) ?_); simp (disch := omega) only [lineC, em, go_sem, wrap64_id, Int.tdiv_eq_ediv_of_nonneg, Int.tmod_eq_emod_of_nonneg])
            | ((first | refine fnQ_pure1 ?_ ?_ | refine fnQ_pure0 ?_ ?_); (next => repeat' first | exact rvs_n | refine rvs_t ?_ | (simp [go_sem]; done)); simp only [go_sem]; (first | exact VLe.refl _ | refine VLe_int ?_ | refine VLe_bool ?_ | refine VLe_str ?_ | skip))
            | (with_reducible refine And.intro ?_ ?_)
            | with_reducible intro _
          all_goals first
            | omega
            | skip
          unfold feasAV cost
          rw [he, i3, ← hr, hi2]
          exact VLe.refl _
theorem feas_cases (l : List It) (width : Int) (frm to : Nat) : (arc l width frm to = none ∧ (feasAV l width frm to = .tup [.int .i64 0, .bool false, .int .i64 23] ∨ feasAV l width frm to = .tup [.int .i64 0, .bool false, .int .i64 0])) ∨
    ∃ c, arc l width frm to = some c ∧ feasAV l width frm to = .tup [.int .i64 c, .bool true, .int .i64 0] := by
  unfold feasAV arc
  cases ends l to
  · simp
  · cases free l frm to
    · simp
    · cases cost l width frm to
      · simp
      · simp
theorem great_small {l : List It} (h : great l = false) : l.length ≤ 14 ∧ ∀ i, (it l i).text.length ≤ 1000000 := by
  unfold great at h
  simp only [Bool.or_eq_false_iff, decide_eq_false_iff_not, List.any_eq_false, decide_eq_true_eq] at h
  refine ⟨by omega, fun i => ?_⟩
  by_cases hi : i < l.length
  · have := h.1 _ (it_mem hi); omega
  · unfold it; rw [List.getD_eq_getElem?_getD, List.getElem?_eq_none (by omega)]; show (default : It).text.length ≤ 1000000; decide
theorem fine_great {l : List It} {width : Int} (h : fine l width = true) : great l = false := by
  unfold fine at h
  simp only [Bool.and_eq_true, Bool.not_eq_true'] at h
  exact h.1.1
theorem fine_checkW {l : List It} {width : Int} (h : fine l width = true) : checkW l width = 0 := by
  obtain ⟨_, h2, h3, h4⟩ := fine_spec h
  unfold checkW isLen
  simp [h2, h3, h4]

theorem least_bnd {l : List It} {width : Int} (hv : Valid l) {p : List Int} (hb : ∀ j, -1 ≤ p.getD j 0 ∧ p.getD j 0 ≤ 20000 * 301) (frm to : Nat) : -1 ≤ least l.length p (arcsTo l width frm to) ∧ least l.length p (arcsTo l width frm to) ≤ 20000 * 302 := by
  have har : ∀ x ∈ arcsTo l width frm to, ∃ c, arc l width frm x.1 = some c ∧ x.2 = c := by
    intro x hx
    unfold arcsTo at hx
    simp only [List.mem_filterMap, Option.map_eq_some_iff] at hx
    obtain ⟨a, _, c, h3, rfl⟩ := hx
    exact ⟨c, h3, rfl⟩
  refine least_bound (fun x hx => ?_) (by omega) (fun x hx => ?_)
  · obtain ⟨c, h1, h2⟩ := har x hx
    have := arc_bound hv.ok h1
    omega
  · obtain ⟨c, h1, h2⟩ := har x hx
    have := arc_bound hv.ok h1
    have := (behind_bound (n := l.length) hb (by omega) x.1).2
    omega
end

section
/-! the text BE -/
open Go Go.Proofs AF P48
set_option maxRecDepth 100000
set_option maxHeartbeats 4000000 in
theorem law4 (l : List It) (width att : Int) (h : List AObj) (hl : l.length ≤ 9223372036854775807) (m0 : 0 ≤ att) (m1 : att ≤ 255) : ACalls Try.prog 4 [items l, .int .i64 width, .int .u8 att] h (.bool true) h := by
  cases hf : fine l width with
  | false =>
    refine acalls_of fn4 (by simp) ?_
    simp only [List.length_cons, List.length_nil, Nat.reduceAdd, Nat.reduceSub, List.replicate, List.cons_append, List.nil_append, List.append_nil]
    simp (disch := omega) only [c4, hf, go_sem, wrap64_id, Int.tdiv_eq_ediv_of_nonneg, Int.tmod_eq_emod_of_nonneg]
    repeat' first
      | ((first | refine callA_pure (t10 l width _ hl) ?_ ?_ | refine callA_pure (t11 _) ?_ ?_); (next => repeat' first | exact flags_n | refine flags_c (by first | rfl | assumption) ?_); simp (disch := omega) only [hf, go_sem, wrap64_id, Int.tdiv_eq_ediv_of_nonneg, Int.tmod_eq_emod_of_nonneg])
      | ((first | refine callG_pure (fun e => ⟨?_, t10 l width _ hl⟩) ?_ | refine callG_pure (fun e => ⟨?_, t11 _⟩) ?_); (next => repeat' first | exact flags_n | refine flags_c (by first | rfl | assumption) ?_); simp (disch := omega) only [hf, go_sem, wrap64_id, Int.tdiv_eq_ediv_of_nonneg, Int.tmod_eq_emod_of_nonneg])
      | ((first | refine fnQ_pure1 ?_ ?_ | refine fnQ_pure0 ?_ ?_); (next => repeat' first | exact rvs_n | refine rvs_t ?_ | (simp [go_sem]; done)); simp only [go_sem]; (first | exact VLe.refl _ | refine VLe_int ?_ | refine VLe_bool ?_ | refine VLe_str ?_ | skip))
      | (with_reducible refine And.intro ?_ ?_)
      | with_reducible intro _
  | true =>
    have hg := great_small (fine_great hf)
    obtain ⟨l14, hc, w0, w1⟩ := fine_spec hf
    have hv := Valid.of (by omega) hc
    have hw := fine_checkW hf
    have hpl := pots_len l width
    have hpb := potsGo_bound hv.ok width (l.length + 1)
    have hpb' : ∀ j, -1 ≤ (pots l width).getD j 0 ∧ (pots l width).getD j 0 ≤ 20000 * 301 := fun j => ⟨(hpb j).1, Int.le_trans (hpb j).2 (by omega)⟩
    have hc14 : ∀ h : List AObj, ACalls Try.prog 14 [items l, .int .i64 width] h (.tup [ints (pots l width), .int .i64 0]) h := fun h => by have := t14 l width h (by omega); rwa [if_pos hw] at this
    obtain ⟨frm, hfrm⟩ : ∃ frm : Nat, (frm : Int) = att % ((l.length : Int) + 1) := ⟨(att % ((l.length : Int) + 1)).toNat, Int.toNat_of_nonneg (Int.emod_nonneg _ (by omega))⟩
    have hfl : frm ≤ l.length := by have := Int.emod_lt_of_pos att (show 0 < (l.length : Int) + 1 by omega); omega
    refine acalls_of fn4 (by simp) ?_
    simp only [List.length_cons, List.length_nil, Nat.reduceAdd, Nat.reduceSub, List.replicate, List.cons_append, List.nil_append, List.append_nil]
    simp (disch := omega) only [c4, hf, items, go_sem, wrap64_id, Int.tdiv_eq_ediv_of_nonneg, Int.tmod_eq_emod_of_nonneg]
    repeat' first
      | ((first | refine callA_pure (t10 l width _ hl) ?_ ?_ | refine callA_pure (hc14 _) ?_ ?_); (next => repeat' first | exact flags_n | refine flags_c (by first | rfl | assumption) ?_); simp (disch := omega) only [hf, items, ints, hpl, go_sem, wrap64_id, Int.tdiv_eq_ediv_of_nonneg, Int.tmod_eq_emod_of_nonneg])
      | ((first | refine callG_pure (fun e => ⟨?_, t10 l width _ hl⟩) ?_ | refine callG_pure (fun e => ⟨?_, hc14 _⟩) ?_); (next => repeat' first | exact flags_n | refine flags_c (by first | rfl | assumption) ?_); simp (disch := omega) only [hf, items, ints, hpl, go_sem, wrap64_id, Int.tdiv_eq_ediv_of_nonneg, Int.tmod_eq_emod_of_nonneg])
      | ((first | refine fnQ_pure1 ?_ ?_ | refine fnQ_pure0 ?_ ?_); (next => repeat' first | exact rvs_n | refine rvs_t ?_ | (simp [go_sem]; done)); simp only [go_sem]; (first | exact VLe.refl _ | refine VLe_int ?_ | refine VLe_bool ?_ | refine VLe_str ?_ | skip))
      | (with_reducible refine And.intro ?_ ?_)
      | with_reducible intro _
    all_goals first
      | omega
      | skip
    rw [← hfrm]
    refine loop_of (T := fun i : Nat => spar 104 [(0, items l), (1, .int .i64 width), (7, ints (pots l width)), (9, .int .i64 frm), (10, .int .i64 (least l.length (pots l width) (arcsTo l width frm i))), (11, .int .i64 i)]) (H := fun _ => h)
      (inv := fun i => frm ≤ i ∧ i ≤ l.length + 1) (m := fun i => l.length + 1 - i) frm ⟨Nat.le_refl _, by omega⟩ (Wk.temps ?_) ?_
    · rw [arcsTo_self]
      simp only [items, ints, hpl, spar, List.foldl, List.replicate, go_sem, VLes_nil, VLes_cons, VLe_undef_iff, VLe_self]
      try (repeat' first | (with_reducible refine And.intro ?_ ?_) | (refine VLe_int ?_; omega) | (refine VLe_bool ?_; rfl))
      all_goals exact VLe.refl _
    · rintro i ⟨i1, i2⟩ K hK
      obtain ⟨p, hp⟩ : ∃ p, p = pots l width := ⟨_, rfl⟩
      rw [← hp] at hpl hpb'
      simp only [← hp] at hK ⊢
      have hlb := least_bnd (width := width) hv hpb' frm i
      by_cases hi : i ≤ l.length
      · have hbd := behind_bound (n := l.length) hpb' (by omega) i
        have hpi := hpb' (i + 1)
        have hih : ((i : Int) + 1).toNat = i + 1 := by omega
        rcases feas_cases l width frm i with ⟨ha, hfe | hfe⟩ | ⟨c, ha, hfe⟩
        · have hc15 : ∀ h : List AObj, ACalls Try.prog 15 [items l, .int .i64 width, .int .i64 frm, .int .i64 i] h (.tup [.int .i64 0, .bool false, .int .i64 23]) h := fun h => by rw [← hfe]; exact t15 l width frm i h (by omega) hw hg.2 i1 hi
          simp (disch := omega) only [spar, List.foldl, List.replicate, items, ints, hpl, go_sem, wrap64_id, Int.tdiv_eq_ediv_of_nonneg, Int.tmod_eq_emod_of_nonneg]
          repeat' first
            | ((first | refine callA_pure (hc15 _) ?_ ?_); (next => repeat' first | exact flags_n | refine flags_c (by first | rfl | assumption) ?_); simp (disch := omega) only [items, ints, hpl, go_sem, wrap64_id, Int.tdiv_eq_ediv_of_nonneg, Int.tmod_eq_emod_of_nonneg])
            | ((first | refine callG_pure (fun e => ⟨?_, hc15 _⟩) ?_); (next => repeat' first | exact flags_n | refine flags_c (by first | rfl | assumption) ?_); simp (disch := omega) only [items, ints, hpl, go_sem, wrap64_id, Int.tdiv_eq_ediv_of_nonneg, Int.tmod_eq_emod_of_nonneg])
            | ((first | refine fnQ_pure1 ?_ ?_ | refine fnQ_pure0 ?_ ?_); (next => repeat' first | exact rvs_n | refine rvs_t ?_ | (simp [go_sem]; done)); simp only [go_sem]; (first | exact VLe.refl _ | refine VLe_int ?_ | refine VLe_bool ?_ | refine VLe_str ?_ | skip))
            | (with_reducible refine And.intro ?_ ?_)
            | with_reducible intro _
          all_goals first
            | omega
            | (rename_i hx; exfalso; revert hx; simp; done)
            | skip
          refine hK _ _ (i + 1) ⟨by omega, by omega⟩ (by omega) ?_
          rw [arcsTo_succ l width i1, ha, List.append_nil]
          refine Wk.temps ?_
          simp only [items, ints, hpl, spar, List.foldl, List.replicate, go_sem, VLes_nil, VLes_cons, VLe_undef_iff, VLe_self]
          try (repeat' first | (with_reducible refine And.intro ?_ ?_) | (refine VLe_int ?_; omega) | (refine VLe_bool ?_; rfl))
          all_goals exact VLe.refl _
        · have hc15 : ∀ h : List AObj, ACalls Try.prog 15 [items l, .int .i64 width, .int .i64 frm, .int .i64 i] h (.tup [.int .i64 0, .bool false, .int .i64 0]) h := fun h => by rw [← hfe]; exact t15 l width frm i h (by omega) hw hg.2 i1 hi
          simp (disch := omega) only [spar, List.foldl, List.replicate, items, ints, hpl, go_sem, wrap64_id, Int.tdiv_eq_ediv_of_nonneg, Int.tmod_eq_emod_of_nonneg]
          repeat' first
            | ((first | refine callA_pure (hc15 _) ?_ ?_); (next => repeat' first | exact flags_n | refine flags_c (by first | rfl | assumption) ?_); simp (disch := omega) only [items, ints, hpl, go_sem, wrap64_id, Int.tdiv_eq_ediv_of_nonneg, Int.tmod_eq_emod_of_nonneg])
            | ((first | refine callG_pure (fun e => ⟨?_, hc15 _⟩) ?_); (next => repeat' first | exact flags_n | refine flags_c (by first | rfl | assumption) ?_); simp (disch := omega) only [items, ints, hpl, go_sem, wrap64_id, Int.tdiv_eq_ediv_of_nonneg, Int.tmod_eq_emod_of_nonneg])
            | ((first | refine fnQ_pure1 ?_ ?_ | refine fnQ_pure0 ?_ ?_); (next => repeat' first | exact rvs_n | refine rvs_t ?_ | (simp [go_sem]; done)); simp only [go_sem]; (first | exact VLe.refl _ | refine VLe_int ?_ | refine VLe_bool ?_ | refine VLe_str ?_ | skip))
            | (with_reducible refine And.intro ?_ ?_)
            | with_reducible intro _
          all_goals first
            | omega
            | (rename_i hx; exfalso; revert hx; simp; done)
            | skip
          refine hK _ _ (i + 1) ⟨by omega, by omega⟩ (by omega) ?_
          rw [arcsTo_succ l width i1, ha, List.append_nil]
          refine Wk.temps ?_
          simp only [items, ints, hpl, spar, List.foldl, List.replicate, go_sem, VLes_nil, VLes_cons, VLe_undef_iff, VLe_self]
          try (repeat' first | (with_reducible refine And.intro ?_ ?_) | (refine VLe_int ?_; omega) | (refine VLe_bool ?_; rfl))
          all_goals exact VLe.refl _
        · have hcb := arc_bound hv.ok ha
          have hc15 : ∀ h : List AObj, ACalls Try.prog 15 [items l, .int .i64 width, .int .i64 frm, .int .i64 i] h (.tup [.int .i64 c, .bool true, .int .i64 0]) h := fun h => by rw [← hfe]; exact t15 l width frm i h (by omega) hw hg.2 i1 hi
          have key : ∀ m : Int, m = (if 0 ≤ behind l.length p i ∧ (least l.length p (arcsTo l width frm i) < 0 ∨ c + behind l.length p i < least l.length p (arcsTo l width frm i)) then c + behind l.length p i else least l.length p (arcsTo l width frm i)) →
              ∀ t', VLes t' (spar 104 [(0, items l), (1, .int .i64 width), (7, ints p), (9, .int .i64 frm), (10, .int .i64 m), (11, .int .i64 ((i + 1 : Nat) : Int))]) → K t' h := by
            intro m hm t' ht
            refine hK t' h (i + 1) ⟨by omega, by omega⟩ (by omega) ?_
            rw [arcsTo_succ l width i1, ha, least_snoc, ← hm]
            exact Wk.temps ht
          by_cases hn : i = l.length
          · have hbe : behind l.length p i = 0 := by unfold behind; rw [if_pos hn]
            simp (disch := omega) only [spar, List.foldl, List.replicate, items, ints, hpl, hih, go_sem, wrap64_id, Int.tdiv_eq_ediv_of_nonneg, Int.tmod_eq_emod_of_nonneg]
            repeat' first
              | ((first | refine callA_pure (hc15 _) ?_ ?_); (next => repeat' first | exact flags_n | refine flags_c (by first | rfl | assumption) ?_); simp (disch := omega) only [items, ints, hpl, hih, go_sem, wrap64_id, Int.tdiv_eq_ediv_of_nonneg, Int.tmod_eq_emod_of_nonneg])
              | ((first | refine callG_pure (fun e => ⟨?_, hc15 _⟩) ?_); (next => repeat' first | exact flags_n | refine flags_c (by first | rfl | assumption) ?_); simp (disch := omega) only [items, ints, hpl, hih, go_sem, wrap64_id, Int.tdiv_eq_ediv_of_nonneg, Int.tmod_eq_emod_of_nonneg])
              | ((first | refine fnQ_pure1 ?_ ?_ | refine fnQ_pure0 ?_ ?_); (next => repeat' first | exact rvs_n | refine rvs_t ?_ | (simp [go_sem]; done)); simp only [go_sem]; (first | exact VLe.refl _ | refine VLe_int ?_ | refine VLe_bool ?_ | refine VLe_str ?_ | skip))
              | (with_reducible refine And.intro ?_ ?_)
              | with_reducible intro _
            all_goals first
              | omega
              | (rename_i hx; exfalso; revert hx; simp; done)
              | (refine key (c + behind l.length p i) ?_ _ ?_; (rw [if_pos (by omega)]); (simp only [hpl, items, ints, spar, List.foldl, List.replicate, go_sem, VLes_nil, VLes_cons, VLe_undef_iff, VLe_self]; try (repeat' first | (with_reducible refine And.intro ?_ ?_) | (refine VLe_int ?_; omega) | (refine VLe_bool ?_; rfl) | exact VLe.refl _)); done)
              | (refine key (least l.length p (arcsTo l width frm i)) ?_ _ ?_; (rw [if_neg (by omega)]); (simp only [hpl, items, ints, spar, List.foldl, List.replicate, go_sem, VLes_nil, VLes_cons, VLe_undef_iff, VLe_self]; try (repeat' first | (with_reducible refine And.intro ?_ ?_) | (refine VLe_int ?_; omega) | (refine VLe_bool ?_; rfl) | exact VLe.refl _)); done)
              | skip
          · have hbe : behind l.length p i = p.getD (i + 1) 0 := by unfold behind; rw [if_neg hn]
            simp (disch := omega) only [spar, List.foldl, List.replicate, items, ints, hpl, hih, go_sem, wrap64_id, Int.tdiv_eq_ediv_of_nonneg, Int.tmod_eq_emod_of_nonneg]
            repeat' first
              | ((first | refine callA_pure (hc15 _) ?_ ?_); (next => repeat' first | exact flags_n | refine flags_c (by first | rfl | assumption) ?_); simp (disch := omega) only [items, ints, hpl, hih, go_sem, wrap64_id, Int.tdiv_eq_ediv_of_nonneg, Int.tmod_eq_emod_of_nonneg])
              | ((first | refine callG_pure (fun e => ⟨?_, hc15 _⟩) ?_); (next => repeat' first | exact flags_n | refine flags_c (by first | rfl | assumption) ?_); simp (disch := omega) only [items, ints, hpl, hih, go_sem, wrap64_id, Int.tdiv_eq_ediv_of_nonneg, Int.tmod_eq_emod_of_nonneg])
              | ((first | refine fnQ_pure1 ?_ ?_ | refine fnQ_pure0 ?_ ?_); (next => repeat' first | exact rvs_n | refine rvs_t ?_ | (simp [go_sem]; done)); simp only [go_sem]; (first | exact VLe.refl _ | refine VLe_int ?_ | refine VLe_bool ?_ | refine VLe_str ?_ | skip))
              | (with_reducible refine And.intro ?_ ?_)
              | with_reducible intro _
            all_goals first
              | omega
              | (rename_i hx; exfalso; revert hx; simp; done)
              | (refine key (c + behind l.length p i) ?_ _ ?_; (rw [if_pos (by omega)]); (simp only [hpl, items, ints, spar, List.foldl, List.replicate, go_sem, VLes_nil, VLes_cons, VLe_undef_iff, VLe_self]; try (repeat' first | (with_reducible refine And.intro ?_ ?_) | (refine VLe_int ?_; omega) | (refine VLe_bool ?_; rfl) | exact VLe.refl _)); done)
              | (refine key (least l.length p (arcsTo l width frm i)) ?_ _ ?_; (rw [if_neg (by omega)]); (simp only [hpl, items, ints, spar, List.foldl, List.replicate, go_sem, VLes_nil, VLes_cons, VLe_undef_iff, VLe_self]; try (repeat' first | (with_reducible refine And.intro ?_ ?_) | (refine VLe_int ?_; omega) | (refine VLe_bool ?_; rfl) | exact VLe.refl _)); done)
              | skip
      · have e : i = l.length + 1 := by omega
        subst e
        have hpg := pots_get l width frm hfl
        rw [← hp] at hpg
        rw [arcsTo_all] at hlb ⊢
        have hft : ((frm : Int)).toNat = frm := by omega
        simp (disch := omega) only [spar, List.foldl, List.replicate, items, ints, hpl, hft, go_sem, wrap64_id, Int.tdiv_eq_ediv_of_nonneg, Int.tmod_eq_emod_of_nonneg]
        repeat' first
          | ((first | refine callA_pure (t11 _) ?_ ?_); (next => repeat' first | exact flags_n | refine flags_c (by first | rfl | assumption) ?_); simp (disch := omega) only [eq_self, hpg, hft, go_sem, wrap64_id, Int.tdiv_eq_ediv_of_nonneg, Int.tmod_eq_emod_of_nonneg])
          | ((first | refine callG_pure (fun e => ⟨?_, t11 _⟩) ?_); (next => repeat' first | exact flags_n | refine flags_c (by first | rfl | assumption) ?_); simp (disch := omega) only [eq_self, hpg, hft, go_sem, wrap64_id, Int.tdiv_eq_ediv_of_nonneg, Int.tmod_eq_emod_of_nonneg])
          | ((first | refine fnQ_pure1 ?_ ?_ | refine fnQ_pure0 ?_ ?_); (next => repeat' first | exact rvs_n | refine rvs_t ?_ | (simp [go_sem]; done)); simp only [go_sem]; (first | exact VLe.refl _ | refine VLe_int ?_ | refine VLe_bool ?_ | refine VLe_str ?_ | skip))
          | (with_reducible refine And.intro ?_ ?_)
          | with_reducible intro _
        all_goals first
          | omega
          | (rename_i hx; exfalso; revert hx; simp; done)
          | skip
        all_goals trace_state
end

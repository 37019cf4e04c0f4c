/-
  AF10: the operations that make or change objects.
-/
import Derived.Test.YtpnjpjibccmkiaaAf9
import Derived.Lib.AppendStr
import Derived.Maps.AppendAt
set_option linter.all false
set_option linter.unusedSimpArgs false
set_option linter.unusedVariables false
set_option linter.unusedSectionVars false
namespace AF
open Go

section
variable {P : Program} {js : List Tmp} {imp : List FuncId} {w : World} {σ : List OB}

theorem site_spec {h : List AObj} {k : Nat} (H : HR w σ h) (hs : site h k = true) : ∃ o : OB, σ[k]? = some o ∧ verOf (getO k h) = o.ver := by
  unfold site at hs
  unfold getO at hs ⊢
  split at hs
  · rename_i v ty cs hk
    have hlt : k < σ.length := by rw [H.len]; exact (List.getElem?_eq_some_iff.1 hk).1
    have ho : σ[k]? = some σ[k] := List.getElem?_eq_getElem hlt
    have := H.obj k _ _ hk ho
    exact ⟨_, ho, by rw [hk]; exact this.1.symm⟩
  · rename_i v hk
    have hlt : k < σ.length := by rw [H.len]; exact (List.getElem?_eq_some_iff.1 hk).1
    have ho : σ[k]? = some σ[k] := List.getElem?_eq_getElem hlt
    have := H.obj k _ _ hk ho
    exact ⟨_, ho, by rw [hk]; exact this.1.symm⟩
  · cases hs

theorem site_nolp {h : List AObj} {k : Nat} (hs : site h k = true) : ∀ s ts L, h[k]? ≠ some (.lp s ts L) := by
  intro s ts L e
  simp [site, getO, e] at hs

theorem grownBy_any {w w' : World} (h : w.grownBy w' none) (r : Option Nat) : w.grownBy w' r := ⟨h.os, h.tape, h.output, h.size, fun k hk _ => h.block k hk (by simp)⟩

/-- An object gets a new block. -/
theorem HR.fresh {w' : World} {h : List AObj} (H : HR w σ h) {k : Nat} {o : OB} (hk : σ[k]? = some o) {b : Nat} {arr : Array Value} {T : TypeId} (hg : w.grownBy w' none) (hb : w.heap.size ≤ b) (hb' : w'.heap[b]? = some (.cells arr T (0, 0)))
    {cs : List AV} (hl : cs.length ≤ arr.size) (h1 : ∀ (i : Nat) x, i < cs.length → arr[i]? = some x → x.oneCell' = true)
    (hv : ∀ (i : Nat) c x, cs[i]? = some c → arr[i]? = some x → VR w σ c x) :
    ∃ σ', HR w' σ' (h.set k (.mem (o.ver + 1) T cs)) ∧ Ext w σ w' σ' ∧ σ'[k]? = some { blk := some b, ver := o.ver + 1, size := arr.size, ty := T } := by
  have hlt : b < w'.heap.size := (Array.getElem?_eq_some_iff.1 hb').1
  have hkl : k < σ.length := (List.getElem?_eq_some_iff.1 hk).1
  obtain ⟨g1, g2⟩ := H.update (w' := w') (o' := { blk := some b, ver := o.ver + 1, size := arr.size, ty := T }) (a' := .mem (o.ver + 1) T cs) hk (grownBy_any hg _) (by simp) (by simp) (by rintro b' ⟨⟩; exact ⟨.inr hb, hlt⟩)
    (fun b r _ hr => ⟨r, (hg.block b (Array.getElem?_eq_some_iff.1 hr).1 (by simp)).trans hr⟩)
    (fun e => ⟨rfl, rfl, b, arr, rfl, hb', rfl, hl, h1, fun i c x hc hx => (hv i c x hc hx).ext e⟩)
  exact ⟨_, g1, g2, by simp [hkl]⟩

theorem grown_alloc (o : Obj) : w.grownBy (w.alloc o) none := World.grownBy_alloc w o none

/-- What is shown of an operation that changes objects. -/
def EffOk (P : Program) (w : World) (σ : List OB) (ρ : Operand → Value) (o : Oper) (t : List AV) (d : Option Nat) (nx : Nx) : Prop :=
  ∃ (nv : Next) (x : Value) (w' : World) (σ' : List OB) (v : AV) (h' : List AObj), (execOp ρ o).run P w = .ok nv w' ∧ (nv = .value x ∨ (nv = .skip ∧ x = Go.undef)) ∧ HR w' σ' h' ∧ VR w' σ' v x ∧ Ext w σ w' σ' ∧ nx (putA t d v) h'

variable {h : List AObj} {b : Nat} {t : List AV} {d : Option Nat} {nx : Nx} {ρ : Operand → Value}

theorem ef_nilo {o : Oper} {j sz : Nat} {ty : TypeId} (ho : o.op = .assign (.const (.slice none 0 0)) ∨ o.op = .move (.const (.slice none 0 0))) (hρ : ∀ c, ρ (.const c) = c) (H : HR w σ h) {vs : List AV} (he : effE b h (.nilo j sz ty) vs t d nx) :
    EffOk P w σ ρ o t d nx := by
  match vs, he with
  | [], ⟨hs, hn⟩ =>
    obtain ⟨ob, hk, hver⟩ := site_spec H hs
    obtain ⟨g1, g2⟩ := H.kill hk
    have hkl : b + j < σ.length := (List.getElem?_eq_some_iff.1 hk).1
    rw [hver] at hn
    refine ⟨.value (.slice none 0 0), .slice none 0 0, w, _, _, _, ?_, .inl rfl, g1, ?_, g2, hn⟩
    · rcases ho with ho | ho <;> simp [execOp, ho, hρ]
    · exact .osl { ob with blk := none, ver := ob.ver + 1 } (by simp [hkl]) ⟨_, _, _, rfl⟩ (Nat.le_refl _) (fun _ => .inl ⟨rfl, rfl, rfl, rfl⟩)

theorem ef_alloc {o : Oper} {j : Nat} {ty : TypeId} {z : List AV} (ho : o.op = .alloc ty) (hz : zeroA P ty = some z) (H : HR w σ h) {vs : List AV} (he : effE b h (.alloc j ty z) vs t d nx) : EffOk P w σ ρ o t d nx := by
  match vs, he with
  | [], ⟨hs, hn⟩ =>
    obtain ⟨ob, hk, hver⟩ := site_spec H hs
    rw [hver] at hn
    obtain ⟨i, zv, hi, hzv, hzs, hzo⟩ := zeroA_spec hz
    obtain ⟨hz1, hz2⟩ := ofVs_vi (w := w) (ow := own σ) hzo
    obtain ⟨σ', g1, g2, g3⟩ := H.fresh hk (w' := w.alloc (.cells zv.cells ty)) (b := w.heap.size) (arr := zv.cells) (T := ty) (cs := z) (grown_alloc _) (Nat.le_refl _) (heap_alloc_new w _)
      (by rw [← hz1]; simp) (fun i x _ hx => ofVs_one hzo i x (by simpa using hx)) (fun i c x hc hx => .imm (hz2 i c x hc (by simpa using hx)))
    refine ⟨.value (.pointer (some ⟨w.heap.size, 0, none⟩)), _, _, σ', _, _, ?_, .inl rfl, g1, ?_, g2, hn⟩
    · simp only [execOp, ho, Instr.alloc, Sem.run_bind, run_zer hi hzv, Result.andThen_ok]
      rfl
    · exact .op _ g3 ⟨_, rfl⟩ (Nat.le_refl _) (fun _ => ⟨_, rfl, rfl⟩)

theorem ef_box {o : Oper} {j : Nat} {ty : TypeId} {x : Operand} (ho : o.op = .box ty x) (H : HR w σ h) {vs : List AV} (hv : VRs w σ vs [ρ x]) (he : effE b h (.box j ty) vs t d nx) : EffOk P w σ ρ o t d nx := by
  match vs, hv, he with
  | [v], hv, ⟨⟨hs, hso⟩, hn⟩ =>
    obtain ⟨y, hy, hr⟩ := hv.one
    cases hy
    obtain ⟨ob, hk, hver⟩ := site_spec H hs
    rw [hver] at hn
    obtain ⟨c1, c3, c2⟩ := vr_cells hr hso
    obtain ⟨σ', g1, g2, g3⟩ := H.fresh hk (w' := w.alloc (.cells (ρ x).cells ty)) (b := w.heap.size) (arr := (ρ x).cells) (T := ty) (cs := v.cells) (grown_alloc _) (Nat.le_refl _) (heap_alloc_new w _)
      (by omega) (fun i x _ hx => c3 i x hx) c2
    refine ⟨.value (.pointer (some ⟨w.heap.size, 0, none⟩)), _, _, σ', _, _, ?_, .inl rfl, g1, ?_, g2, hn⟩
    · simp only [execOp, ho, Instr.box]
      rfl
    · exact .op _ g3 ⟨_, rfl⟩ (Nat.le_refl _) (fun _ => ⟨_, rfl, rfl⟩)

theorem setRow_block {g : Nat} {cur new : Array Value} {ty : TypeId} (hg : w.heap[g]? = some (.cells cur ty (0, 0))) : (w.setRow g new).heap[g]? = some (.cells new ty (0, 0)) ∧ w.grownBy (w.setRow g new) (some g) := by
  refine ⟨setRow_heap w g cur new ty (0, 0) hg, ⟨rfl, rfl, rfl, by simp [World.setRow], fun k hk hne => ?_⟩⟩
  have : k ≠ g := fun e => hne (by rw [e])
  simp [World.setRow, Array.getElem?_modify, Ne.symm this]

theorem ef_store {o : Oper} {ty : TypeId} {a x : Operand} {i : TypeInfo} (ho : o.op = .store ty a x) (hi : P.info? ty = some i) (H : HR w σ h) {vs : List AV} (hv : VRs w σ vs [ρ a, ρ x]) (he : effE b h (.store i.size) vs t d nx) : EffOk P w σ ρ o t d nx := by
  match vs, hv, he with
  | [.op k ver off, v], hv, ⟨⟨hl, hso, hn, hle⟩, hnx⟩ =>
    obtain ⟨p, q, hpq, ha, hb⟩ := hv.two
    cases hpq
    obtain ⟨cs, ob, bl, arr, g1, hx, g2, g3, g4, g5, g6, g7, g9, g8⟩ := op_live H ha hl
    obtain ⟨c1, c3, c2⟩ := vr_cells hb hso
    rw [g1, Option.getD_some] at hle hnx
    have hst := run_storeCells_at P bl off ob.ty (ρ x).cells.toList 0 arr w g5 (by simp; omega) (fun v hv => by
      obtain ⟨n, hn⟩ := List.getElem?_of_mem hv
      exact c3 n v (by simpa using hn))
    simp only [Nat.add_zero, Array.length_toList] at hst
    generalize hnew : (arr.toList.take off ++ (ρ x).cells.toList ++ arr.toList.drop (off + (ρ x).cells.size)).toArray = new at hst
    have hnl : new.toList = arr.toList.take off ++ (ρ x).cells.toList ++ arr.toList.drop (off + i.size) := by rw [← hnew, c1, hn]
    obtain ⟨r1, r2⟩ := setRow_block (new := new) g5
    have hsz : new.size = arr.size := by rw [← Array.length_toList, hnl]; simp; omega
    have hkc := cellsOf_spec H g1
    obtain ⟨_, _, _, _, _, hkm, _⟩ := hkc
    have hty : tyOf (getO k h) = ob.ty := by
      simp only [getO]
      obtain ⟨o', _, _, e1, _, e2, _⟩ := cellsOf_spec H g1
      rw [g2] at e1
      cases e1
      rw [e2]
      rfl
    have hrow : w.grownBy (w.setRow bl new) ob.blk := by rw [g4]; exact r2
    obtain ⟨u1, u2⟩ := H.update (w' := w.setRow bl new) (o' := ob) (a' := .mem ver ob.ty (cs.take off ++ v.cells ++ cs.drop (off + i.size))) g2 hrow (Nat.le_refl _) (fun _ => rfl) (by
        intro b' e; rw [g4] at e; cases e; exact ⟨.inl g4, by rw [← hnew] at *; exact (Array.getElem?_eq_some_iff.1 r1).1⟩) (fun b r e hr => by rw [g4] at e; cases e; rw [g5] at hr; cases hr)
      (fun e => ⟨g3, rfl, bl, new, g4, r1, by omega, by simp; omega, fun n y hny hy => by
          rw [← Array.getElem?_toList, hnl, getElem?_splice (by simp; omega) (by simp; omega)] at hy
          split at hy
          · exact g9 n y (by simp at hny; omega) (by simpa using hy)
          · split at hy
            · exact c3 _ y (by simpa using hy)
            · exact g9 n y (by simp at hny; omega) (by simpa using hy), fun n c y hc hy => by
          rw [getElem?_splice hn hle] at hc
          rw [← Array.getElem?_toList, hnl, getElem?_splice (by simp; omega) (by simp; omega)] at hy
          split at hc
          · rename_i hlt
            rw [if_pos hlt] at hy
            exact (g8 n c y hc (by simpa using hy)).ext e
          · rename_i hlt
            rw [if_neg hlt] at hy
            split at hc
            · rename_i hlt'
              rw [if_pos hlt'] at hy
              exact (c2 _ c y hc (by simpa using hy)).ext e
            · rename_i hlt'
              rw [if_neg hlt'] at hy
              exact (g8 n c y hc (by simpa using hy)).ext e⟩)
    refine ⟨.skip, Go.undef, _, _, .tup [], _, ?_, .inr ⟨rfl, rfl⟩, u1, .imm (.tup rfl fun i c x hc => by simp at hc), u2, by rw [hty] at hnx; exact hnx⟩
    simp [execOp, ho, hx, Instr.storeAt, Instr.sureAddr, storeVar, run_siz hi, c1, hn, hst]

theorem madeA_get (z : List AV) : ∀ (n : Nat), (madeA z n).length = n * z.length ∧ ∀ i, i < n * z.length → (madeA z n)[i]? = z[i % z.length]? := by
  intro n
  induction n with
  | zero => exact ⟨by simp [madeA], fun i hi => by omega⟩
  | succ n ih =>
    refine ⟨by simp [madeA, ih.1, Nat.add_mul, Nat.add_comm], fun i hi => ?_⟩
    simp only [madeA]
    by_cases h : i < z.length
    · rw [List.getElem?_append_left h, Nat.mod_eq_of_lt h]
    · rw [List.getElem?_append_right (by omega), ih.2 _ (by rw [Nat.add_mul] at hi; omega)]
      congr 1
      exact (Nat.mod_eq_sub_mod (by omega)).symm

theorem made_rel {z : List AV} {zv : Array Value} (hz : ofVs zv.toList = some z) (n : Nat) : (madeA z n).length = (madeCells zv (n * zv.size)).size ∧ (∀ (i : Nat) x, (madeCells zv (n * zv.size))[i]? = some x → x.oneCell' = true) ∧
    ∀ (i : Nat) c x, (madeA z n)[i]? = some c → (madeCells zv (n * zv.size))[i]? = some x → VR w σ c x := by
  obtain ⟨h1, h2⟩ := ofVs_vi (w := w) (ow := own σ) hz
  have hl : zv.size = z.length := by simpa using h1
  have hget : ∀ (i : Nat) x, (madeCells zv (n * zv.size))[i]? = some x → i < n * zv.size ∧ zv[i % zv.size]? = some x := by
    intro i x hx
    have hi : i < n * zv.size := by
      have := (Array.getElem?_eq_some_iff.1 hx).1
      simpa [madeCells] using this
    have hm : i % zv.size < zv.size := Nat.mod_lt _ (by
      rcases Nat.eq_zero_or_pos zv.size with h | h
      · rw [h] at hi; omega
      · exact h)
    refine ⟨hi, ?_⟩
    simp [madeCells, hi] at hx
    rw [Array.getElem?_eq_getElem hm, ← hx]
    simp [getElem!_pos, hm]
  refine ⟨by rw [size_madeCells, (madeA_get z n).1, hl], fun i x hx => ?_, fun i c x hc hx => ?_⟩
  · obtain ⟨_, h4⟩ := hget i x hx
    exact ofVs_one hz _ x (by simpa using h4)
  · obtain ⟨h3, h4⟩ := hget i x hx
    rw [(madeA_get z n).2 i (by rw [← hl]; exact h3), ← hl] at hc
    exact .imm (h2 _ c x hc (by simpa using h4))

theorem ef_mkslc {o : Oper} {j : Nat} {ty e : TypeId} {x y : Operand} {i : TypeInfo} {z : List AV} (ho : o.op = .makeSlice ty x y) (ht : P.underlying ty = some (.slice e)) (hz : zeroA P e = some z) (hi : P.info? e = some i) (H : HR w σ h) {vs : List AV}
    (hv : VRs w σ vs [ρ x, ρ y]) (he : effE b h (.mkslc j i.size e z i.bytes) vs t d nx) : EffOk P w σ ρ o t d nx := by
  match vs, hv, he with
  | [.int .i64 l, .int .i64 c], hv, ⟨⟨hs, hzl, h0, hlc, h1, h2⟩, hn⟩ =>
    subst hlc
    obtain ⟨p, q, hpq, ha, hb⟩ := hv.two
    cases hpq
    have ea := vr_int ha
    have eb := vr_int hb
    obtain ⟨ob, hk, hver⟩ := site_spec H hs
    rw [hver] at hn
    obtain ⟨i', zv, hi', hzv, hzs, hzo⟩ := zeroA_spec hz
    rw [hi] at hi'
    cases hi'
    have hmk := run_make (P := P) w ty e i zv ht hi hzv .i64 .i64 l l h0 (Int.le_refl _) (by rw [Int.mul_comm]; omega) (by omega)
    rw [← hzs] at hmk
    obtain ⟨m1, m2, m3⟩ := made_rel (w := w) (σ := σ) hzo l.toNat
    obtain ⟨σ', g1, g2, g3⟩ := H.fresh hk (w' := w.alloc (.cells (madeCells zv.cells (l.toNat * zv.cells.size)) e)) (b := w.heap.size) (cs := madeA z l.toNat) (grown_alloc _) (Nat.le_refl _) (heap_alloc_new w _)
      (by omega) (fun i x _ hx => m2 i x hx) m3
    refine ⟨.value (.slice (some ⟨w.heap.size, 0, none⟩) l.toNat l.toNat), _, _, σ', _, _, ?_, .inl rfl, g1, ?_, g2, hn⟩
    · simp only [execOp, ho, ea, eb, Sem.run_bind, hmk, Result.andThen_ok, Sem.run_pure]
    · refine .osl _ g3 ⟨_, _, _, rfl⟩ (Nat.le_refl _) (fun _ => .inr ⟨_, l.toNat, rfl, rfl, Nat.le_refl _, by unfold maxLen; omega, ?_⟩)
      rw [Nat.zero_add, ← m1, (madeA_get z _).1, hzl]

theorem ef_bslc {o : Oper} {j n : Nat} {ty e : TypeId} {ps : Array (Nat × Operand)} {i : TypeInfo} {z : List AV} (ho : o.op = .buildSlice ty n ps) (ht : P.underlying ty = some (.slice e)) (hz : zeroA P e = some z) (hi : P.info? e = some i) (hn24 : n * i.size ≤ 16777216) (H : HR w σ h)
    {vs : List AV} (hv : VRs w σ vs ((ps.toList.map (·.2)).map ρ)) (he : effE b h (.bslc j i.size n e z (ps.toList.map fun p => (p.1 * i.size, i.size))) vs t d nx) : EffOk P w σ ρ o t d nx := by
  have he' : (site h (b + j) = true ∧ z.length = i.size ∧ fillOk (n * i.size) (ps.toList.map fun p => (p.1 * i.size, i.size)) vs ∧ n ≤ 140737488355328) ∧
      nx (putA t d (.osl (b + j) (verOf (getO (b + j) h) + 1) i.size 0 n)) (setO (b + j) h (.mem (verOf (getO (b + j) h) + 1) e (fillA (madeA z n) (ps.toList.map fun p => (p.1 * i.size, i.size)) vs))) := by cases vs <;> exact he
  obtain ⟨⟨hs, hzl, hok, h47⟩, hn⟩ := he'
  obtain ⟨ob, hk, hver⟩ := site_spec H hs
  rw [hver] at hn
  obtain ⟨i', zv, hi', hzv, hzs, hzo⟩ := zeroA_spec hz
  rw [hi] at hi'
  cases hi'
  obtain ⟨m1, m2, m3⟩ := made_rel (w := w) (σ := σ) hzo n
  have hml := (madeA_get z n).1
  obtain ⟨out, o1, o2, o4, o3⟩ := run_fill (w := w) (σ := σ) (place := fun k => some (k * i.size, i.size)) (is := ps.toList.map (·.1)) (l := ps.toList.map fun p => (p.1 * i.size, i.size)) (vs := vs) (z := madeA z n) (cells := madeCells zv.cells (n * zv.cells.size))
    (fun j k p hj hp => by
      rw [List.getElem?_map] at hj hp
      cases hq : ps.toList[j]? with
      | none => simp [hq] at hj
      | some q => simp [hq] at hj hp; subst hj; rw [← hp]) (by simp) hv (by rw [hml, hzl]; exact hok) (by omega) m2 m3
  have hzip : (ps.map fun x => (x.1, ρ x.2)).toList = (ps.toList.map (·.1)).zip ((ps.toList.map (·.2)).map ρ) := by
    simp [List.zip_map', Array.toList_map]
  obtain ⟨σ', g1, g2, g3⟩ := H.fresh hk (w' := w.alloc (.cells out e)) (b := w.heap.size) (cs := fillA (madeA z n) (ps.toList.map fun p => (p.1 * i.size, i.size)) vs) (grown_alloc _) (Nat.le_refl _) (heap_alloc_new w _)
    (by omega) (fun i x _ hx => o4 i x hx) o3
  have hout : out.size = n * i.size := by
    have : ∀ (l : List (Nat × Nat)) (vs : List AV) (z : List AV), fillOk z.length l vs → (fillA z l vs).length = z.length := by
      intro l
      induction l with
      | nil => intro vs z hh; cases vs <;> rfl
      | cons p l ih =>
        intro vs z hh
        obtain ⟨off, m⟩ := p
        cases vs with
        | nil => exact hh.elim
        | cons v vs =>
          obtain ⟨q1, q2, q3, q4⟩ := hh
          have hl : (z.take off ++ v.cells ++ z.drop (off + m)).length = z.length := by simp; omega
          show (fillA (z.take off ++ v.cells ++ z.drop (off + m)) l vs).length = _
          rw [ih vs _ (by rw [hl]; exact q4), hl]
    rw [o2, this _ _ _ (by rw [hml, hzl]; exact hok), hml, hzl]
  refine ⟨.value (.slice (some ⟨w.heap.size, 0, none⟩) n n), _, _, σ', _, _, ?_, .inl rfl, g1, ?_, g2, hn⟩
  · have hn16 : ¬ (n * i.size > 2 ^ 24) := by omega
    by_cases h0 : n * i.size = 0
    · have hrow : ((Array.range (n * i.size)).map (fun k => (#[] : Array Value)[k % (#[] : Array Value).size]!)) = madeCells zv.cells (n * zv.cells.size) := by
        unfold madeCells; rw [hzs, h0]; simp
      simp only [execOp, ho, Instr.buildSlice, Sem.run_bind, run_und ht, run_siz hi, Result.andThen_ok, if_neg hn16, if_pos h0, Sem.run_pure, hrow, hzip, o1, newRow, newObj]
      rfl
    · have hrow : ((Array.range (n * i.size)).map (fun k => zv.cells[k % zv.cells.size]!)) = madeCells zv.cells (n * zv.cells.size) := by
        unfold madeCells; rw [← hzs]
      simp only [execOp, ho, Instr.buildSlice, Sem.run_bind, run_und ht, run_siz hi, Result.andThen_ok, if_neg hn16, if_neg h0, Sem.run_pure, run_zer hi hzv, hrow, hzip, o1, newRow, newObj]
      rfl
  · refine .osl _ g3 ⟨_, _, _, rfl⟩ (Nat.le_refl _) (fun _ => .inr ⟨_, n, rfl, rfl, Nat.le_refl _, by unfold maxLen; omega, ?_⟩)
    simp [hout]

theorem flat_get {f : Nat → List AV} {sz : Nat} : ∀ (n : Nat), (∀ i, i < n → (f i).length = sz) → ((List.range n).flatMap f).length = n * sz ∧ ∀ i, i < n * sz → ((List.range n).flatMap f)[i]? = (f (i / sz))[i % sz]? := by
  intro n
  induction n with
  | zero => intro _; exact ⟨by simp, fun i hi => by omega⟩
  | succ n ih =>
    intro h
    obtain ⟨h1, h2⟩ := ih (fun i hi => h i (by omega))
    rw [List.range_succ, List.flatMap_append]
    have hn := h n (by omega)
    refine ⟨by simp [h1, hn, Nat.add_mul], fun i hi => ?_⟩
    by_cases hlt : i < n * sz
    · rw [List.getElem?_append_left (by omega), h2 i hlt]
    · rw [List.getElem?_append_right (by omega), h1]
      have hsz : 0 < sz := by
        rcases Nat.eq_zero_or_pos sz with h0 | h0
        · rw [h0] at hi; omega
        · exact h0
      have e1 : i / sz = n := by
        apply Nat.div_eq_of_lt_le <;> rw [Nat.mul_comm] <;> (try rw [Nat.mul_comm]) <;> omega
      have e2 : i % sz = i - n * sz := by
        rw [← e1]
        have := Nat.div_add_mod i sz
        rw [Nat.mul_comm] at this
        omega
      simp [e1, e2]

/-- What an appended slice holds. -/
theorem src_spec {h : List AObj} (H : HR w σ h) {y : AV} {x : Value} (hy : VR w σ y x) {n sz : Nat} {cs : List AV} (hc : sliceCells h y = some (n, cs)) (hl : cs.length = n * sz) :
    (x = .slice none 0 0 ∧ n = 0) ∨ ∃ (a : Addr) (cap : Nat) (news : List Value), x = .slice (some a) n cap ∧ news.length = n * sz ∧ (∀ (j : Nat) u, news[j]? = some u → w.cell? (a.add j) = some u) ∧ (∀ u ∈ news, u.oneCell' = true) ∧
      ∀ (i : Nat) c u, cs[i]? = some c → news[i]? = some u → VR w σ c u := by
  unfold sliceCells at hc
  split at hc
  · cases hc
    exact .inl ⟨vr_nl hy, rfl⟩
  · rename_i m f
    cases hc
    rcases vr_sl hy with ⟨h0, hx⟩ | ⟨sz', b, off, cap, vals, hx, g1, g2, g3, g4, g5, g6, g8, g7⟩
    · subst h0; exact .inl ⟨hx, rfl⟩
    · obtain ⟨f1, f2⟩ := flat_get n g5
      have hss : n * sz' = n * sz := by rw [← f1, hl]
      refine .inr ⟨⟨b, off, none⟩, cap, (List.range (n * sz')).map fun i => vals (i / sz') (i % sz'), hx, by simp [hss], fun j u hj => ?_, fun u hu => ?_, fun i c u hi hu => ?_⟩
      all_goals
        have key : ∀ i, i < n * sz' → i / sz' < n ∧ i % sz' < sz' := by
          intro i hi
          have hpos : 0 < sz' := by
            rcases Nat.eq_zero_or_pos sz' with h0 | h0
            · rw [h0] at hi; omega
            · exact h0
          exact ⟨by rw [Nat.div_lt_iff_lt_mul hpos]; exact hi, Nat.mod_lt _ hpos⟩
      · have hj' : j < n * sz' := by have := (List.getElem?_eq_some_iff.1 hj).1; simpa using this
        simp [hj'] at hj
        subst hj
        obtain ⟨k1, k2⟩ := key j hj'
        rw [add_addr, ← g6 _ _ k1 k2]
        congr 2
        have := Nat.div_add_mod j sz'
        rw [Nat.mul_comm] at this
        omega
      · obtain ⟨i, hi, rfl⟩ := List.mem_map.1 hu
        obtain ⟨k1, k2⟩ := key i (by simpa using hi)
        exact g8 _ _ k1 k2
      · have hi' : i < n * sz' := by rw [← f1]; exact (List.getElem?_eq_some_iff.1 hi).1
        rw [f2 i hi'] at hi
        simp [hi'] at hu
        subst hu
        exact .imm (g7 _ _ c (key i hi').1 hi)
  · rename_i k ver sz' off m
    split at hc
    · rename_i v ty ds hk
      split at hc
      · rename_i hcond
        cases hc
        obtain ⟨rfl, hle⟩ := hcond
        have hlive : liveS h k v = true := by simp [liveS, hk]
        rcases osl_live H hy hlive with ⟨_, _, _, _, g1, _⟩ | ⟨cs', ob, b, cap, arr, g1, hx, g2, g3, g4, g5, g6, g7, g8, g9, g10, g12, g11⟩
        · simp [getO] at hk; rw [hk] at g1; cases g1
        · simp [getO] at hk
          rw [hk] at g1
          cases g1
          have hss : n * sz' = n * sz := by rw [← hl]; simp; omega
          refine .inr ⟨⟨b, off, none⟩, cap, (arr.toList.drop off).take (n * sz'), hx, by simp; omega, fun j u hj => ?_, fun u hu => ?_, fun i c u hi hu => ?_⟩
          · rw [List.getElem?_take] at hj
            split at hj
            · rw [List.getElem?_drop] at hj
              rw [add_addr, cell_of g8]
              simpa using hj
            · cases hj
          · obtain ⟨i, hi⟩ := List.getElem?_of_mem hu
            rw [List.getElem?_take] at hi
            split at hi
            · rw [List.getElem?_drop] at hi
              exact g12 (off + i) u (by omega) (by simpa using hi)
            · cases hi
          · rw [List.getElem?_take] at hi hu
            split at hi
            · rename_i hlt
              rw [if_pos hlt] at hu
              rw [List.getElem?_drop] at hi hu
              exact g11 _ c u hi (by simpa using hu)
            · cases hi
      · cases hc
    · rename_i v hk
      split at hc
      · rename_i hcond
        cases hc
        obtain ⟨rfl, rfl⟩ := hcond
        have hlive : liveS h k v = true := by simp [liveS, hk]
        rcases osl_live H hy hlive with ⟨_, _, _, _, g1, _, _, hx⟩ | ⟨cs', ob, b, cap, arr, g1, _⟩
        · exact .inl ⟨hx, rfl⟩
        · simp [getO] at hk; rw [hk] at g1; cases g1
      · cases hc
    · cases hc
  · cases hc

theorem okZ_spec {e : TypeId} {i : TypeInfo} (h : okZ P e = some i) : ∃ z, P.info? e = some i ∧ i.zero = some z ∧ z.cells.size = i.size ∧ 0 < i.size := by
  unfold okZ at h
  split at h
  · rename_i i' hi
    split at h
    · rename_i z hz
      split at h
      · rename_i hc
        cases h
        exact ⟨z, hi, hz, hc.1, hc.2⟩
      · cases h
    · cases h
  · cases h

/-- An object after an append: its block is the old one or a new one. -/
theorem HR.appended {w' : World} {h : List AObj} (H : HR w σ h) {k : Nat} {o : OB} (hk : σ[k]? = some o) (hlp : ∀ s ts L, h[k]? ≠ some (.lp s ts L)) {base sz n : Nat} {e : TypeId} {v' : Value} {xs : List Value} (hown : w'.ownsRow base e sz v' n xs) (hg : w.grownBy w' o.blk)
    (hat : v'.ownBlock = o.blk ∨ v'.ownBlock = none ∨ ∃ g, v'.ownBlock = some g ∧ w.heap.size ≤ g) {cs : List AV} (hl : cs.length = xs.length) (h1 : ∀ u ∈ xs, u.oneCell' = true) (hv : ∀ (i : Nat) c x, cs[i]? = some c → xs[i]? = some x → VR w σ c x) {a : AObj}
    (ha : (v' = .slice none 0 0 ∧ a = .emp (o.ver + 1)) ∨ (v' ≠ .slice none 0 0 ∧ a = .mem (o.ver + 1) e cs)) :
    ∃ σ', HR w' σ' (h.set k a) ∧ Ext w σ w' σ' ∧ VR w' σ' (.osl k (o.ver + 1) sz 0 n) v' := by
  have hkl : k < σ.length := (List.getElem?_eq_some_iff.1 hk).1
  rcases hown.2 with ⟨hv', hn⟩ | ⟨g, cap, cur, hv', _, hblk, hnc, hcm, hcs, htake⟩
  · rcases ha with ⟨_, rfl⟩ | ⟨h', _⟩
    · obtain ⟨u1, u2⟩ := H.update (w' := w') (o' := { o with blk := none, ver := o.ver + 1 }) (a' := .emp (o.ver + 1)) hk hg (by simp) (by simp) (by simp) (fun b r e hr => absurd hr (H.noloop hk hlp b r e)) (fun _ => ⟨rfl, rfl⟩)
      exact ⟨_, u1, u2, .osl { o with blk := none, ver := o.ver + 1 } (by simp [hkl]) ⟨_, _, _, hv'⟩ (Nat.le_refl _) (fun _ => .inl ⟨rfl, rfl, hn, hv'⟩)⟩
    · exact absurd hv' h'
  · rcases ha with ⟨h', _⟩ | ⟨_, rfl⟩
    · rw [hv'] at h'; cases h'
    have hlt : g < w'.heap.size := (Array.getElem?_eq_some_iff.1 hblk).1
    have hat' : o.blk = some g ∨ w.heap.size ≤ g := by
      rw [hv'] at hat
      rcases hat with h | h | h
      · exact .inl h.symm
      · simp [Value.ownBlock] at h
      · obtain ⟨g', h1, h2⟩ := h
        simp [Value.ownBlock] at h1
        exact .inr (by omega)
    have hxl : xs.length ≤ cur.size := by rw [← htake]; simp; omega
    have hget : ∀ (i : Nat) x, i < cs.length → cur[i]? = some x → xs[i]? = some x := by
      intro i x hi hx
      rw [← htake, List.getElem?_take, if_pos (by rw [← hown.1]; omega)]
      simpa using hx
    obtain ⟨u1, u2⟩ := H.update (w' := w') (o' := { blk := some g, ver := o.ver + 1, size := cur.size, ty := e }) (a' := .mem (o.ver + 1) e cs) hk hg (by simp) (by simp)
      (by rintro b' ⟨⟩; exact ⟨hat'.imp id (fun h => by omega), hlt⟩) (fun b r e hr => absurd hr (H.noloop hk hlp b r e))
      (fun ex => ⟨rfl, rfl, g, cur, rfl, hblk, rfl, by omega, fun i x hi hx => h1 x (List.mem_of_getElem? (hget i x hi hx)), fun i c x hc hx => (hv i c x hc (hget i x ((List.getElem?_eq_some_iff.1 hc).1) hx)).ext ex⟩)
    refine ⟨_, u1, u2, .osl { blk := some g, ver := o.ver + 1, size := cur.size, ty := e } (by simp [hkl]) ⟨_, _, _, hv'⟩ (Nat.le_refl _) (fun _ => .inr ⟨g, cap, rfl, hv', hnc, hcm, by simp [hcs]⟩)⟩

/-- The append of a slice: dest `v` owns its row. -/
theorem app_core {o : Oper} {c : Call} {x y : Operand} {ty e : TypeId} {i : TypeInfo} {z : Value} (ho : o.op = .call c) (hb : c.callee = .builtin .append) (ha : c.args.toList = [x, y]) (ht : c.argTypes.toList = [ty, ty])
    (hty : P.underlying ty = some (.slice e)) (hi : P.info? e = some i) (hz : i.zero = some z) (hzs : z.cells.size = i.size) (hpos : 0 < i.size) {h : List AObj} (H : HR w σ h) {k : Nat} {ob : OB} (hk : σ[k]? = some ob) (hlp : ∀ s ts L, h[k]? ≠ some (.lp s ts L))
    {v : Value} {m : Nat} {xs : List Value} (hx : ρ x = v) (hown : w.ownsRow 0 e i.size v m xs) (hvb : v.ownBlock = ob.blk ∨ v.ownBlock = none) {ds : List AV} (hdl : ds.length = xs.length) (hd1 : ∀ u ∈ xs, u.oneCell' = true) (hdv : ∀ (i : Nat) c u, ds[i]? = some c → xs[i]? = some u → VR w σ c u)
    {a : AV} (hy : VR w σ a (ρ y)) {n : Nat} {cs : List AV} (hc : sliceCells h a = some (n, cs)) (hcl : cs.length = n * i.size) (hb1 : ((m + n : Nat) : Int) * i.bytes ≤ 140737488355328) (hb2 : ((m + n : Nat) : Int) ≤ 140737488355328)
    {t : List AV} {d : Option Nat} {nx : Nx} {ao : AObj} (hao : (v = .slice none 0 0 ∧ n = 0 ∧ ao = .emp (ob.ver + 1)) ∨ (¬ (v = .slice none 0 0 ∧ n = 0) ∧ ao = .mem (ob.ver + 1) e (ds ++ cs)))
    (hn : nx (putA t d (.osl k (ob.ver + 1) i.size 0 (m + n))) (setO k h ao)) : EffOk P w σ ρ o t d nx := by
  have e1 : c.args = #[x, y] := by rw [← ha]
  have e2 : c.argTypes = #[ty, ty] := by rw [← ht]
  have hrun : ∀ r w', (Builtin.append_ #[ty, ty] o.type #[v, ρ y]).run P w = .ok r w' → (execOp ρ o).run P w = .ok (.value r) w' := by
    intro r w' hr
    simp only [execOp, ho, resolve, hb, invoke, Go.builtin, e1, e2, Sem.run_bind, Sem.run_pure, Result.andThen_ok, List.map_toArray, List.map_cons, List.map_nil, hx, hr]
  rcases src_spec H hy hc hcl with ⟨hyv, rfl⟩ | ⟨ad, cap, news, hyv, hnl, hnc, hn1, hnv⟩
  · have hcs : cs = [] := by
      apply List.eq_nil_of_length_eq_zero; rw [hcl]; exact Nat.zero_mul _
    subst hcs
    have hr := run_append_owned_none (P := P) w 0 ty o.type e i i.size hty hi v m xs hown
    obtain ⟨σ', u1, u2, u3⟩ := H.appended hk hlp (w' := w) (cs := ds) (a := ao) hown ⟨rfl, rfl, rfl, Nat.le_refl _, fun _ _ _ => rfl⟩ (hvb.imp id .inl) hdl hd1 hdv (by
      rcases hao with ⟨h1, _, h2⟩ | ⟨h1, h2⟩
      · exact .inl ⟨h1, h2⟩
      · exact .inr ⟨fun h => h1 ⟨h, rfl⟩, by simpa using h2⟩)
    exact ⟨.value v, v, w, σ', _, _, hrun _ _ (by rw [hyv]; exact hr), .inl rfl, u1, by simpa using u3, u2, hn⟩
  · have hnat1 : (m + n) * i.bytes ≤ 140737488355328 := by rw [← Int.natCast_mul] at hb1; omega
    obtain ⟨v', w', hr, ho', hg, hnil, hat⟩ := run_append_own_at (P := P) w 0 ty o.type e i z i.size i.bytes hty hi hz rfl rfl hzs hpos v m xs hown ad n cap news hnl hnc hn1 (by unfold maxLen; omega) hnat1 (Nat.zero_le _)
    have hg' : w.grownBy w' ob.blk := by
      rcases hvb with h | h
      · rw [h] at hg; exact hg
      · rw [h] at hg; exact grownBy_any hg _
    have hat' : v'.ownBlock = ob.blk ∨ v'.ownBlock = none ∨ ∃ g, v'.ownBlock = some g ∧ w.heap.size ≤ g := by
      rcases hat with h' | h'
      · rcases hvb with h | h
        · exact .inl (h'.trans h)
        · exact .inr (.inl (h'.trans h))
      · exact .inr (.inr ⟨_, h', Nat.le_refl _⟩)
    obtain ⟨σ', u1, u2, u3⟩ := H.appended hk hlp (cs := ds ++ cs) (a := ao) ho' hg' hat' (by simp [hdl, hcl, hnl]) (by
        intro u hu
        rcases List.mem_append.1 hu with h | h
        · exact hd1 u h
        · exact hn1 u h) (by
        intro j c' u hj hu
        rw [List.getElem?_append] at hj hu
        split at hj
        · rename_i hlt
          rw [if_pos (by omega)] at hu
          exact hdv j c' u hj hu
        · rename_i hlt
          rw [if_neg (by omega), ← hdl] at hu
          exact hnv _ c' u hj hu) (by
        rcases hao with ⟨h1, h2, h3⟩ | ⟨h1, h2⟩
        · exact .inl ⟨hnil.2 ⟨h1, h2⟩, h3⟩
        · exact .inr ⟨fun h => h1 (hnil.1 h), h2⟩)
    exact ⟨.value v', v', w', σ', _, _, hrun _ _ (by rw [hyv]; exact hr), .inl rfl, u1, u3, u2, hn⟩

theorem ef_app {o : Oper} {c : Call} {j : Nat} {x y : Operand} {ty e : TypeId} {i : TypeInfo} (ho : o.op = .call c) (hb : c.callee = .builtin .append) (ha : c.args.toList = [x, y]) (ht : c.argTypes.toList = [ty, ty])
    (hty : P.underlying ty = some (.slice e)) (hi : okZ P e = some i) (H : HR w σ h) {vs : List AV} (hv : VRs w σ vs [ρ x, ρ y]) (he : effE b h (.app j i.size e i.bytes) vs t d nx) : EffOk P w σ ρ o t d nx := by
  obtain ⟨z, hi, hz, hzs, hpos⟩ := okZ_spec hi
  match vs, hv, he with
  | [.nl, s], hv, ⟨⟨hs, hsite, hcl, hb1, hb2⟩, hn⟩ =>
    obtain ⟨p, q, hpq, hx, hy⟩ := hv.two
    cases hpq
    obtain ⟨ob, hk, hver⟩ := site_spec H hsite
    rw [hver] at hn
    obtain ⟨⟨n, cs⟩, hc⟩ := Option.isSome_iff_exists.1 hs
    rw [hc] at hn hcl hb1 hb2
    simp only [Option.getD_some] at hn hcl hb1 hb2
    refine app_core ho hb ha ht hty hi hz hzs hpos H hk (site_nolp hsite) (vr_nl hx) (World.ownsRow_nil w 0 e i.size) (.inr rfl) (ds := []) rfl (by simp) (by simp) hy hc hcl (by simpa using hb1) (by simpa using hb2)
      (ao := if n = 0 then .emp (ob.ver + 1) else .mem (ob.ver + 1) e cs) (by
        by_cases h0 : n = 0
        · exact .inl ⟨rfl, h0, by simp [h0]⟩
        · exact .inr ⟨by simp [h0], by simp [h0]⟩) ?_
    simpa using hn
  | [.osl k ver sz off m, s], hv, ⟨⟨hs, hlive, hty', hle, hap, hsz, hoff, hcl, hb1, hb2⟩, hn⟩ =>
    obtain ⟨p, q, hpq, hx, hy⟩ := hv.two
    cases hpq
    obtain ⟨⟨n, cs⟩, hc⟩ := Option.isSome_iff_exists.1 hs
    rw [hc] at hn hcl hb1 hb2
    simp only [Option.getD_some] at hn hcl hb1 hb2
    subst hsz
    subst hoff
    rcases osl_live H hx hlive with ⟨ob, g1, g2, g3, g4, _, rfl, hxv⟩ | ⟨ds, ob, bl, cap, arr, g1, hxv, g2, g3, g4, g5, g6, g7, g8, g9, g10, g12, g11⟩
    · subst g2
      refine app_core ho hb ha ht hty hi hz hzs hpos H g1 (by simp [g4]) hxv (World.ownsRow_nil w 0 e i.size) (.inr rfl) (ds := []) rfl (by simp) (by simp) hy hc hcl (by simpa using hb1) (by simpa using hb2)
        (ao := if n = 0 then .emp (ob.ver + 1) else .mem (ob.ver + 1) e cs) (by
          by_cases h0 : n = 0
          · exact .inl ⟨rfl, h0, by simp [h0]⟩
          · exact .inr ⟨by simp [h0], by simp [h0]⟩) ?_
      simpa [appO, getO, g4] using hn
    · subst g6
      have hcell : cellsOf h k ob.ver = some ds := by simp [cellsOf, getO, g1]
      have htye : ob.ty = e := by
        simp [tyOk, getO, g1] at hty'
        exact hty'
      rw [hcell, Option.getD_some] at hle
      refine app_core ho hb ha ht hty hi hz hzs hpos H g5 (by simp [g1]) hxv (xs := arr.toList.take (m * i.size)) ⟨by simp; omega, .inr ⟨bl, cap, arr, rfl, Nat.zero_le _, by rw [← htye]; exact g8, g2, g3, by omega, rfl⟩⟩ (.inl (by rw [g7]; rfl)) (ds := ds.take (m * i.size)) (by simp; omega)
        (by
          intro u hu
          obtain ⟨q, hq⟩ := List.getElem?_of_mem hu
          rw [List.getElem?_take] at hq
          split at hq
          · exact g12 q u (by omega) (by simpa using hq)
          · cases hq)
        (by
          intro q c' u hq hu
          rw [List.getElem?_take] at hq hu
          split at hq
          · rename_i hlt
            rw [if_pos hlt] at hu
            exact g11 q c' u hq (by simpa using hu)
          · cases hq) hy hc hcl hb1 hb2 (ao := .mem (ob.ver + 1) e (ds.take (m * i.size) ++ cs)) (.inr ⟨by simp, rfl⟩) ?_
      simpa [appO, getO, g1] using hn

theorem okB_spec {e : TypeId} (h : okB P e = true) : ∃ i, P.info? e = some i ∧ i.zero = some (.int .u8 0) ∧ i.size = 1 ∧ i.bytes = 1 := by
  unfold okB at h
  split at h
  · rename_i i hi
    split at h
    · rename_i hz
      have := of_decide_eq_true h
      exact ⟨i, hi, hz, this.1, this.2⟩
    · cases h
  · cases h

open Go.Lib in
theorem strCells_get (s : List UInt8) (i : Nat) : (strCells ⟨s.toArray⟩)[i]? = (s[i]?).map fun b => Value.int .u8 b.toNat := by
  simp [strCells]

open Go.Lib in
theorem bytes_rel {s : List UInt8} (i : Nat) (c : AV) (u : Value) (hc : (bytesA s)[i]? = some c) (hu : (strCells ⟨s.toArray⟩)[i]? = some u) : VR w σ c u := by
  rw [strCells_get] at hu
  simp only [bytesA, List.getElem?_map] at hc
  cases h : s[i]? with
  | none => simp [h] at hc
  | some b => simp [h] at hc hu; subst hc hu; exact vr_i

open Go.Lib in
/-- The append of a string's bytes: dest `v` owns its row. -/
theorem apps_core {o : Oper} {c : Call} {x y : Operand} {ty u e : TypeId} (ho : o.op = .call c) (hb : c.callee = .builtin .append) (ha : c.args.toList = [x, y]) (ht : c.argTypes.toList = [ty, u])
    (hty : P.underlying ty = some (.slice e)) (hu : P.underlying u = some .string) (hB : okB P e = true) {h : List AObj} (H : HR w σ h) {k : Nat} {ob : OB} (hk : σ[k]? = some ob) (hlp : ∀ s ts L, h[k]? ≠ some (.lp s ts L))
    {v : Value} {m : Nat} {xs : List Value} (hx : ρ x = v) (hown : w.ownsRow 0 e 1 v m xs) (hvb : v.ownBlock = ob.blk ∨ v.ownBlock = none) {ds : List AV} (hdl : ds.length = xs.length) (hd1 : ∀ u ∈ xs, u.oneCell' = true) (hdv : ∀ (i : Nat) c u, ds[i]? = some c → xs[i]? = some u → VR w σ c u)
    {s : List UInt8} (hy : ρ y = .string ⟨s.toArray⟩) (hb2 : ((m + s.length : Nat) : Int) ≤ 140737488355328)
    {t : List AV} {d : Option Nat} {nx : Nx} {ao : AObj} (hao : (v = .slice none 0 0 ∧ s.length = 0 ∧ ao = .emp (ob.ver + 1)) ∨ (¬ (v = .slice none 0 0 ∧ s.length = 0) ∧ ao = .mem (ob.ver + 1) e (ds ++ bytesA s)))
    (hn : nx (putA t d (.osl k (ob.ver + 1) 1 0 (m + s.length))) (setO k h ao)) : EffOk P w σ ρ o t d nx := by
  obtain ⟨i, hi, hz, hs1, hb1⟩ := okB_spec hB
  have e1 : c.args = #[x, y] := by rw [← ha]
  have e2 : c.argTypes = #[ty, u] := by rw [← ht]
  have hrun : ∀ r w', (Builtin.append_ #[ty, u] o.type #[v, .string ⟨s.toArray⟩]).run P w = .ok r w' → (execOp ρ o).run P w = .ok (.value r) w' := by
    intro r w' hr
    simp only [execOp, ho, resolve, hb, invoke, Go.builtin, e1, e2, Sem.run_bind, Sem.run_pure, Result.andThen_ok, List.map_toArray, List.map_cons, List.map_nil, hx, hy, hr]
  have hsz : (ByteArray.mk s.toArray).size = s.length := ba_size s
  have hmain : ∃ v' w', (Builtin.append_ #[ty, u] o.type #[v, .string ⟨s.toArray⟩]).run P w = .ok v' w' ∧ w'.ownsRow 0 e 1 v' (m + s.length) (xs ++ strCells ⟨s.toArray⟩) ∧ w.grownBy w' v.ownBlock ∧ (v' = .slice none 0 0 ↔ v = .slice none 0 0 ∧ s.length = 0) ∧
      (v'.ownBlock = v.ownBlock ∨ ∃ g, v'.ownBlock = some g ∧ w.heap.size ≤ g) := by
    rcases hown.2 with ⟨rfl, rfl⟩ | ⟨g, cap, cur, hv, _, hblk, hnc, hcm, hcs, htake⟩
    · have hxs : xs = [] := List.eq_nil_of_length_eq_zero (by have := hown.1; simpa using this)
      subst hxs
      obtain ⟨v', w', hr, h2, h3, h4⟩ := run_append_own_string (P := P) w w.heap.size ty u o.type e i hty hu hi hz hs1 hb1 (.slice none 0 0) 0 [] (World.ownsRow_nil w _ e 1) ⟨s.toArray⟩ (by rw [hsz]; unfold maxLen; omega) (by rw [hsz]; omega) (Nat.le_refl _)
      rw [hsz] at h2 h4
      refine ⟨v', w', hr, ⟨h2.1, h2.2.imp id (fun ⟨g, cap, cur, a, b, c⟩ => ⟨g, cap, cur, a, Nat.zero_le _, c⟩)⟩, h3, h4, ?_⟩
      rcases h2.2 with ⟨rfl, _⟩ | ⟨g, cap, cur, rfl, hbg, _⟩
      · exact .inl rfl
      · exact .inr ⟨g, rfl, hbg⟩
    · subst hv
      by_cases hroom : m + s.length ≤ cap
      · have hr := run_append_room_string (P := P) w ty u o.type e i hty hu hi hs1 g m cap cur hblk ⟨s.toArray⟩ (by rw [hsz]; omega) (by rw [hsz]; omega)
        rw [hsz] at hr
        have hnl : ((cur.toList.take m ++ strCells ⟨s.toArray⟩ ++ cur.toList.drop (m + s.length)).toArray).size = cap * 1 := by
          simp [strCells_length, hsz]; omega
        obtain ⟨r1, r2⟩ := setRow_block (new := (cur.toList.take m ++ strCells ⟨s.toArray⟩ ++ cur.toList.drop (m + s.length)).toArray) hblk
        refine ⟨_, _, hr, ⟨by rw [List.length_append, hown.1, strCells_length, hsz]; omega, .inr ⟨g, cap, _, rfl, Nat.zero_le _, r1, hroom, hcm, hnl, ?_⟩⟩, r2, by simp, .inl rfl⟩
        have hm1 : cur.toList.take m = xs := by rw [← htake]; simp
        rw [hm1]
        have : (m + s.length) * 1 = (xs ++ strCells ⟨s.toArray⟩).length := by rw [List.length_append, hown.1, strCells_length, hsz]; omega
        rw [this]
        exact List.take_left
      · have holds : ∀ j u, xs[j]? = some u → w.cell? ((⟨g, 0, none⟩ : Addr).add j) = some u := hown.cells (g := g) rfl
        have hcap : Builtin.nextslicecap (m + s.length) cap * i.bytes ≤ 281474976710656 := by
          rw [hb1]
          have := nextslicecap_le (need := m + s.length) (old := cap) (by omega)
          omega
        have hr := run_append_grow_string (P := P) w ty u o.type e i _ hty hu hi hz ⟨g, 0, none⟩ m cap xs (by rw [hown.1, hs1]) holds ⟨s.toArray⟩ (by rw [hsz]; omega) (by rw [hsz]; omega) (by rw [hsz]; exact hcap)
        rw [hsz] at hr
        have hge := grownCap_ge w (m + s.length) cap e
        have hcm' : grownCap w (m + s.length) cap e ≤ maxLen := grownCap_le_maxLen w (m + s.length) cap e (by unfold maxLen; omega)
        refine ⟨_, _, hr, ⟨by rw [List.length_append, hown.1, strCells_length, hsz]; omega, .inr ⟨w.heap.size, _, _, rfl, Nat.zero_le _, heap_alloc_new w.drew _, hge, hcm', ?_, ?_⟩⟩, ⟨rfl, rfl, rfl, by simp, fun k hk _ => (World.grownBy_alloc w.drew _ none).block k hk (by simp)⟩, by simp, .inr ⟨_, rfl, Nat.le_refl _⟩⟩
        · simp only [Array.size_append, List.size_toArray, size_zeroCells, strCells_length, hsz, hown.1]
          simp [Value.cells]
          omega
        · simp only [Array.toList_append, List.append_assoc]
          rw [← List.append_assoc]
          have : (m + s.length) * 1 = (xs ++ strCells ⟨s.toArray⟩).length := by rw [List.length_append, hown.1, strCells_length, hsz]; omega
          rw [this]
          exact List.take_left
  obtain ⟨v', w', hr, ho', hg, hnil, hat⟩ := hmain
  have hg' : w.grownBy w' ob.blk := by
    rcases hvb with h | h
    · rw [h] at hg; exact hg
    · rw [h] at hg; exact grownBy_any hg _
  have hat' : v'.ownBlock = ob.blk ∨ v'.ownBlock = none ∨ ∃ g, v'.ownBlock = some g ∧ w.heap.size ≤ g := by
    rcases hat with h' | h'
    · rcases hvb with h | h
      · exact .inl (h'.trans h)
      · exact .inr (.inl (h'.trans h))
    · exact .inr (.inr h')
  obtain ⟨σ', u1, u2, u3⟩ := H.appended hk hlp (cs := ds ++ bytesA s) (a := ao) ho' hg' hat' (by simp [hdl, bytesA, strCells_length, hsz]) (by
      intro u hu
      rcases List.mem_append.1 hu with h | h
      · exact hd1 u h
      · exact strCells_oneCell _ u h) (by
      intro j c' u hj hu
      rw [List.getElem?_append] at hj hu
      split at hj
      · rename_i hlt
        rw [if_pos (by omega)] at hu
        exact hdv j c' u hj hu
      · rename_i hlt
        rw [if_neg (by omega), ← hdl] at hu
        exact bytes_rel _ c' u hj hu) (by
      rcases hao with ⟨h1, h2, h3⟩ | ⟨h1, h2⟩
      · exact .inl ⟨hnil.2 ⟨h1, h2⟩, h3⟩
      · exact .inr ⟨fun h => h1 (hnil.1 h), h2⟩)
  exact ⟨.value v', v', w', σ', _, _, hrun _ _ hr, .inl rfl, u1, u3, u2, hn⟩

theorem ef_apps {o : Oper} {c : Call} {j : Nat} {x y : Operand} {ty u e : TypeId} (ho : o.op = .call c) (hb : c.callee = .builtin .append) (ha : c.args.toList = [x, y]) (ht : c.argTypes.toList = [ty, u])
    (hty : P.underlying ty = some (.slice e)) (hu : P.underlying u = some .string) (hB : okB P e = true) (H : HR w σ h) {vs : List AV} (hv : VRs w σ vs [ρ x, ρ y]) (he : effE b h (.apps j e) vs t d nx) : EffOk P w σ ρ o t d nx := by
  match vs, hv, he with
  | [.nl, .str s], hv, ⟨⟨hsite, hb2⟩, hn⟩ =>
    obtain ⟨p, q, hpq, hx, hy⟩ := hv.two
    cases hpq
    obtain ⟨ob, hk, hver⟩ := site_spec H hsite
    rw [hver] at hn
    refine apps_core ho hb ha ht hty hu hB H hk (site_nolp hsite) (vr_nl hx) (World.ownsRow_nil w 0 e 1) (.inr rfl) (ds := []) rfl (by simp) (by simp) (vr_str hy) (by simpa using hb2)
      (ao := if s.length = 0 then .emp (ob.ver + 1) else .mem (ob.ver + 1) e (bytesA s)) (by
        by_cases h0 : s.length = 0
        · exact .inl ⟨rfl, h0, by simp [h0]⟩
        · exact .inr ⟨by simp [h0], by simp [h0]⟩) ?_
    simpa using hn
  | [.osl k ver sz off m, .str s], hv, ⟨⟨hlive, hty', hle, hsz, hoff, hb2⟩, hn⟩ =>
    obtain ⟨p, q, hpq, hx, hy⟩ := hv.two
    cases hpq
    subst hsz
    subst hoff
    rcases osl_live H hx hlive with ⟨ob, g1, g2, g3, g4, _, rfl, hxv⟩ | ⟨ds, ob, bl, cap, arr, g1, hxv, g2, g3, g4, g5, g6, g7, g8, g9, g10, g12, g11⟩
    · subst g2
      refine apps_core ho hb ha ht hty hu hB H g1 (by simp [g4]) hxv (World.ownsRow_nil w 0 e 1) (.inr rfl) (ds := []) rfl (by simp) (by simp) (vr_str hy) (by simpa using hb2)
        (ao := if s.length = 0 then .emp (ob.ver + 1) else .mem (ob.ver + 1) e (bytesA s)) (by
          by_cases h0 : s.length = 0
          · exact .inl ⟨rfl, h0, by simp [h0]⟩
          · exact .inr ⟨by simp [h0], by simp [h0]⟩) ?_
      simpa [appO, getO, g4] using hn
    · subst g6
      have hcell : cellsOf h k ob.ver = some ds := by simp [cellsOf, getO, g1]
      have htye : ob.ty = e := by
        simp [tyOk, getO, g1] at hty'
        exact hty'
      rw [hcell, Option.getD_some] at hle
      refine apps_core ho hb ha ht hty hu hB H g5 (by simp [g1]) hxv (xs := arr.toList.take (m * 1)) ⟨by simp; omega, .inr ⟨bl, cap, arr, rfl, Nat.zero_le _, by rw [← htye]; exact g8, g2, g3, by omega, rfl⟩⟩ (.inl (by rw [g7]; rfl)) (ds := ds.take m) (by simp; omega)
        (by
          intro u hu
          obtain ⟨q, hq⟩ := List.getElem?_of_mem hu
          rw [List.getElem?_take] at hq
          split at hq
          · exact g12 q u (by omega) (by simpa using hq)
          · cases hq)
        (by
          intro q c' u hq hu
          rw [List.getElem?_take] at hq hu
          split at hq
          · rename_i hlt
            rw [if_pos (by omega)] at hu
            exact g11 q c' u hq (by simpa using hu)
          · cases hq) (vr_str hy) hb2 (ao := .mem (ob.ver + 1) e (ds.take m ++ bytesA s)) (.inr ⟨by simp, rfl⟩) ?_
      simpa [appO, getO, g1] using hn
end
end AF

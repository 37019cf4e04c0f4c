/-
  AF8: every resolved pure operation; the operations that read.
-/
import Derived.Test.YtpnjpjibccmkiaaAf7
set_option linter.all false
set_option linter.unusedSimpArgs false
set_option linter.unusedVariables false
set_option linter.unusedSectionVars false
namespace AF
open Go

section
variable {P : Program} {js : List Tmp} {imp : List FuncId} {w : World} {σ : List OB}

theorem isnilOp_spec {k : NK} {op : BinOp} {x y : Operand} {r : R} {os : List Operand} (h : isnilOp k op x y = some (r, os)) :
    ∃ n z v, r = .isnil k n ∧ os = [z] ∧ ((op = .eql ∧ n = false) ∨ (op = .neq ∧ n = true)) ∧ ((z = x ∧ v = y) ∨ (z = y ∧ v = x)) ∧ isNilC k v = true := by
  unfold isnilOp at h
  split at h
  · split at h
    · rename_i hv; cases h; exact ⟨false, x, y, rfl, rfl, .inl ⟨rfl, rfl⟩, .inl ⟨rfl, rfl⟩, hv⟩
    · split at h
      · rename_i hv; cases h; exact ⟨false, y, x, rfl, rfl, .inl ⟨rfl, rfl⟩, .inr ⟨rfl, rfl⟩, hv⟩
      · cases h
  · split at h
    · rename_i hv; cases h; exact ⟨true, x, y, rfl, rfl, .inr ⟨rfl, rfl⟩, .inl ⟨rfl, rfl⟩, hv⟩
    · split at h
      · rename_i hv; cases h; exact ⟨true, y, x, rfl, rfl, .inr ⟨rfl, rfl⟩, .inr ⟨rfl, rfl⟩, hv⟩
      · cases h
  · cases h

theorem exec_pure {o : Oper} {r : R} {os : List Operand} (hc : cvOp P js imp o = some (r, os)) (hk : r.kd = .pure) {vs : List AV} {ρ : Operand → Value} (hρ : ∀ c, ρ (.const c) = c) (hv : VRs w σ vs (os.map ρ)) (hok : okP r vs) :
    PureOk P w σ ρ o (valP r vs) := by
  unfold cvOp at hc
  split at hc
  · rename_i ho
    split at hc
    · rename_i j e _ _
      cases hs : sizeA P e with
      | none => simp [hs] at hc
      | some sz => simp [hs] at hc; obtain ⟨rfl, rfl⟩ := hc; simp [R.kd] at hk
    · cases hc; exact pu_mv (.inr ho) hv hok
  · rename_i ho
    split at hc
    · rename_i j e _ _
      cases hs : sizeA P e with
      | none => simp [hs] at hc
      | some sz => simp [hs] at hc; obtain ⟨rfl, rfl⟩ := hc; simp [R.kd] at hk
    · cases hc; exact pu_mv (.inl ho) hv hok
  · rename_i x _ ho; cases hc; exact pu_mv (.inl ho) hv hok
  · rename_i x _ ho; cases hc; exact pu_mv (.inr ho) hv hok
  · cases hc; simp [R.kd] at hk
  · rename_i op t x y u ho
    split at hc
    · cases hc; exact pu_bin ho hv hok
    · cases hc; exact pu_bin ho hv hok
    · rename_i ht
      split at hc
      · cases hc; exact pu_bool ho ht (.inl ⟨rfl, rfl⟩) hv hok
      · cases hc; exact pu_bool ho ht (.inr ⟨rfl, rfl⟩) hv hok
      · cases hc
    · rename_i fs ht
      split at hc
      · rename_i ks hks hb
        simp at hb
        split at hc
        · cases hc; exact pu_aeq ho ht hks hb.1 hb.2 (.inl ⟨rfl, rfl⟩) hv hok
        · cases hc; exact pu_aeq ho ht hks hb.1 hb.2 (.inr ⟨rfl, rfl⟩) hv hok
        · cases hc
      · cases hc
    · rename_i d _ _ _ _ ht
      split at hc
      · rename_i k hk'
        obtain ⟨n, z, v, rfl, rfl, h1, h2, h3⟩ := isnilOp_spec hc
        exact pu_isnil ho ht hk' h1 h2 h3 hρ hv hok
      · cases hc
    · cases hc
  · rename_i op t x ho; cases hc; exact pu_un ho hv hok
  · rename_i s d x ho
    split at hc
    · rename_i j k h1 h2; cases hc; exact pu_conv ho h1 h2 hv hok
    · cases hc
  · rename_i t x f ho
    cases hf : fieldOf P t f with
    | none => simp [hf] at hc
    | some p => simp [hf] at hc; obtain ⟨rfl, rfl⟩ := hc; exact pu_fld ho hf hv hok
  · rename_i x i ho; cases hc; exact pu_ext ho hv hok
  · rename_i t ps ho
    split at hc
    · rename_i z l hz hl hb; cases hc; exact pu_build ho hz hl hb hv hok
    · cases hc
  · rename_i f first cap ho; cases hc; exact pu_mkfn ho hv hok
  · rename_i t x i ho
    split at hc
    · rename_i ht; cases hc; exact pu_sidx ho ht hv hok
    · cases hc
  · rename_i t x lo hi ho
    split at hc
    · rename_i ht; cases hc; exact pu_sslc ho ht hv hok
    · rename_i e ht
      cases hs : sizeA P e with
      | none => simp [hs] at hc
      | some sz => simp [hs] at hc; obtain ⟨rfl, rfl⟩ := hc; simp [R.kd] at hk
    · cases hc
  · rename_i t x i ho
    split at hc
    · rename_i e ht
      cases hs : sizeA P e with
      | none => simp [hs] at hc
      | some sz => simp [hs] at hc; obtain ⟨rfl, rfl⟩ := hc; simp [R.kd] at hk
    · rename_i n e ht
      cases hs : sizeA P e with
      | none => simp [hs] at hc
      | some sz => simp [hs] at hc; obtain ⟨rfl, rfl⟩ := hc; simp [R.kd] at hk
    · cases hc
  · rename_i t x f ho
    cases hf : fieldOf P t f with
    | none => simp [hf] at hc
    | some p => simp [hf] at hc; obtain ⟨rfl, rfl⟩ := hc; simp [R.kd] at hk
  · rename_i t x ho
    cases hf : aggOf P t with
    | none => simp [hf] at hc
    | some p => simp [hf] at hc; obtain ⟨rfl, rfl⟩ := hc; simp [R.kd] at hk
  · cases hc; simp [R.kd] at hk
  · split at hc
    · cases hc; simp [R.kd] at hk
    · cases hc
  · rename_i t x ho
    cases hf : siteOf js o.dst with
    | none => simp [hf] at hc
    | some p => simp [hf] at hc; obtain ⟨rfl, rfl⟩ := hc; simp [R.kd] at hk
  · rename_i t a x ho
    cases hf : sizeA P t with
    | none => simp [hf] at hc
    | some p => simp [hf] at hc; obtain ⟨rfl, rfl⟩ := hc; simp [R.kd] at hk
  · split at hc
    · split at hc
      · cases hc; simp [R.kd] at hk
      · cases hc
    · cases hc
  · split at hc
    · split at hc
      · simp at hc; obtain ⟨_, rfl, rfl⟩ := hc; simp [R.kd] at hk
      · cases hc
    · cases hc
  · rename_i c ho
    split at hc
    · split at hc
      · split at hc
        · cases hc; simp [R.kd] at hk
        · rename_i hb _ _ _ _ e1 e2 _ ht
          cases hc
          exact pu_slen ho hb e1 e2 ht hv hok
        · cases hc
      · cases hc
    · rename_i hcal
      split at hc
      · split at hc
        · cases hc; exact pu_mm (b := true) ho hcal hv hok
        · cases hc
      · cases hc
    · rename_i hcal
      split at hc
      · split at hc
        · cases hc; exact pu_mm (b := false) ho hcal hv hok
        · cases hc
      · cases hc
    · split at hc
      · split at hc
        · simp at hc; obtain ⟨_, i, hi, rfl, rfl⟩ := hc; simp [R.kd] at hk
        · simp at hc; obtain ⟨_, rfl, rfl⟩ := hc; simp [R.kd] at hk
        · cases hc
      · cases hc
    · split at hc
      · cases hc; simp [R.kd] at hk
      · cases hc
    · cases hc; simp [R.kd] at hk
    · cases hc
  · cases hc

/-! ### Operations that read -/

theorem cellsOf_spec {h : List AObj} {k ver : Nat} {cs : List AV} (H : HR w σ h) (hc : cellsOf h k ver = some cs) :
    ∃ (o : OB) (b : Nat) (arr : Array Value), σ[k]? = some o ∧ o.ver = ver ∧ h[k]? = some (.mem ver o.ty cs) ∧ o.blk = some b ∧ w.heap[b]? = some (.cells arr o.ty (0, 0)) ∧ arr.size = o.size ∧ cs.length ≤ arr.size ∧ (∀ (i : Nat) x, i < cs.length → arr[i]? = some x → x.oneCell' = true) ∧
      ∀ (i : Nat) c x, cs[i]? = some c → arr[i]? = some x → VR w σ c x := by
  unfold cellsOf getO at hc
  split at hc
  · rename_i v ty ds hk
    split at hc
    · rename_i hv
      cases hc
      subst hv
      have hlt : k < σ.length := by rw [H.len]; exact (List.getElem?_eq_some_iff.1 hk).1
      have ho : σ[k]? = some σ[k] := List.getElem?_eq_getElem hlt
      obtain ⟨h1, ht, b, arr, h2, h3, h4, h5, h7, h6⟩ := H.obj k _ _ hk ho
      subst ht
      exact ⟨σ[k], b, arr, ho, h1, hk, h2, h3, h4, h5, h7, h6⟩
    · cases hc
  · cases hc

theorem cell_of {b off : Nat} {arr : Array Value} {ty : TypeId} (h : w.heap[b]? = some (.cells arr ty (0, 0))) : w.cell? ⟨b, off, none⟩ = arr[off]? := by
  simp [World.cell?, h]

/-- A live handle to cells: its value. -/
theorem op_live {h : List AObj} {k ver off : Nat} {x : Value} (H : HR w σ h) (hx : VR w σ (.op k ver off) x) (hc : (cellsOf h k ver).isSome = true) : ∃ (cs : List AV) (o : OB) (b : Nat) (arr : Array Value), cellsOf h k ver = some cs ∧ x = .pointer (some ⟨b, off, none⟩) ∧
    σ[k]? = some o ∧ o.ver = ver ∧ o.blk = some b ∧ w.heap[b]? = some (.cells arr o.ty (0, 0)) ∧ arr.size = o.size ∧ cs.length ≤ arr.size ∧ (∀ (i : Nat) x, i < cs.length → arr[i]? = some x → x.oneCell' = true) ∧ ∀ (i : Nat) c x, cs[i]? = some c → arr[i]? = some x → VR w σ c x := by
  obtain ⟨cs, hcs⟩ := Option.isSome_iff_exists.1 hc
  obtain ⟨o, b, arr, h1, h2, h3, h4, h5, h6, h7, h9, h8⟩ := cellsOf_spec H hcs
  obtain ⟨o', g1, g2, g3⟩ := vr_op hx
  rw [h1] at g1
  cases g1
  obtain ⟨b', e1, e2⟩ := g3 h2
  rw [h4] at e1
  cases e1
  exact ⟨cs, o, b, arr, hcs, e2, h1, h2, h4, h5, h6, h7, h9, h8⟩

/-- A live handle to a slice of cells. -/
theorem osl_live {h : List AObj} {k ver sz off len : Nat} {x : Value} (H : HR w σ h) (hx : VR w σ (.osl k ver sz off len) x) (hl : liveS h k ver = true) :
    (∃ o : OB, σ[k]? = some o ∧ o.ver = ver ∧ o.blk = none ∧ h[k]? = some (.emp ver) ∧ off = 0 ∧ len = 0 ∧ x = .slice none 0 0) ∨
    ∃ (cs : List AV) (o : OB) (b cap : Nat) (arr : Array Value), h[k]? = some (.mem ver o.ty cs) ∧ x = .slice (some ⟨b, off, none⟩) len cap ∧ len ≤ cap ∧ cap ≤ maxLen ∧ off + cap * sz = o.size ∧
      σ[k]? = some o ∧ o.ver = ver ∧ o.blk = some b ∧ w.heap[b]? = some (.cells arr o.ty (0, 0)) ∧ arr.size = o.size ∧ cs.length ≤ arr.size ∧ (∀ (i : Nat) x, i < cs.length → arr[i]? = some x → x.oneCell' = true) ∧ ∀ (i : Nat) c x, cs[i]? = some c → arr[i]? = some x → VR w σ c x := by
  obtain ⟨o, g1, g2, g3⟩ := vr_osl hx
  unfold liveS getO at hl
  split at hl
  · rename_i v ty cs hk
    have hv : v = ver := by simpa using hl
    subst hv
    obtain ⟨h1, ht, b, arr, h2, h3, h4, h5, h7, h6⟩ := H.obj k _ _ hk g1
    subst ht
    rcases g3 h1 with ⟨e1, _⟩ | ⟨b', cap, e1, e2, e3, e4, e5⟩
    · rw [h2] at e1; cases e1
    · rw [h2] at e1
      cases e1
      exact .inr ⟨cs, o, b, cap, arr, hk, e2, e3, e4, e5, g1, h1, h2, h3, h4, h5, h7, h6⟩
  · rename_i v hk
    have hv : v = ver := by simpa using hl
    subst hv
    obtain ⟨h1, h2⟩ := H.obj k _ _ hk g1
    rcases g3 h1 with ⟨e1, e2, e3, e4⟩ | ⟨b', cap, e1, _⟩
    · exact .inl ⟨o, g1, h1, h2, hk, e2, e3, e4⟩
    · rw [h2] at e1; cases e1
  · cases hl

theorem re_len {o : Oper} {c : Call} {x : Operand} {t e : TypeId} {h : List AObj} (ho : o.op = .call c) (hb : c.callee = .builtin .len) (ha : c.args.toList = [x]) (ht : c.argTypes.toList = [t])
    (hty : P.underlying t = some (.slice e)) (H : HR w σ h) {vs : List AV} {ρ : Operand → Value} (hv : VRs w σ vs [ρ x]) (hok : okL h .len vs) : PureOk P w σ ρ o (valL h .len vs) := by
  have e1 : c.args = #[x] := by rw [← ha]
  have e2 : c.argTypes = #[t] := by rw [← ht]
  have go : ∀ (a : Option Addr) (n cap : Nat), ρ x = .slice a n cap → PureOk P w σ ρ o (.int .i64 n) := fun a n cap hx =>
    ⟨.int .i64 n, by simp [execOp, ho, resolve, hb, invoke, Go.builtin, Builtin.len_, e1, e2, run_und hty, hx, goInt], vr_i⟩
  match vs, hv, hok with
  | [.sl n f], hv, hok =>
    obtain ⟨p, hp, ha⟩ := hv.one
    cases hp
    rcases vr_sl ha with ⟨hn, hx⟩ | ⟨_, _, _, _, _, hx, _⟩
    · subst hn; exact go _ _ _ hx
    · exact go _ _ _ hx
  | [.nl], hv, hok =>
    obtain ⟨p, hp, ha⟩ := hv.one
    cases hp
    exact go _ _ _ (vr_nl ha)
  | [.osl k ver sz off n], hv, hok =>
    obtain ⟨p, hp, ha⟩ := hv.one
    cases hp
    rcases osl_live H ha hok with ⟨_, _, _, _, _, _, hn, hx⟩ | ⟨_, _, _, _, _, _, hx, _⟩
    · subst hn; exact go _ _ _ hx
    · exact go _ _ _ hx

/-- The address of an element. -/
theorem run_index {t e : TypeId} {i : TypeInfo} (ht : P.underlying t = some (.slice e)) (hi : P.info? e = some i) {b off n cap : Nat} {k : IntKind} {m : Int} (h0 : 0 ≤ m) (h1 : m < n) :
    (Instr.indexAt t (.slice (some ⟨b, off, none⟩) n cap) (.int k m)).run P w = .ok (.pointer (some ⟨b, off + m.toNat * i.size, none⟩)) w := by
  have hadd : (⟨b, off, none⟩ : Addr).add (m.toNat * i.size) = ⟨b, off + m.toNat * i.size, none⟩ := by
    unfold Addr.add; split <;> simp_all
  simp [Instr.indexAt, asIntOf, run_und ht, run_siz hi, h0, h1, hadd]

theorem re_idxA {o : Oper} {x y : Operand} {t e : TypeId} {i : TypeInfo} {h : List AObj} (ho : o.op = .indexAddr t x y) (ht : P.underlying t = some (.slice e)) (hi : P.info? e = some i) (H : HR w σ h) {vs : List AV} {ρ : Operand → Value} (hv : VRs w σ vs [ρ x, ρ y])
    (hok : okL h (.idxA i.size) vs) : PureOk P w σ ρ o (valL h (.idxA i.size) vs) := by
  match vs, hv, hok with
  | [.sl n f, .int k m], hv, hok =>
    obtain ⟨p, q, hp, ha, hb⟩ := hv.two
    cases hp
    have eb := vr_int hb
    obtain ⟨⟨h0, h1⟩, h2⟩ := hok
    have hm : m.toNat < n := by omega
    rcases vr_sl ha with ⟨hn, _⟩ | ⟨sz, b, off, cap, vals, hx, g1, g2, g3, g4, g5, g6, g8, g7⟩
    · omega
    · have hsz : sz = i.size := by rw [← g5 _ hm]; exact h2
      subst hsz
      refine ⟨.pointer (some ⟨b, off + m.toNat * i.size, none⟩), by simp [execOp, ho, hx, eb, run_index ht hi h0 h1], ?_⟩
      refine .imm (.ip b _ (fun j => vals m.toNat j) (g3 (by omega)) g4 (fun j hj => ?_) (fun j hj => g8 _ j hm (by rw [h2] at hj; exact hj)) (fun j c hj => g7 _ j c hm hj))
      exact g6 m.toNat j hm (by rw [h2] at hj; exact hj)
  | [.osl k ver sz off n, .int k' m], hv, hok =>
    obtain ⟨p, q, hp, ha, hb⟩ := hv.two
    cases hp
    have eb := vr_int hb
    obtain ⟨⟨h0, h1⟩, rfl, h3⟩ := hok
    have hl : liveS h k ver = true := by
      obtain ⟨cs, hcs⟩ := Option.isSome_iff_exists.1 h3
      obtain ⟨_, _, _, _, _, hk, _⟩ := cellsOf_spec H hcs
      simp [liveS, getO, hk]
    rcases osl_live H ha hl with ⟨_, _, _, _, _, _, hn, hx⟩ | ⟨cs, ob, b, cap, arr, g1, hx, g2, g3, g4, g5, g6, g7, g8⟩
    · omega
    · refine ⟨.pointer (some ⟨b, off + m.toNat * i.size, none⟩), by simp [execOp, ho, hx, eb, run_index ht hi h0 h1], ?_⟩
      exact .op ob g5 ⟨_, rfl⟩ (by omega) (fun _ => ⟨b, g7, rfl⟩)

theorem add_addr (b off n : Nat) : (⟨b, off, none⟩ : Addr).add n = ⟨b, off + n, none⟩ := by
  unfold Addr.add; split <;> simp_all

theorem re_idxArr {o : Oper} {x y : Operand} {t e : TypeId} {n : Nat} {i : TypeInfo} {h : List AObj} (ho : o.op = .indexAddr t x y) (ht : P.underlying t = some (.array n e)) (hi : P.info? e = some i) (H : HR w σ h) {vs : List AV} {ρ : Operand → Value} (hv : VRs w σ vs [ρ x, ρ y])
    (hok : okL h (.idxArr n i.size) vs) : PureOk P w σ ρ o (valL h (.idxArr n i.size) vs) := by
  match vs, hv, hok with
  | [.ip cs, .int k m], hv, hok =>
    obtain ⟨p, q, hp, ha, hb⟩ := hv.two
    cases hp
    have eb := vr_int hb
    obtain ⟨⟨h0, h1⟩, h2⟩ := hok
    have hm : m.toNat < n := by omega
    have hle : m.toNat * i.size + i.size ≤ cs.length := by
      rw [h2, ← Nat.succ_mul]; exact Nat.mul_le_mul_right _ hm
    obtain ⟨b, off, vals, hx, g1, g2, g3, g5, g4⟩ := vr_ip ha
    refine ⟨.pointer (some ⟨b, off + m.toNat * i.size, none⟩), by simp [execOp, ho, hx, eb, Instr.indexAt, asIntOf, run_und ht, run_siz hi, h0, h1, Instr.sureAddr, add_addr], ?_⟩
    refine .imm (.ip b _ (fun j => vals (m.toNat * i.size + j)) g1 g2 (fun j hj => ?_) (fun j hj => g5 _ (by simp at hj; omega)) (fun j c hj => ?_))
    · rw [← g3 (m.toNat * i.size + j) (by simp at hj; omega), Nat.add_assoc]
    · rw [List.getElem?_take] at hj
      split at hj
      · rw [List.getElem?_drop] at hj; exact g4 _ c hj
      · cases hj
  | [.op k ver off, .int k' m], hv, hok =>
    obtain ⟨p, q, hp, ha, hb⟩ := hv.two
    cases hp
    have eb := vr_int hb
    obtain ⟨⟨h0, h1⟩, h3⟩ := hok
    obtain ⟨cs, ob, b, arr, g1, hx, g2, g3, g4, g5, g6, g7, g8⟩ := op_live H ha h3
    refine ⟨.pointer (some ⟨b, off + m.toNat * i.size, none⟩), by simp [execOp, ho, hx, eb, Instr.indexAt, asIntOf, run_und ht, run_siz hi, h0, h1, Instr.sureAddr, add_addr], ?_⟩
    exact .op ob g2 ⟨_, rfl⟩ (by omega) (fun _ => ⟨b, g4, rfl⟩)

theorem re_fldA {o : Oper} {t : TypeId} {x : Operand} {f off : Nat} {n : Option Nat} {h : List AObj} (ho : o.op = .fieldAddr t x f) (hf : fieldOf P t f = some (off, n)) (H : HR w σ h) {vs : List AV} {ρ : Operand → Value} (hv : VRs w σ vs [ρ x])
    (hok : okL h (.fldA off) vs) : PureOk P w σ ρ o (valL h (.fldA off) vs) := by
  obtain ⟨fs, fx, i, hu, hx, hag, hi, hz, rfl⟩ := fieldOf_spec hf
  have hrun : ∀ b p, ρ x = .pointer (some ⟨b, p, none⟩) → (execOp ρ o).run P w = .ok (.value (.pointer (some ⟨b, p + fx.offset, none⟩))) w := by
    intro b p e
    simp [execOp, ho, e, Instr.fieldAt, run_und hu, hx, Instr.sureAddr, fieldPlace, run_siz hi, hz, add_addr]
  match vs, hv, hok with
  | [.ip cs], hv, hok =>
    obtain ⟨p, hp, ha⟩ := hv.one
    cases hp
    obtain ⟨b, p, vals, ex, g1, g2, g3, g5, g4⟩ := vr_ip ha
    refine ⟨_, hrun _ _ ex, ?_⟩
    refine .imm (.ip b _ (fun j => vals (fx.offset + j)) g1 g2 (fun j hj => ?_) (fun j hj => g5 _ (by simp at hj; omega)) (fun j c hj => ?_))
    · rw [← g3 (fx.offset + j) (by simp at hj; omega), Nat.add_assoc]
    · rw [List.getElem?_drop] at hj; exact g4 _ c hj
  | [.op k ver p], hv, hok =>
    obtain ⟨q, hq, ha⟩ := hv.one
    cases hq
    obtain ⟨cs, ob, b, arr, g1, ex, g2, g3, g4, g5, g6, g7, g9, g8⟩ := op_live H ha hok
    exact ⟨_, hrun _ _ ex, .op ob g2 ⟨_, rfl⟩ (by omega) (fun _ => ⟨b, g4, rfl⟩)⟩

theorem run_cells {b : Nat} (f : Nat → Value) : ∀ (n i off : Nat) (acc : Array Value), (∀ j, j < n → w.cell? ⟨b, off + i + j, none⟩ = some (f (i + j))) →
    (loadCellsFrom ⟨b, off, none⟩ i n acc).run P w = .ok (acc ++ (Array.range n).map fun j => f (i + j)) w := by
  intro n
  induction n with
  | zero => intro i off acc _; simp [loadCellsFrom]
  | succ n ih =>
    intro i off acc h
    have h0 := h 0 (by omega)
    simp only [Nat.add_zero] at h0
    simp only [loadCellsFrom, add_addr, Sem.run_bind, run_load, h0, Result.andThen_ok]
    rw [ih (i + 1) off _ (fun j hj => by have := h (j + 1) (by omega); rw [show off + (i + 1) + j = off + i + (j + 1) from by omega, this, show i + 1 + j = i + (j + 1) from by omega])]
    congr 1
    apply Array.ext'
    simp [Array.toList_map, List.range_succ_eq_map, Function.comp_def]
    intro a _
    congr 1
    omega

/-- A variable read: one cell, or an aggregate. -/
theorem run_var {t : TypeId} {n : Option Nat} (h : aggOf P t = some n) {cs : List AV} {b off p : Nat} {f : Nat → Value} (hc : ∀ j, j < cs.length → p ≤ j → w.cell? ⟨b, off + j, none⟩ = some (f j)) (h1 : ∀ j, j < cs.length → (f j).oneCell' = true) (hv : ∀ (j : Nat) c, cs[j]? = some c → VR w σ c (f j))
    (hok : cutOk cs p n) : ∃ x, (loadVar t ⟨b, off + p, none⟩).run P w = .ok x w ∧ VR w σ (cut cs p n) x := by
  obtain ⟨i, d, hi, hd, hn⟩ := aggOf_spec h
  rcases hn with ⟨rfl, hd'⟩ | ⟨rfl, hd'⟩
  · have h2 : p < cs.length := hok
    refine ⟨f p, by simp [loadVar, run_agg hd, hd', hc p h2 (Nat.le_refl _)], ?_⟩
    have := hv p cs[p] (by simp [h2])
    simpa [cut, h2] using this
  · have h2 : p + i.size ≤ cs.length := hok
    refine ⟨.agg ((Array.range i.size).map fun j => f (p + j)), ?_, ?_⟩
    · have := run_cells (P := P) (w := w) (b := b) (fun j => f (p + j)) i.size 0 (off + p) #[] (fun j hj => by rw [Nat.add_zero, Nat.add_assoc, hc (p + j) (by omega) (by omega), Nat.zero_add])
      simp only [Nat.zero_add, Array.empty_append] at this
      simp [loadVar, run_agg hd, hd', run_siz hi, loadCells, this]
    · simp only [cut]
      refine .agg (by simp; omega) (fun j y hy => ?_) fun j c y hc hy => ?_
      · rw [Array.getElem?_map] at hy
        by_cases hj : j < i.size
        · simp [hj] at hy; subst hy; exact h1 _ (by omega)
        · simp [hj] at hy
      rw [List.getElem?_take] at hc
      split at hc
      · rename_i hj
        rw [List.getElem?_drop] at hc
        have : y = f (p + j) := by
          rw [Array.getElem?_map] at hy
          simp [hj] at hy
          exact hy.symm
        subst this
        exact hv _ c hc
      · cases hc

theorem re_load {o : Oper} {t : TypeId} {x : Operand} {n : Option Nat} {h : List AObj} (ho : o.op = .load t x) (hf : aggOf P t = some n) (H : HR w σ h) {vs : List AV} {ρ : Operand → Value} (hv : VRs w σ vs [ρ x])
    (hok : okL h (.load n) vs) : PureOk P w σ ρ o (valL h (.load n) vs) := by
  match vs, hv, hok with
  | [.ip cs], hv, hok =>
    obtain ⟨p, hp, ha⟩ := hv.one
    cases hp
    obtain ⟨b, p, vals, ex, g1, g2, g3, g5, g4⟩ := vr_ip ha
    obtain ⟨y, hy1, hy2⟩ := run_var (P := P) (w := w) (σ := σ) hf (cs := cs) (b := b) (off := p) (p := 0) (f := vals) (fun j hj _ => g3 j hj) g5 (fun j c hj => .imm (g4 j c hj)) hok
    rw [Nat.add_zero] at hy1
    exact ⟨y, by simp [execOp, ho, ex, Instr.loadAt, Instr.sureAddr, hy1], hy2⟩
  | [.op k ver p], hv, hok =>
    obtain ⟨q, hq, ha⟩ := hv.one
    cases hq
    obtain ⟨hs, hok⟩ := hok
    obtain ⟨cs, ob, b, arr, g1, ex, g2, g3, g4, g5, g6, g7, g9, g8⟩ := op_live H ha hs
    rw [g1, Option.getD_some] at hok
    have hval : valL h (.load n) [.op k ver p] = cut cs p n := by simp [valL, g1]
    rw [hval]
    obtain ⟨y, hy1, hy2⟩ := run_var (P := P) (w := w) (σ := σ) hf (cs := cs) (b := b) (off := 0) (p := p) (f := fun j => arr.getD j Go.undef) (fun j hj _ => by
        have hj' : j < arr.size := by omega
        rw [Nat.zero_add, cell_of g5]
        simp [hj']) (fun j hj => by
        have hj' : j < arr.size := by omega
        exact g9 j _ hj (by simp [hj'])) (fun j c hj => by
        have hj' : j < arr.size := by have := (List.getElem?_eq_some_iff.1 hj).1; omega
        exact g8 j c _ hj (by simp [hj'])) hok
    rw [Nat.zero_add] at hy1
    exact ⟨y, by simp [execOp, ho, ex, Instr.loadAt, Instr.sureAddr, hy1], hy2⟩

theorem re_nil {o : Oper} {x : Operand} {h : List AObj} (ho : o.op = .nilCheck x) (H : HR w σ h) {vs : List AV} {ρ : Operand → Value} (hv : VRs w σ vs [ρ x]) (hok : okL h .nilchk vs) : PureOk P w σ ρ o (valL h .nilchk vs) := by
  match vs, hv, hok with
  | [.ip cs], hv, hok =>
    obtain ⟨p, hp, ha⟩ := hv.one
    cases hp
    obtain ⟨b, p, vals, ex, _⟩ := vr_ip ha
    exact ⟨ρ x, by simp [execOp, ho, ex], ha⟩
  | [.op k ver p], hv, hok =>
    obtain ⟨q, hq, ha⟩ := hv.one
    cases hq
    obtain ⟨cs, ob, b, arr, g1, ex, _⟩ := op_live H ha hok
    exact ⟨ρ x, by simp [execOp, ho, ex], ha⟩
  | [.fn (.func f) a c], hv, hok =>
    obtain ⟨q, hq, ha⟩ := hv.one
    cases hq
    obtain ⟨us, zs, ex, _⟩ := vr_fn ha
    exact ⟨ρ x, by simp [execOp, ho, ex], ha⟩

theorem re_slc {o : Oper} {t e : TypeId} {x : Operand} {lo hi : Option Operand} {i : TypeInfo} {h : List AObj} (ho : o.op = .slice t x lo hi none) (ht : P.underlying t = some (.slice e)) (hi' : P.info? e = some i) (H : HR w σ h) {vs : List AV} {ρ : Operand → Value}
    (hv : VRs w σ vs ((x :: (optX lo ++ optX hi)).map ρ)) (hok : okL h (.slc i.size lo.isSome hi.isSome) vs) : PureOk P w σ ρ o (valL h (.slc i.size lo.isSome hi.isSome) vs) := by
  have hrun : ∀ (a : Option Addr) (n cap : Nat) (bs : List AV), ρ x = .slice a n cap → n ≤ cap → VRs w σ bs ((optX lo ++ optX hi).map ρ) → intC bs → 0 ≤ loB lo.isSome bs → loB lo.isSome bs ≤ hiB lo.isSome hi.isSome n bs → hiB lo.isSome hi.isSome n bs ≤ n →
      (execOp ρ o).run P w = .ok (.value (.slice (if cap = (loB lo.isSome bs).toNat then a else a.map (·.add ((loB lo.isSome bs).toNat * i.size))) ((hiB lo.isSome hi.isSome n bs).toNat - (loB lo.isSome bs).toNat) (cap - (loB lo.isSome bs).toNat))) w := by
    intro a n cap bs e hc hr h1 h2 h3 h4
    have hb := run_bounds (P := P) (s := true) (len := n) (cap := cap) (lo := lo) (hi := hi) (ρ := ρ) hr h1 h2 h3 (by omega)
    simp [execOp, ho, e, Instr.sliceAt, Instr.slice, run_und ht, hb, run_siz hi']
  match vs, hv, hok with
  | .sl n f :: bs, hv, hok =>
    obtain ⟨p, r, hp, ha, hr⟩ := hv.cons
    simp only [List.map_cons, List.cons.injEq] at hp
    obtain ⟨rfl, rfl⟩ := hp
    obtain ⟨h1, _, h3, h4, h5, h6⟩ := hok
    rcases vr_sl ha with ⟨hn, hx⟩ | ⟨sz, b, off, cap, vals, hx, g1, g2, g3, g4, g5, g6, g8, g7⟩
    · subst hn
      refine ⟨_, hrun none 0 0 bs hx (Nat.le_refl _) hr h1 h3 h4 h5, ?_⟩
      have e1 : (hiB lo.isSome hi.isSome ((0 : Nat) : Int) bs).toNat - (loB lo.isSome bs).toNat = 0 := by omega
      have e2 : valL h (.slc i.size lo.isSome hi.isSome) (.sl 0 f :: bs) = .sl 0 (fun i => f ((loB lo.isSome bs).toNat + i)) := by
        show AV.sl _ _ = _
        rw [e1]
      rw [e2, e1]
      simp
      exact .imm .nilsl
    · refine ⟨_, hrun _ n cap bs hx g1 hr h1 h3 h4 h5, ?_⟩
      generalize hl : (loB lo.isSome bs).toNat = l
      generalize hh : (hiB lo.isSome hi.isSome (n : Int) bs).toNat = u
      have hlu : l ≤ u := by omega
      have hun : u ≤ n := by omega
      have e2 : valL h (.slc i.size lo.isSome hi.isSome) (.sl n f :: bs) = .sl (u - l) (fun i => f (l + i)) := by
        show AV.sl _ _ = _
        rw [hl, hh]
      rw [e2]
      by_cases hlast : cap = l
      · rw [if_pos hlast]
        have : u - l = 0 := by omega
        rw [this]
        exact .imm (.sl 0 b off (cap - l) vals (by omega) (by omega) (by omega) g4 (by omega) (by omega) (by omega) (by omega))
      · rw [if_neg hlast]
        simp only [Option.map_some, add_addr]
        by_cases hz : u - l = 0
        · rw [hz]
          exact .imm (.sl 0 b _ (cap - l) vals (by omega) (by omega) (by omega) g4 (by omega) (by omega) (by omega) (by omega))
        have hsz : sz = i.size := by rw [← g5 0 (by omega)]; exact h6 (by omega)
        subst hsz
        refine .imm (.sl i.size b _ (cap - l) (fun k j => vals (l + k) j) (by omega) (by omega) (fun _ => g3 (by omega)) g4 (fun k hk => g5 _ (by omega)) (fun k j hk hj => ?_) (fun k j hk hj => g8 _ j (by omega) hj) (fun k j c hk hj => g7 _ j c (by omega) hj))
        rw [← g6 (l + k) j (by omega) hj, Nat.add_mul]
        congr 2
        omega
  | .osl k ver sz off n :: bs, hv, hok =>
    obtain ⟨p, r, hp, ha, hr⟩ := hv.cons
    simp only [List.map_cons, List.cons.injEq] at hp
    obtain ⟨rfl, rfl⟩ := hp
    obtain ⟨h1, _, h3, h4, h5, rfl, h7, h8⟩ := hok
    rcases osl_live H ha h7 with ⟨ob, g1, g2, g3, g4, rfl, rfl, hx⟩ | ⟨cs, ob, b, cap, arr, g1, hx, g2, g3, g4, g5, g6, g7, _⟩
    · refine ⟨_, hrun none 0 0 bs hx (Nat.le_refl _) hr h1 h3 h4 h5, ?_⟩
      have e0 : (loB lo.isSome bs).toNat = 0 := by omega
      have e1 : (hiB lo.isSome hi.isSome ((0 : Nat) : Int) bs).toNat - (loB lo.isSome bs).toNat = 0 := by omega
      have e2 : valL h (.slc i.size lo.isSome hi.isSome) (.osl k ver i.size 0 0 :: bs) = .osl k ver i.size 0 0 := by
        show AV.osl _ _ _ _ _ = _
        rw [e1, e0]
        simp
      rw [e2, e1, e0]
      simp
      exact .osl ob g1 ⟨_, _, _, rfl⟩ (by omega) (fun _ => .inl ⟨g3, rfl, rfl, rfl⟩)
    · refine ⟨_, hrun _ n cap bs hx g2 hr h1 h3 h4 h5, ?_⟩
      generalize hl : (loB lo.isSome bs).toNat = l
      generalize hh : (hiB lo.isSome hi.isSome (n : Int) bs).toNat = u
      have hlu : l ≤ u := by omega
      have hun : u ≤ n := by omega
      have e2 : valL h (.slc i.size lo.isSome hi.isSome) (.osl k ver i.size off n :: bs) = .osl k ver i.size (off + l * i.size) (u - l) := by
        show AV.osl _ _ _ _ _ = _
        rw [hl, hh]
      rw [e2]
      by_cases hlast : cap = l
      · rw [if_pos hlast]
        have h0 : l = 0 ∧ u = 0 := by omega
        obtain ⟨rfl, rfl⟩ := h0
        subst hlast
        simp only [Nat.zero_mul, Nat.add_zero, Nat.sub_self]
        exact .osl ob g5 ⟨_, _, _, rfl⟩ (by omega) (fun _ => .inr ⟨b, 0, g7, rfl, Nat.le_refl _, by omega, by simpa using g4⟩)
      · rw [if_neg hlast]
        simp only [Option.map_some, add_addr]
        refine .osl ob g5 ⟨_, _, _, rfl⟩ (by omega) (fun _ => .inr ⟨b, cap - l, g7, rfl, by omega, by omega, ?_⟩)
        rw [Nat.add_assoc, ← Nat.add_mul, show l + (cap - l) = cap from by omega]
        exact g4
end
end AF

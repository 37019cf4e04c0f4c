/-
  AF7: each pure operation.
-/
import Derived.Test.YtpnjpjibccmkiaaAf6
set_option linter.all false
set_option linter.unusedSimpArgs false
set_option linter.unusedVariables false
set_option linter.unusedSectionVars false
namespace AF
open Go

section
variable {P : Program} {js : List Tmp} {imp : List FuncId} {w : World} {σ : List OB}

/-- What is shown of a pure operation. -/
def PureOk (P : Program) (w : World) (σ : List OB) (ρ : Operand → Value) (o : Oper) (v : AV) : Prop := ∃ x, (execOp ρ o).run P w = .ok (.value x) w ∧ VR w σ v x

theorem pu_mv {o : Oper} {x : Operand} (ho : o.op = .move x ∨ o.op = .assign x) {vs : List AV} {ρ : Operand → Value} (hv : VRs w σ vs [ρ x]) (hok : okP .mv vs) : PureOk P w σ ρ o (valP .mv vs) := by
  match vs, hv, hok with
  | [v], hv, _ =>
    obtain ⟨y, hy, hr⟩ := hv.one
    cases hy
    refine ⟨ρ x, ?_, hr⟩
    rcases ho with ho | ho <;> simp [execOp, ho]

theorem eqGuard_plain {op : BinOp} {t : TypeId} {x y : Operand} {a b : Value} (h : ∀ xs ys, a = .agg xs → b = .agg ys → False) (h' : a = .nilIface → b = .nilIface → (∃ v, x = .const v) ∨ ∃ v, y = .const v) :
    (eqGuard op t x y a b).run P w = .ok () w := by
  cases op <;> simp only [eqGuard] <;> try rfl
  all_goals
    cases a <;> cases b <;> try rfl
    · rcases h' rfl rfl with ⟨v, rfl⟩ | ⟨v, rfl⟩ <;> simp
    · exact (h _ _ rfl rfl).elim

theorem pu_bin {o : Oper} {op : BinOp} {t u : TypeId} {x y : Operand} (ho : o.op = .binOp op t x y u) {vs : List AV} {ρ : Operand → Value} (hv : VRs w σ vs [ρ x, ρ y]) (hok : okP (.bin op) vs) :
    PureOk P w σ ρ o (valP (.bin op) vs) := by
  match vs, hv, hok with
  | [a, b], hv, hok =>
    obtain ⟨p, q, hpq, ha, hb⟩ := hv.two
    cases hpq
    obtain ⟨z, hz, hr⟩ := bin_run (P := P) (t := t) ha hb hok
    refine ⟨z, ?_, hr⟩
    have hg : (eqGuard op t x y (ρ x) (ρ y)).run P w = .ok () w := by
      refine eqGuard_plain (fun xs ys e1 e2 => ?_) (fun e1 e2 => ?_)
      · rw [e1] at ha; rw [e2] at hb
        cases a <;> cases b <;> simp only [okP, binC] at hok
        · cases vr_int ha
        · cases vr_str ha
      · rw [e1] at ha
        cases a <;> cases b <;> simp only [okP, binC] at hok
        · cases vr_int ha
        · cases vr_str ha
    simp [execOp, ho, hg, hz]

theorem pu_bool {o : Oper} {op : BinOp} {t u : TypeId} {x y : Operand} {n : Bool} (ho : o.op = .binOp op t x y u) (ht : P.underlying t = some .bool) (hn : (op = .eql ∧ n = false) ∨ (op = .neq ∧ n = true)) {vs : List AV} {ρ : Operand → Value}
    (hv : VRs w σ vs [ρ x, ρ y]) (hok : okP (.bool n) vs) : PureOk P w σ ρ o (valP (.bool n) vs) := by
  match vs, hv, hok with
  | [.bool a, .bool b], hv, hok =>
    obtain ⟨p, q, hpq, ha, hb⟩ := hv.two
    cases hpq
    have ea := vr_bool ha
    have eb := vr_bool hb
    refine ⟨.bool (n != (a == b)), ?_, vr_b⟩
    have hg : (eqGuard op t x y (ρ x) (ρ y)).run P w = .ok () w := by
      refine eqGuard_plain (fun xs ys e1 e2 => ?_) (fun e1 e2 => ?_)
      · rw [ea] at e1; cases e1
      · rw [ea] at e1; cases e1
    have he := bin_eq (P := P) (w := w) (t := t) (x := ρ x) (y := ρ y) (b := a == b) (by rw [ea, eb]; rfl) (by rw [ea, eb]; exact run_equalIn_bool' w 9999 t a b ht)
    rcases hn with ⟨rfl, rfl⟩ | ⟨rfl, rfl⟩
    · simp [execOp, ho, hg, he.1]
    · simp [execOp, ho, hg, he.2]

theorem pu_un {o : Oper} {op : UnOp} {t : TypeId} {x : Operand} (ho : o.op = .unOp op t x) {vs : List AV} {ρ : Operand → Value} (hv : VRs w σ vs [ρ x]) (hok : okP (.un op) vs) : PureOk P w σ ρ o (valP (.un op) vs) := by
  cases op with
  | not =>
    match vs, hv, hok with
    | [.bool b], hv, hok =>
      obtain ⟨p, hp, ha⟩ := hv.one
      cases hp
      have ea := vr_bool ha
      exact ⟨.bool (!b), by simp [execOp, ho, ea, Op.unary], vr_b⟩
  | neg =>
    match vs, hv, hok with
    | [.int k n], hv, hok =>
      obtain ⟨p, hp, ha⟩ := hv.one
      cases hp
      have ea := vr_int ha
      exact ⟨.int k (k.wrap (0 - n)), by simp [execOp, ho, ea, Op.unary, Op.intArith], vr_i⟩
  | xor => exact hok.elim
  | plus => exact hok.elim

theorem pu_conv {o : Oper} {s d : TypeId} {x : Operand} {k j : IntKind} (ho : o.op = .convert s d x) (hs : P.underlying s = some (.int j)) (hd : P.underlying d = some (.int k)) {vs : List AV} {ρ : Operand → Value} (hv : VRs w σ vs [ρ x])
    (hok : okP (.conv k) vs) : PureOk P w σ ρ o (valP (.conv k) vs) := by
  match vs, hv, hok with
  | [.int l n], hv, hok =>
    obtain ⟨p, hp, ha⟩ := hv.one
    cases hp
    have ea := vr_int ha
    exact ⟨.int k (k.wrap n), by simp [execOp, ho, ea, convert, run_und hs, run_und hd, Conv.intToInt], vr_i⟩

theorem nil_core {o : Oper} {op : BinOp} {t u : TypeId} {x y : Operand} {n b : Bool} (ho : o.op = .binOp op t x y u) (hn : (op = .eql ∧ n = false) ∨ (op = .neq ∧ n = true))
    {z : Operand} {c : Value} (hz : (z = x ∧ .const c = y) ∨ (z = y ∧ .const c = x)) {ρ : Operand → Value} (hρ : ∀ c, ρ (.const c) = c)
    (h : ((Op.equalIn 10000 t (ρ z) c).run P w = .ok b w ∧ (Op.equalIn 10000 t c (ρ z)).run P w = .ok b w) ∧ odd2 (ρ z) c = true ∧ odd2 c (ρ z) = true ∧ (∀ xs, c ≠ .agg xs)) : (execOp ρ o).run P w = .ok (.value (.bool (n != b))) w := by
  obtain ⟨⟨h1, h2⟩, h3, h4, h5⟩ := h
  have hg : (eqGuard op t x y (ρ x) (ρ y)).run P w = .ok () w := by
    refine eqGuard_plain (fun xs ys e1 e2 => ?_) (fun _ _ => ?_)
    · rcases hz with ⟨rfl, rfl⟩ | ⟨rfl, rfl⟩
      · rw [hρ] at e2; exact h5 _ e2
      · rw [hρ] at e1; exact h5 _ e1
    · rcases hz with ⟨rfl, rfl⟩ | ⟨rfl, rfl⟩
      · exact .inr ⟨_, rfl⟩
      · exact .inl ⟨_, rfl⟩
  have hbin : (Go.binOp .eql t (ρ x) (ρ y)).run P w = .ok (.bool b) w ∧ (Go.binOp .neq t (ρ x) (ρ y)).run P w = .ok (.bool (!b)) w := by
    rcases hz with ⟨rfl, rfl⟩ | ⟨rfl, rfl⟩
    · rw [hρ]; exact bin_eq h3 h1
    · rw [hρ]; exact bin_eq h4 h2
  rcases hn with ⟨rfl, rfl⟩ | ⟨rfl, rfl⟩
  · simp [execOp, ho, hg, hbin.1]
  · simp [execOp, ho, hg, hbin.2]

theorem pu_isnil {o : Oper} {op : BinOp} {t u : TypeId} {x y : Operand} {d : TypeDesc} {k : NK} {n : Bool} (ho : o.op = .binOp op t x y u) (hd : P.underlying t = some d) (hk : nkOf d = some k) (hn : (op = .eql ∧ n = false) ∨ (op = .neq ∧ n = true))
    {z v : Operand} (hz : (z = x ∧ v = y) ∨ (z = y ∧ v = x)) (hv0 : isNilC k v = true) {vs : List AV} {ρ : Operand → Value} (hρ : ∀ c, ρ (.const c) = c) (hv : VRs w σ vs [ρ z]) (hok : okP (.isnil k n) vs) : PureOk P w σ ρ o (valP (.isnil k n) vs) := by
  have hvc : ∃ c, v = .const c := by
    unfold isNilC at hv0
    split at hv0 <;> first | exact ⟨_, rfl⟩ | cases hv0
  obtain ⟨c, rfl⟩ := hvc
  match vs, hv, hok with
  | [a], hv, hok =>
    obtain ⟨p, hp, ha⟩ := hv.one
    cases hp
    have plain : ∀ b, nilTest k a = some b → (execOp ρ o).run P w = .ok (.value (.bool (n != b))) w := fun b hb => nil_core ho hn hz hρ (isnil_run hd hk ha hb hv0 9999 (P := P))
    by_cases hsl : k = .slice ∧ ∃ m f, a = .sl m f
    · obtain ⟨rfl, m, f, rfl⟩ := hsl
      have hvv : c = .slice none 0 0 := by
        unfold isNilC at hv0; split at hv0 <;> simp_all
      subst hvv
      have hd' : ∃ e, d = .slice e := by
        cases d <;> simp [nkOf] at hk
        exact ⟨_, rfl⟩
      obtain ⟨e, rfl⟩ := hd'
      have hval : valP (.isnil .slice n) [.sl m f] = if m = 0 then .anyb else .bool (n != false) := rfl
      rw [hval]
      rcases vr_sl ha with ⟨rfl, hx⟩ | ⟨sz, b, off, cap, vals, hx, _⟩
      · have := nil_core ho hn hz hρ (b := true) (P := P) (w := w) (by rw [hx]; exact ⟨⟨eqn_slice 9999 hd, eqn_slice 9999 hd⟩, rfl, rfl, by simp⟩)
        exact ⟨_, this, .imm .anyb⟩
      · have := nil_core ho hn hz hρ (b := false) (P := P) (w := w) (by rw [hx]; exact ⟨eqn_slice' 9999 hd _ _ _, rfl, rfl, by simp⟩)
        refine ⟨_, this, ?_⟩
        split
        · exact .imm .anyb
        · exact vr_b
    · have hval : valP (.isnil k n) [a] = .bool (n != (nilTest k a).getD false) := by
        unfold valP
        split <;> simp_all
      have hok' : (nilTest k a).isSome = true := by
        unfold okP at hok
        split at hok <;> simp_all
      obtain ⟨b, hb⟩ := Option.isSome_iff_exists.1 hok'
      exact ⟨_, plain b hb, by rw [hval, hb, Option.getD_some]; exact vr_b⟩

theorem pu_aeq {o : Oper} {op : BinOp} {t u : TypeId} {x y : Operand} {fs : Array Field} {ks : List AK} {n : Bool} (ho : o.op = .binOp op t x y u) (hd : P.underlying t = some (.struct fs)) (hks : atomsT P 0 fs.toList = some ks)
    (hs : P.stoodInHeld t = false) (hq : P.eqGuardType P.depth t = false) (hn : (op = .eql ∧ n = false) ∨ (op = .neq ∧ n = true)) {vs : List AV} {ρ : Operand → Value} (hv : VRs w σ vs [ρ x, ρ y]) (hok : okP (.aeq ks n) vs) :
    PureOk P w σ ρ o (valP (.aeq ks n) vs) := by
  match vs, hv, hok with
  | [.agg a, .agg b], hv, hok =>
    obtain ⟨p, q, hpq, ha, hb⟩ := hv.two
    cases hpq
    obtain ⟨xs, ea, la, oa, ha⟩ := vr_agg ha
    obtain ⟨ys, eb, lb, ob, hb⟩ := vr_agg hb
    cases hr : atomsEq ks a b with
    | none => simp [okP, hr] at hok
    | some r =>
      have hf : P.fieldsOf t = fs := by simp [Program.fieldsOf, hd]
      have he : (Op.equalIn 10000 t (.agg xs) (.agg ys)).run P w = .ok r w := by
        rw [run_equalIn_agg w 9999 t xs ys (by rw [hf]; exact hd) hs, hf]
        refine atoms_eq (σ := σ) 9998 fs.toList 0 ks a b r hks hr (fun i c hc => ?_) (fun i c hc => ?_)
        · have hi : i < a.length := (List.getElem?_eq_some_iff.1 hc).1
          have hx : xs[i]? = some xs[i] := Array.getElem?_eq_getElem (by omega)
          exact ⟨xs[i], by rw [Nat.zero_add]; exact hx, ha i c _ hc hx⟩
        · have hi : i < b.length := (List.getElem?_eq_some_iff.1 hc).1
          have hx : ys[i]? = some ys[i] := Array.getElem?_eq_getElem (by omega)
          exact ⟨ys[i], by rw [Nat.zero_add]; exact hx, hb i c _ hc hx⟩
      refine ⟨.bool (n != r), ?_, by simp only [valP, hr, Option.getD_some]; exact vr_b⟩
      rcases hn with ⟨rfl, rfl⟩ | ⟨rfl, rfl⟩
      · simp [execOp, ho, ea, eb, run_eqGuard_agg w _ t x y xs ys hq, run_eql_struct w t xs ys, he]
      · simp [execOp, ho, ea, eb, run_eqGuard_agg w _ t x y xs ys hq, run_neq_struct w t xs ys, he]

theorem pu_fld {o : Oper} {t : TypeId} {x : Operand} {f off : Nat} {n : Option Nat} (ho : o.op = .field t x f) (hf : fieldOf P t f = some (off, n)) {vs : List AV} {ρ : Operand → Value} (hv : VRs w σ vs [ρ x]) (hok : okP (.fld off n) vs) :
    PureOk P w σ ρ o (valP (.fld off n) vs) := by
  match vs, hv, hok with
  | [.agg a], hv, hok =>
    obtain ⟨p, hp, ha⟩ := hv.one
    cases hp
    obtain ⟨xs, ea, la, oa, ha⟩ := vr_agg ha
    obtain ⟨fs, fx, i, hu, hx, hag, hi, hz, rfl⟩ := fieldOf_spec hf
    obtain ⟨z, hz1, hz2⟩ := run_part (P := P) hag la oa ha hok
    exact ⟨z, by simp [execOp, ho, ea, Instr.field, run_und hu, hx, asAgg, hz1], hz2⟩

theorem pu_ext {o : Oper} {x : Operand} {i : Nat} (ho : o.op = .extract x i) {vs : List AV} {ρ : Operand → Value} (hv : VRs w σ vs [ρ x]) (hok : okP (.ext i) vs) : PureOk P w σ ρ o (valP (.ext i) vs) := by
  match vs, hv, hok with
  | [.tup a], hv, hok =>
    obtain ⟨p, hp, ha⟩ := hv.one
    cases hp
    obtain ⟨xs, ea, la, ha⟩ := vr_tup ha
    have h1 : i < a.length := hok
    have h2 : i < xs.size := by omega
    have hx : xs[i]? = some xs[i] := Array.getElem?_eq_getElem h2
    refine ⟨xs[i], by simp [execOp, ho, ea, Instr.extract, hx], ?_⟩
    have := ha i a[i] xs[i] (by simp [h1]) hx
    simpa [valP, h1] using this

theorem pu_mkfn {o : Oper} {f : Fn} {first cap : Array Operand} (ho : o.op = .makeFunc f first cap) {vs : List AV} {ρ : Operand → Value} (hv : VRs w σ vs ((first.toList ++ cap.toList).map ρ)) (hok : okP (.mkfn f first.size) vs) :
    PureOk P w σ ρ o (valP (.mkfn f first.size) vs) := by
  have hlen := hv.1
  simp at hlen
  refine ⟨.func f (first.map ρ) (cap.map ρ), by simp [execOp, ho, Instr.makeFunc], ?_⟩
  have hval : valP (.mkfn f first.size) vs = .fn f (vs.take first.size) (vs.drop first.size) := by cases vs <;> rfl
  rw [hval]
  refine .fn (by simp; omega) (by simp; omega) (fun i c y hc hy => ?_) (fun i c y hc hy => ?_)
  · rw [List.getElem?_take] at hc
    split at hc
    · rename_i hi
      refine hv.2 i c y hc ?_
      rw [List.map_append, List.getElem?_append_left (by simpa using hi)]
      simpa using hy
    · cases hc
  · rw [List.getElem?_drop] at hc
    refine hv.2 _ c y hc ?_
    rw [List.map_append, List.getElem?_append_right (by simp)]
    simpa using hy

theorem pu_slen {o : Oper} {c : Call} {x : Operand} {t : TypeId} (ho : o.op = .call c) (hb : c.callee = .builtin .len) (ha : c.args.toList = [x]) (ht : c.argTypes.toList = [t]) (hty : P.underlying t = some .string)
    {vs : List AV} {ρ : Operand → Value} (hv : VRs w σ vs [ρ x]) (hok : okP .slen vs) : PureOk P w σ ρ o (valP .slen vs) := by
  have e1 : c.args = #[x] := by rw [← ha]
  have e2 : c.argTypes = #[t] := by rw [← ht]
  match vs, hv, hok with
  | [.str s], hv, hok =>
    obtain ⟨p, hp, ha⟩ := hv.one
    cases hp
    have hx := vr_str ha
    exact ⟨.int .i64 s.length, by simp [execOp, ho, resolve, hb, invoke, Go.builtin, Builtin.len_, e1, e2, run_und hty, hx, goInt, ba_size], vr_i⟩

theorem pu_sidx {o : Oper} {t : TypeId} {x i : Operand} (ho : o.op = .index t x i) (ht : P.underlying t = some .string) {vs : List AV} {ρ : Operand → Value} (hv : VRs w σ vs [ρ x, ρ i]) (hok : okP .sidx vs) : PureOk P w σ ρ o (valP .sidx vs) := by
  match vs, hv, hok with
  | [.str s, .int k n], hv, hok =>
    obtain ⟨p, q, hp, ha, hb⟩ := hv.two
    cases hp
    have ea := vr_str ha
    have eb := vr_int hb
    have h1 : 0 ≤ n ∧ n < s.length := hok
    have h2 : n.toNat < s.length := by omega
    refine ⟨.int .u8 s[n.toNat].toNat, ?_, ?_⟩
    · simp [execOp, ho, ea, eb, Instr.index, run_und ht, asIntOf, h1.1, ba_get, h2]
    · have : valP .sidx [.str s, .int k n] = .int .u8 s[n.toNat].toNat := by simp [valP, h2]
      rw [this]
      exact vr_i

theorem run_bound {k : IntKind} {n : Int} {y : Nat} {code : BoundsCode} (h0 : 0 ≤ n) (h1 : n ≤ y) : (Instr.sliceBound (.int k n) y code).run P w = .ok n.toNat w := by
  simp [Instr.sliceBound, asIntOf, h0, h1]

/-- The two bounds of a slice expression. -/
theorem run_bounds {s : Bool} {len cap : Nat} {lo hi : Option Operand} {bs : List AV} {ρ : Operand → Value} (hv : VRs w σ bs ((optX lo ++ optX hi).map ρ)) (hi' : intC bs) (hl : 0 ≤ loB lo.isSome bs) (hlh : loB lo.isSome bs ≤ hiB lo.isSome hi.isSome len bs)
    (hh : hiB lo.isSome hi.isSome len bs ≤ cap) : (Instr.sliceBounds s len cap (lo.map ρ) (hi.map ρ) none).run P w = .ok ((loB lo.isSome bs).toNat, (hiB lo.isSome hi.isSome len bs).toNat, cap) w := by
  cases lo with
  | none =>
    cases hi with
    | none =>
      have h0 : bs = [] := List.length_eq_zero_iff.1 (by have := hv.1; simpa [optX] using this.symm)
      subst h0
      simp [Instr.sliceBounds, loB, hiB]
    | some h =>
      obtain ⟨p, r, hp, ha, hr⟩ : ∃ p r, bs = [p] ∧ VR w σ p (ρ h) ∧ r = () := by
        match bs, hv with
        | [a], hv => obtain ⟨x, hx, h1⟩ := hv.one; simp [optX] at hx; subst hx; exact ⟨a, (), rfl, h1, rfl⟩
      subst hp
      cases p <;> simp [intC] at hi'
      have eh := vr_int ha
      simp [loB, hiB] at hl hlh hh ⊢
      cases s <;> simp [Instr.sliceBounds, eh, run_bound hlh hh]
  | some l =>
    cases hi with
    | none =>
      obtain ⟨p, r, hp, ha, hr⟩ : ∃ p r, bs = [p] ∧ VR w σ p (ρ l) ∧ r = () := by
        match bs, hv with
        | [a], hv => obtain ⟨x, hx, h1⟩ := hv.one; simp [optX] at hx; subst hx; exact ⟨a, (), rfl, h1, rfl⟩
      subst hp
      cases p <;> simp [intC] at hi'
      have eh := vr_int ha
      simp [loB, hiB] at hl hlh hh ⊢
      cases s <;> simp [Instr.sliceBounds, eh, run_bound hl hlh]
    | some h =>
      obtain ⟨p, q, hp, ha, hb⟩ : ∃ p q, bs = [p, q] ∧ VR w σ p (ρ l) ∧ VR w σ q (ρ h) := by
        match bs, hv with
        | [a, b], hv => obtain ⟨x, y, hx, h1, h2⟩ := hv.two; simp [optX] at hx; obtain ⟨rfl, rfl⟩ := hx; exact ⟨a, b, rfl, h1, h2⟩
      subst hp
      cases p <;> cases q <;> simp [intC] at hi'
      have el := vr_int ha
      have eh := vr_int hb
      rename_i k1 n1 k2 n2
      simp [loB, hiB] at hl hlh hh ⊢
      have h3 : n1 ≤ (n2.toNat : Int) := by omega
      cases s <;> simp [Instr.sliceBounds, el, eh, run_bound (P := P) (w := w) (k := k2) (by omega : (0:Int) ≤ n2) hh, run_bound (P := P) (w := w) (k := k1) hl h3]

theorem pu_sslc {o : Oper} {t : TypeId} {x : Operand} {lo hi : Option Operand} (ho : o.op = .slice t x lo hi none) (ht : P.underlying t = some .string) {vs : List AV} {ρ : Operand → Value} (hv : VRs w σ vs ((x :: (optX lo ++ optX hi)).map ρ))
    (hok : okP (.sslc lo.isSome hi.isSome) vs) : PureOk P w σ ρ o (valP (.sslc lo.isSome hi.isSome) vs) := by
  match vs, hv, hok with
  | .str s :: bs, hv, hok =>
    obtain ⟨p, r, hp, ha, hr⟩ := hv.cons
    simp at hp
    obtain ⟨rfl, rfl⟩ := hp
    have ea := vr_str ha
    obtain ⟨h1, _, h3, h4, h5⟩ := hok
    have hb := run_bounds (P := P) (s := false) (len := s.length) (cap := s.length) (lo := lo) (hi := hi) (ρ := ρ) (by simpa using hr) h1 h3 h4 h5
    refine ⟨_, ?_, vr_s⟩
    simp [execOp, ho, ea, Instr.sliceAt, Instr.slice, run_und ht, ba_size, hb, ba_extract]

theorem intOf_int {k : IntKind} {n : Int} : intOf (.int k n) = n := rfl

theorem run_max {r : List AV} : ∀ {ys : List Value} {k : IntKind} {n : Int}, VRs w σ r ys → intC r →
    (ys.foldlM Builtin.max2 (.int k n)).run P w = .ok (.int k (r.foldl (fun a v => if true then max a (intOf v) else min a (intOf v)) n)) w := by
  induction r with
  | nil => intro ys k n h _; have := h.nil; subst this; simp
  | cons v r ih =>
    intro ys k n h hc
    obtain ⟨x, ys, rfl, hx, hr⟩ := h.cons
    cases v <;> simp only [intC] at hc
    have ex := vr_int hx
    subst ex
    rename_i k' m
    have := ih (k := k) (n := max n m) hr hc
    simp only [List.foldlM_cons, Builtin.max2, Sem.run_bind, Sem.run_pure, Result.andThen_ok, List.foldl_cons, if_true, intOf_int]
    rw [show (if m > n then m else n) = max n m from by omega]
    simpa using this

theorem run_min {r : List AV} : ∀ {ys : List Value} {k : IntKind} {n : Int}, VRs w σ r ys → intC r →
    (ys.foldlM Builtin.min2 (.int k n)).run P w = .ok (.int k (r.foldl (fun a v => if false then max a (intOf v) else min a (intOf v)) n)) w := by
  induction r with
  | nil => intro ys k n h _; have := h.nil; subst this; simp
  | cons v r ih =>
    intro ys k n h hc
    obtain ⟨x, ys, rfl, hx, hr⟩ := h.cons
    cases v <;> simp only [intC] at hc
    have ex := vr_int hx
    subst ex
    rename_i k' m
    have := ih (k := k) (n := min n m) hr hc
    simp only [List.foldlM_cons, Builtin.min2, Sem.run_bind, Sem.run_pure, Result.andThen_ok, List.foldl_cons, if_false, intOf_int, Bool.false_eq_true]
    rw [show (if m < n then m else n) = min n m from by omega]
    simpa using this

theorem pu_mm {o : Oper} {c : Call} {b : Bool} (ho : o.op = .call c) (hb : c.callee = .builtin (if b then .max else .min)) {vs : List AV} {ρ : Operand → Value} (hv : VRs w σ vs (c.args.toList.map ρ)) (hok : okP (.mm b) vs) : PureOk P w σ ρ o (valP (.mm b) vs) := by
  have hok' : intC vs ∧ vs ≠ [] := by cases vs <;> exact hok
  match vs, hv, hok' with
  | .int k n :: r, hv, hok' =>
    obtain ⟨x, ys, hys, hx, hr⟩ := hv.cons
    have ex := vr_int hx
    subst ex
    have hargs : (c.args.map ρ).toList = .int k n :: ys := by simpa using hys
    have hval : valP (.mm b) (.int k n :: r) = .int k (r.foldl (fun a v => if b then max a (intOf v) else min a (intOf v)) n) := by cases r <;> rfl
    refine ⟨_, ?_, by rw [hval]; exact vr_i⟩
    cases b
    · have := run_min (P := P) (k := k) (n := n) hr hok'.1
      simp only [Bool.false_eq_true, if_false] at hb this ⊢
      simp [execOp, ho, resolve, hb, invoke, Go.builtin, Builtin.min_, hys, this]
    · have := run_max (P := P) (k := k) (n := n) hr hok'.1
      simp only [if_true] at hb this ⊢
      simp [execOp, ho, resolve, hb, invoke, Go.builtin, Builtin.max_, hys, this]

/-- A value's cells. -/
theorem vr_cells {v : AV} {x : Value} (h : VR w σ v x) (hs : v.solid = true) : x.cells.size = v.cells.length ∧ (∀ (i : Nat) y, x.cells[i]? = some y → y.oneCell' = true) ∧ ∀ (i : Nat) c y, v.cells[i]? = some c → x.cells[i]? = some y → VR w σ c y := by
  have one : ∀ {a : AV} {x : Value}, VR w σ a x → a.cells = [a] → x.cells = #[x] → x.oneCell' = true → x.cells.size = a.cells.length ∧ (∀ (i : Nat) y, x.cells[i]? = some y → y.oneCell' = true) ∧ ∀ (i : Nat) c y, a.cells[i]? = some c → x.cells[i]? = some y → VR w σ c y := by
    intro a x h e1 e2 e3
    rw [e1, e2]
    refine ⟨rfl, fun i y hy => ?_, fun i c y hc hy => ?_⟩
    · cases i with
      | zero => simp at hy; subst hy; exact e3
      | succ i => simp at hy
    cases i with
    | zero => simp at hc hy; subst hc hy; exact h
    | succ i => simp at hc
  cases v with
  | undef => cases hs
  | gd g v => cases hs
  | agg cs => obtain ⟨vs, rfl, hl, h1, hh⟩ := vr_agg h; exact ⟨hl, h1, hh⟩
  | bool b => have := vr_bool h; subst this; exact one h rfl rfl rfl
  | int k n => have := vr_int h; subst this; exact one h rfl rfl rfl
  | str s => have := vr_str h; subst this; exact one h rfl rfl rfl
  | nl => have := vr_nl h; subst this; exact one h rfl rfl rfl
  | nilp => have := vr_nilp h; subst this; exact one h rfl rfl rfl
  | nilfn => have := vr_nilfn h; subst this; exact one h rfl rfl rfl
  | nilif => have := vr_nilif h; subst this; exact one h rfl rfl rfl
  | ifc => obtain ⟨t, u, rfl⟩ := vr_ifc h; exact one h rfl rfl rfl
  | anyb => obtain ⟨b, rfl⟩ := vr_anyb h; exact one h rfl rfl rfl
  | tup cs => cases hs
  | fn f a c => obtain ⟨vs, us, rfl, _⟩ := vr_fn h; exact one h rfl rfl rfl
  | ip cs => obtain ⟨b, off, vals, rfl, _⟩ := vr_ip h; exact one h rfl rfl rfl
  | sl n f => rcases vr_sl h with ⟨_, rfl⟩ | ⟨_, _, _, _, _, rfl, _⟩ <;> exact one h rfl rfl rfl
  | osl k ver sz off len => obtain ⟨a, n, c, rfl⟩ := vr_oslS h; exact one h rfl rfl rfl
  | op k ver off => obtain ⟨a, rfl⟩ := vr_opS h; exact one h rfl rfl rfl
  | yld k => obtain ⟨b, rfl⟩ := vr_yldS h; exact one h rfl rfl rfl

/-- Cells written into a row. -/
theorem put_cells (cells : Array Value) (off : Nat) : ∀ (l : List Value) (k : Nat), off + k + l.length ≤ cells.size →
    ((l.zipIdx k).foldl (fun cs (x : Value × Nat) => cs.setIfInBounds (off + x.2) x.1) cells).toList = cells.toList.take (off + k) ++ l ++ cells.toList.drop (off + k + l.length) := by
  intro l
  induction l generalizing cells with
  | nil => intro k _; simp
  | cons v l ih =>
    intro k hk
    simp only [List.zipIdx_cons, List.foldl_cons]
    have hk' : off + k < cells.size := by simp at hk; omega
    rw [ih _ (k + 1) (by simp at hk ⊢; omega)]
    simp only [Array.toList_setIfInBounds, List.length_cons]
    have e1 : off + (k + 1) = (off + k) + 1 := by omega
    have e2 : off + (k + 1) + l.length = off + k + (l.length + 1) := by omega
    rw [e2, e1]
    have hl : off + k < cells.toList.length := by simpa using hk'
    rw [List.take_set, List.drop_set_of_lt (by omega)]
    rw [List.take_add_one]
    simp [List.set_append, hl]
    rw [if_neg (by omega), Nat.min_eq_left (by omega), Nat.sub_self, Array.getElem?_eq_getElem hk']
    simp

theorem getElem?_splice {α : Type} {l m : List α} {off n : Nat} (hn : m.length = n) (ho : off + n ≤ l.length) (i : Nat) :
    (l.take off ++ m ++ l.drop (off + n))[i]? = if i < off then l[i]? else if i < off + n then m[i - off]? else l[i]? := by
  have h1 : (l.take off).length = off := by simp; omega
  split
  · rename_i h
    rw [List.append_assoc, List.getElem?_append_left (by omega), List.getElem?_take, if_pos h]
  · rename_i h
    split
    · rename_i h'
      rw [List.append_assoc, List.getElem?_append_right (by omega), List.getElem?_append_left (by omega), h1]
    · rename_i h'
      rw [List.getElem?_append_right (by simp; omega), List.getElem?_drop]
      congr 1
      simp
      omega

theorem run_fill {place : Nat → Option (Nat × Nat)} : ∀ {is : List Nat} {l : List (Nat × Nat)} {vs : List AV} {ys : List Value} {z : List AV} {cells : Array Value}, (∀ (j : Nat) i p, is[j]? = some i → l[j]? = some p → place i = some p) → is.length = l.length →
    VRs w σ vs ys → fillOk z.length l vs → cells.size = z.length → (∀ (i : Nat) y, cells[i]? = some y → y.oneCell' = true) → (∀ (i : Nat) c y, z[i]? = some c → cells[i]? = some y → VR w σ c y) →
    ∃ out, Instr.fill place cells (is.zip ys) = some out ∧ out.size = (fillA z l vs).length ∧ (∀ (i : Nat) y, out[i]? = some y → y.oneCell' = true) ∧ ∀ (i : Nat) c y, (fillA z l vs)[i]? = some c → out[i]? = some y → VR w σ c y := by
  intro is
  induction is with
  | nil =>
    intro l vs ys z cells _ hl hv hok hs ho hz
    have : l = [] := by simpa using hl.symm
    subst this
    refine ⟨cells, by simp [Instr.fill], ?_, ho, ?_⟩
    · cases vs <;> simpa [fillA] using hs
    · cases vs <;> simpa [fillA] using hz
  | cons i is ih =>
    intro l vs ys z cells hp hl hv hok hs ho hz
    cases l with
    | nil => simp at hl
    | cons p l =>
      obtain ⟨off, n⟩ := p
      cases vs with
      | nil => exact hok.elim
      | cons v vs =>
        obtain ⟨y, ys, rfl, hy, hr⟩ := hv.cons
        obtain ⟨h1, h2, h3, h4⟩ := hok
        obtain ⟨c1, c3, c2⟩ := vr_cells hy h1
        have hpl := hp 0 i (off, n) rfl rfl
        have hcs : y.cells.size = n := by omega
        have hcond : (decide (y.cells.size ≠ n) || decide (off + y.cells.size > cells.size)) = false := by simp; omega
        have hput := put_cells cells off y.cells.toList 0 (by simp; omega)
        generalize hnew : (y.cells.toList.zipIdx 0).foldl (fun cs (x : Value × Nat) => cs.setIfInBounds (off + x.2) x.1) cells = new at hput
        have hnewsz : new.size = cells.size := by rw [← Array.length_toList, hput]; simp; omega
        have hlen' : (z.take off ++ v.cells ++ z.drop (off + n)).length = z.length := by simp; omega
        obtain ⟨out, o1, o2, o4, o3⟩ := ih (l := l) (vs := vs) (ys := ys) (z := z.take off ++ v.cells ++ z.drop (off + n)) (cells := new) (fun j i p hj hj' => hp (j + 1) i p (by simpa using hj) (by simpa using hj')) (by simpa using hl) hr
          (by rw [hlen']; exact h4) (by rw [hlen']; omega) (fun k u hu => by
            rw [← Array.getElem?_toList, hput] at hu
            simp only [Nat.add_zero, Array.length_toList, hcs] at hu
            rw [getElem?_splice (n := n) (by simp; omega) (by simp; omega)] at hu
            split at hu
            · exact ho k u (by simpa using hu)
            · split at hu
              · exact c3 _ u (by simpa using hu)
              · exact ho k u (by simpa using hu)) (fun k c u hk hu => by
            rw [getElem?_splice h2 h3] at hk
            rw [← Array.getElem?_toList, hput] at hu
            simp only [Nat.add_zero, Array.length_toList, hcs] at hu
            rw [getElem?_splice (n := n) (by simp; omega) (by simp; omega)] at hu
            split at hk
            · rename_i hlt
              rw [if_pos hlt] at hu
              exact hz k c u hk (by simpa using hu)
            · rename_i hlt
              rw [if_neg hlt] at hu
              split at hk
              · rename_i hlt'
                rw [if_pos hlt'] at hu
                exact c2 _ c u hk (by simpa using hu)
              · rename_i hlt'
                rw [if_neg hlt'] at hu
                exact hz k c u hk (by simpa using hu))
        refine ⟨out, ?_, o2, o4, o3⟩
        simp only [List.zip_cons_cons, Instr.fill, hpl]
        have hsw : (y.cells.zipIdx.foldl (fun cs (x : Value × Nat) => cs.setIfInBounds (off + x.2) x.1) cells) = new := by
          rw [← hnew, ← Array.foldl_toList, Array.toList_zipIdx]
        rw [if_neg (by simp; omega)]
        exact hsw ▸ o1

theorem zeroA_spec {t : TypeId} {z : List AV} (h : zeroA P t = some z) : ∃ i v, P.info? t = some i ∧ i.zero = some v ∧ v.cells.size = i.size ∧ ofVs v.cells.toList = some z := by
  unfold zeroA at h
  split at h
  · rename_i i hi
    split at h
    · rename_i v hv
      split at h
      · rename_i hs
        exact ⟨i, v, hi, hv, hs, h⟩
      · cases h
    · cases h
  · cases h

theorem partsOf_spec {t : TypeId} : ∀ {is : List Nat} {l : List (Nat × Nat)}, partsOf P t is = some l → is.length = l.length ∧ ∀ (j : Nat) i p, is[j]? = some i → l[j]? = some p →
    (∃ fs x y, P.underlying t = some (.struct fs) ∧ fs[i]? = some x ∧ P.info? x.type = some y ∧ p = (x.offset, y.size)) ∨ (∃ n e y, P.underlying t = some (.array n e) ∧ P.info? e = some y ∧ p = (i * y.size, y.size)) := by
  intro is
  induction is with
  | nil => intro l h; cases h; exact ⟨rfl, fun j i p hj => by simp at hj⟩
  | cons i is ih =>
    intro l h
    simp only [partsOf] at h
    split at h
    · rename_i fs hu
      split at h
      · rename_i x l' hx hl
        cases hn : P.info? x.type with
        | none => simp [sizeA, hn] at h
        | some y =>
          simp [sizeA, hn] at h
          subst h
          obtain ⟨h1, h2⟩ := ih hl
          refine ⟨by simp [h1], fun j k p hj hp => ?_⟩
          cases j with
          | zero => simp at hj hp; subst hj hp; exact .inl ⟨fs, x, y, hu, hx, hn, rfl⟩
          | succ j => exact h2 j k p (by simpa using hj) (by simpa using hp)
      · cases h
    · rename_i n e hu
      split at h
      · rename_i m l' hm hl
        cases h
        cases hn : P.info? e with
        | none => simp [sizeA, hn] at hm
        | some y =>
          simp [sizeA, hn] at hm
          subst hm
          obtain ⟨h1, h2⟩ := ih hl
          refine ⟨by simp [h1], fun j k p hj hp => ?_⟩
          cases j with
          | zero => simp at hj hp; subst hj hp; exact .inr ⟨n, e, y, hu, hn, rfl⟩
          | succ j => exact h2 j k p (by simpa using hj) (by simpa using hp)
      · cases h
    · cases h

theorem run_places : ∀ (fs : List Field), (∀ f ∈ fs, (P.info? f.type).isSome = true) → (fs.mapM (fun f => (do pure (f.offset, ← Go.sizeOf f.type) : Sem (Nat × Nat)))).run P w = .ok (fs.map fun f => (f.offset, ((P.info? f.type).map (·.size)).getD 0)) w := by
  intro fs
  induction fs with
  | nil => intro _; rfl
  | cons f fs ih =>
    intro h
    have h1 := h f (by simp)
    obtain ⟨i, hi⟩ := Option.isSome_iff_exists.1 h1
    rw [List.mapM_cons]
    simp only [Sem.run_bind, run_siz hi, Result.andThen_ok, Sem.run_pure, ih (fun g hg => h g (by simp [hg])), List.map_cons, hi, Option.map_some, Option.getD_some]

theorem pu_build {o : Oper} {t : TypeId} {ps : Array (Nat × Operand)} {z : List AV} {l : List (Nat × Nat)} (ho : o.op = .build t ps) (hz : zeroA P t = some z) (hl : partsOf P t (ps.toList.map (·.1)) = some l) (hb : buildT P t = true)
    {vs : List AV} {ρ : Operand → Value} (hv : VRs w σ vs ((ps.toList.map (·.2)).map ρ)) (hok : okP (.build z l) vs) : PureOk P w σ ρ o (valP (.build z l) vs) := by
  obtain ⟨i, zv, hi, hzv, hzs, hzo⟩ := zeroA_spec hz
  obtain ⟨hlen, hsp⟩ := partsOf_spec hl
  obtain ⟨hz1, hz2⟩ := ofVs_vi (w := w) (ow := own σ) hzo
  have hok' : fillOk z.length l vs := by cases vs <;> exact hok
  have hval : valP (.build z l) vs = .agg (fillA z l vs) := by cases vs <;> rfl
  have hzip : (ps.map fun x => (x.1, ρ x.2)).toList = (ps.toList.map (·.1)).zip ((ps.toList.map (·.2)).map ρ) := by
    simp [List.zip_map', Array.toList_map]
  have go : ∀ place : Nat → Option (Nat × Nat), (∀ (j : Nat) i p, (ps.toList.map (·.1))[j]? = some i → l[j]? = some p → place i = some p) →
      ∃ out, Instr.fill place zv.cells (ps.map fun x => (x.1, ρ x.2)).toList = some out ∧ VR w σ (valP (.build z l) vs) (.agg out) := by
    intro place hp
    obtain ⟨out, o1, o2, o4, o3⟩ := run_fill (w := w) (σ := σ) hp hlen hv hok' (by simpa using hz1) (fun k y hy => ofVs_one hzo k y (by simpa using hy)) (fun k c y hc hy => .imm (hz2 k c y hc (by simpa using hy)))
    exact ⟨out, by rw [hzip]; exact o1, by rw [hval]; exact .agg o2 o4 o3⟩
  unfold buildT at hb
  split at hb
  · rename_i fs hu
    have hall : ∀ f ∈ fs.toList, (P.info? f.type).isSome = true := List.all_eq_true.1 hb
    have hpl := run_places (w := w) fs.toList hall
    obtain ⟨out, o1, o2⟩ := go (fun k => (fs.toList.map fun f => (f.offset, ((P.info? f.type).map (·.size)).getD 0))[k]?) (fun j k p hj hp => by
      rcases hsp j k p hj hp with ⟨fs', x, y, h1, h2, h3, rfl⟩ | ⟨n, e, y, h1, _⟩
      · rw [hu] at h1
        cases h1
        have : fs.toList[k]? = some x := by simpa using h2
        simp [this, h3]
      · rw [hu] at h1; cases h1)
    refine ⟨.agg out, ?_, o2⟩
    have hm : (fs.mapM (fun f => (do pure (f.offset, ← Go.sizeOf f.type) : Sem (Nat × Nat)))).run P w = .ok (fs.toList.map fun f => (f.offset, ((P.info? f.type).map (·.size)).getD 0)).toArray w := by
      rw [Array.mapM_eq_mapM_toList]
      simp only [Sem.run_map, hpl, Result.andThen_ok]
    simp only [execOp, ho, Instr.build, Sem.run_bind, run_zer hi hzv, run_und hu, Result.andThen_ok, hm]
    simp only [List.getElem?_toArray]
    rw [o1]
    rfl
  · rename_i n e hu
    obtain ⟨y, hy⟩ := Option.isSome_iff_exists.1 hb
    obtain ⟨out, o1, o2⟩ := go (fun k => some (k * y.size, y.size)) (fun j k p hj hp => by
      rcases hsp j k p hj hp with ⟨fs', x, y', h1, _⟩ | ⟨n', e', y', h1, h2, rfl⟩
      · rw [hu] at h1; cases h1
      · rw [hu] at h1
        cases h1
        rw [hy] at h2
        cases h2
        rfl)
    refine ⟨.agg out, ?_, o2⟩
    simp only [execOp, ho, Instr.build, Sem.run_bind, run_zer hi hzv, run_und hu, Result.andThen_ok, run_siz hy]
    rw [o1]
    rfl
  · cases hb
end
end AF

/-
  AF6: pure operations, and those that read.
-/
import Derived.Test.YtpnjpjibccmkiaaAf5
set_option linter.all false
set_option linter.unusedSimpArgs false
set_option linter.unusedVariables false
set_option linter.unusedSectionVars false
namespace AF
open Go

section run
variable {P : Program} {w : World} {t : TypeId}
theorem run_und {d : TypeDesc} (h : P.underlying t = some d) : (underlying t).run P w = .ok d w := run_underlying h w
theorem run_inf {i : TypeInfo} (h : P.info? t = some i) : (typeInfo t).run P w = .ok i w := by simp [typeInfo, program, Sem.run, h]
theorem run_siz {i : TypeInfo} (h : P.info? t = some i) : (Go.sizeOf t).run P w = .ok i.size w := by simp [Go.sizeOf, run_inf h]
theorem run_agg {d : TypeDesc} (h : P.underlying t = some d) : (isAgg t).run P w = .ok (aggD d) w := by
  cases d <;> simp [isAgg, run_und h, aggD]
theorem run_zer {i : TypeInfo} {z : Value} (h : P.info? t = some i) (hz : i.zero = some z) : (zeroValue t).run P w = .ok z w := by simp [zeroValue, run_inf h, hz]
end run

theorem aggOf_spec {P : Program} {t : TypeId} {n : Option Nat} (h : aggOf P t = some n) : ∃ i d, P.info? t = some i ∧ P.underlying t = some d ∧
    ((n = none ∧ aggD d = false) ∨ (n = some i.size ∧ aggD d = true)) := by
  unfold aggOf at h
  split at h
  · rename_i d i h1 h2
    cases h
    refine ⟨i, d, h2, h1, ?_⟩
    cases aggD d <;> simp
  · cases h

theorem fieldOf_spec {P : Program} {t : TypeId} {f off : Nat} {n : Option Nat} (h : fieldOf P t f = some (off, n)) :
    ∃ fs x i, P.underlying t = some (.struct fs) ∧ fs[f]? = some x ∧ aggOf P x.type = some n ∧ P.info? x.type = some i ∧ i.size ≠ 0 ∧ off = x.offset := by
  unfold fieldOf at h
  split at h
  · rename_i fs h1
    split at h
    · rename_i x hx
      split at h
      · rename_i a i ha hi
        split at h
        · cases h
        · rename_i hz
          cases h
          exact ⟨fs, x, i, h1, hx, ha, hi, hz, rfl⟩
      · cases h
    · cases h
  · cases h

/-- A part of an aggregate. -/
theorem run_part {P : Program} {w : World} {σ : List OB} {t : TypeId} {n : Option Nat} (h : aggOf P t = some n) {cs : List AV} {vs : Array Value} (hl : vs.size = cs.length) (h1 : ∀ (i : Nat) y, vs[i]? = some y → y.oneCell' = true)
    (hv : ∀ (i : Nat) c y, cs[i]? = some c → vs[i]? = some y → VR w σ c y) {off : Nat} (hok : cutOk cs off n) :
    ∃ x, (part t vs off).run P w = .ok x w ∧ VR w σ (cut cs off n) x := by
  obtain ⟨i, d, hi, hd, hn⟩ := aggOf_spec h
  rcases hn with ⟨rfl, hd'⟩ | ⟨rfl, hd'⟩
  · have h3 : off < cs.length := hok
    have h2 : off < vs.size := by omega
    refine ⟨vs[off], by simp [part, run_agg hd, hd', h2], ?_⟩
    have := hv off cs[off] vs[off] (by simp [h3]) (by simp [h2])
    simpa [cut, h3] using this
  · have h3 : off + i.size ≤ cs.length := hok
    refine ⟨.agg (vs.extract off (off + i.size)), by simp [part, run_agg hd, hd', run_siz hi], ?_⟩
    simp only [cut]
    refine .agg (by simp; omega) (fun j y hy => ?_) fun j c y hc hy => ?_
    · rw [Array.getElem?_extract] at hy
      split at hy
      · exact h1 _ y hy
      · cases hy
    rw [List.getElem?_take] at hc
    split at hc
    · rw [List.getElem?_drop] at hc
      refine hv (off + j) c y hc ?_
      rw [Array.getElem?_extract] at hy
      split at hy
      · exact hy
      · cases hy
    · cases hc

theorem beq_dec (s u : List UInt8) : (s == u) = decide (s = u) := by rw [Bool.eq_iff_iff]; simp
theorem beq_deci (s u : Int) : (s == u) = decide (s = u) := by rw [Bool.eq_iff_iff]; simp

theorem atom_eq {P : Program} {w : World} {σ : List OB} {t : TypeId} {k : AK} (ht : atomT P t = some k) {a b : AV} {x y : Value} (ha : VR w σ a x) (hb : VR w σ b y) {r : Bool} (hr : atomEq k a b = some r) (d : Nat) :
    (Op.equalIn (d + 1) t x y).run P w = .ok r w := by
  unfold atomT at ht
  cases k with
  | int =>
    cases a <;> cases b <;> simp [atomEq] at hr
    have := vr_int ha; subst this
    have := vr_int hb; subst this
    obtain ⟨rfl, rfl⟩ := hr
    split at ht <;> simp at ht
    rename_i h
    rw [run_equalIn_int w d t _ _ _ _ h, beq_deci]
  | bool =>
    cases a <;> cases b <;> simp [atomEq] at hr
    have := vr_bool ha; subst this
    have := vr_bool hb; subst this
    subst hr
    split at ht <;> simp at ht
    rename_i h
    rw [run_equalIn_bool' w d t _ _ h]
  | str =>
    cases a <;> cases b <;> simp [atomEq] at hr
    have := vr_str ha; subst this
    have := vr_str hb; subst this
    subst hr
    split at ht <;> simp at ht
    rename_i h
    rw [run_equalIn_string w d t _ _ h, ByteArray.toList_mk, ByteArray.toList_mk, beq_dec]

theorem atoms_eq {P : Program} {w : World} {σ : List OB} {xs ys : Array Value} (d : Nat) : ∀ (fs : List Field) (n : Nat) (ks : List AK) (as bs : List AV) (r : Bool), atomsT P n fs = some ks → atomsEq ks as bs = some r →
    (∀ (i : Nat) c, as[i]? = some c → ∃ y, xs[n + i]? = some y ∧ VR w σ c y) → (∀ (i : Nat) c, bs[i]? = some c → ∃ y, ys[n + i]? = some y ∧ VR w σ c y) →
    (Op.eqFields (d + 1) xs ys fs).run P w = .ok r w := by
  intro fs
  induction fs with
  | nil =>
    intro n ks as bs r h1 h2 _ _
    cases h1
    cases as <;> cases bs <;> simp [atomsEq] at h2
    subst h2
    rfl
  | cons f fs ih =>
    intro n ks as bs r h1 h2 ha hb
    simp only [atomsT] at h1
    split at h1
    · rename_i k l hk hl
      split at h1
      · rename_i hf
        cases h1
        cases as with
        | nil => simp [atomsEq] at h2
        | cons a as =>
          cases bs with
          | nil => simp [atomsEq] at h2
          | cons b bs =>
            simp only [atomsEq] at h2
            split at h2
            · rename_i p q hp hq
              cases h2
              simp only [Bool.and_eq_true, decide_eq_true_eq, bne_iff_ne] at hf
              obtain ⟨y, hy, hy'⟩ := ha 0 a rfl
              obtain ⟨z, hz, hz'⟩ := hb 0 b rfl
              have hag : ∃ dd, P.underlying f.type = some dd ∧ aggD dd = false := by
                unfold atomT at hk
                split at hk <;> first | exact ⟨_, ‹_›, rfl⟩ | cases hk
              obtain ⟨dd, hd1, hd2⟩ := hag
              have hy0 : xs[n]? = some y := by simpa using hy
              have hz0 : ys[n]? = some z := by simpa using hz
              have e1 : (part f.type xs f.offset).run P w = .ok y w := by simp [part, run_agg hd1, hd2, hf.1, hy0]
              have e2 : (part f.type ys f.offset).run P w = .ok z w := by simp [part, run_agg hd1, hd2, hf.1, hz0]
              have e3 := atom_eq hk hy' hz' hp d
              have e4 := ih (n + 1) l as bs q hl hq (fun i c hc => by have := ha (i + 1) c (by simpa using hc); rwa [show n + (i + 1) = n + 1 + i from by omega] at this)
                (fun i c hc => by have := hb (i + 1) c (by simpa using hc); rwa [show n + (i + 1) = n + 1 + i from by omega] at this)
              simp only [Op.eqFields, hf.2, ne_eq, not_false_eq_true, if_true, Sem.run_bind, e1, e2, e3, Result.andThen_ok]
              cases p
              · simp
              · simpa using e4
            · cases h2
      · cases h1
    · cases h1


theorem ba_append (s u : List UInt8) : (ByteArray.mk s.toArray) ++ (ByteArray.mk u.toArray) = ByteArray.mk (s ++ u).toArray := by
  apply ByteArray.ext
  simp
theorem ba_extract (s : List UInt8) (a c : Nat) : (ByteArray.mk s.toArray).extract a c = ByteArray.mk ((s.drop a).take (c - a)).toArray := by
  apply ByteArray.ext
  simp [ByteArray.data_extract, List.take_drop, List.extract_eq_take_drop]
theorem ba_get (s : List UInt8) (i : Nat) : (ByteArray.mk s.toArray)[i]? = s[i]? := by
  by_cases h : i < s.length
  · have h' : i < (ByteArray.mk s.toArray).size := by simpa [ByteArray.size] using h
    rw [getElem?_pos _ i h', List.getElem?_eq_getElem h]
    rfl
  · have h' : ¬ i < (ByteArray.mk s.toArray).size := by simpa [ByteArray.size] using h
    rw [getElem?_neg _ i h', List.getElem?_eq_none (by omega)]
theorem ba_size (s : List UInt8) : (ByteArray.mk s.toArray).size = s.length := by simp [ByteArray.size]
theorem bin_run {P : Program} {w : World} {σ : List OB} {op : BinOp} {t : TypeId} {x y : AV} {u v : Value} (hx : VR w σ x u) (hy : VR w σ y v) (hok : binC op x y) :
    ∃ z, (Go.binOp op t u v).run P w = .ok z w ∧ VR w σ (binV op x y) z := by
  cases x <;> cases y <;> simp only [binC] at hok
  case int.int k a k' b =>
    have := vr_int hx; subst this
    have := vr_int hy; subst this
    cases op <;> simp only at hok
    case quo => obtain ⟨rfl, hb⟩ := hok; exact ⟨_, by simp [Go.binOp, Op.intDiv, hb], vr_i⟩
    case rem => obtain ⟨rfl, hb⟩ := hok; exact ⟨_, by simp [Go.binOp, Op.intDiv, hb], vr_i⟩
    case shl => exact ⟨_, by simp [Go.binOp, Op.shift, Int.not_lt.2 hok], vr_i⟩
    case shr => exact ⟨_, by simp [Go.binOp, Op.shift, Int.not_lt.2 hok], vr_i⟩
    all_goals subst hok
    case add => exact ⟨_, by simp [Go.binOp, Op.intArith], vr_i⟩
    case sub => exact ⟨_, by simp [Go.binOp, Op.intArith], vr_i⟩
    case mul => exact ⟨_, by simp [Go.binOp, Op.intArith], vr_i⟩
    case and => exact ⟨_, by simp [Go.binOp, Op.intBits], vr_i⟩
    case or => exact ⟨_, by simp [Go.binOp, Op.intBits], vr_i⟩
    case xor => exact ⟨_, by simp [Go.binOp, Op.intBits], vr_i⟩
    case andNot => exact ⟨_, by simp [Go.binOp, Op.intBits], vr_i⟩
    case eql => exact ⟨.bool (decide (a = b)), by simp [Go.binOp, Op.intCmp]; rfl, vr_b⟩
    case neq => exact ⟨.bool (!decide (a = b)), by simp [Go.binOp, Op.intCmp]; rfl, vr_b⟩
    case lss => exact ⟨.bool (decide (a < b)), by simp [Go.binOp, Op.intCmp], vr_b⟩
    case leq => exact ⟨.bool (decide (a ≤ b)), by simp [Go.binOp, Op.intCmp], vr_b⟩
    case gtr => exact ⟨.bool (decide (b < a)), by simp [Go.binOp, Op.intCmp], vr_b⟩
    case geq => exact ⟨.bool (decide (b ≤ a)), by simp [Go.binOp, Op.intCmp], vr_b⟩
  case str.str s u' =>
    have := vr_str hx; subst this
    have := vr_str hy; subst this
    cases op <;> simp only at hok
    case add =>
      refine ⟨.string ⟨(s ++ u').toArray⟩, ?_, vr_s⟩
      have h1 : ¬ (((((ByteArray.mk s.toArray).size + (ByteArray.mk u'.toArray).size : Nat) : Int)) > IntKind.i64.max) := by
        have : IntKind.i64.max = 9223372036854775807 := rfl
        rw [ba_size, ba_size]
        omega
      simp only [Go.binOp, Op.stringOp, if_neg h1, ba_append, Sem.run_pure]
    case eql => exact ⟨.bool (decide (s = u')), by simp [Go.binOp, Op.stringOp, beq_dec], vr_b⟩
    case neq => exact ⟨.bool (!decide (s = u')), by simp [Go.binOp, Op.stringOp, beq_dec], vr_b⟩
    case lss => exact ⟨.bool (Op.bytesLess s u'), by simp [Go.binOp, Op.stringOp], vr_b⟩
    case leq => exact ⟨.bool (Op.bytesLess s u' || decide (s = u')), by simp [Go.binOp, Op.stringOp, beq_dec], vr_b⟩
    case gtr => exact ⟨.bool (!(Op.bytesLess s u' || decide (s = u'))), by simp [Go.binOp, Op.stringOp, beq_dec], vr_b⟩
    case geq => exact ⟨.bool (!Op.bytesLess s u'), by simp [Go.binOp, Op.stringOp], vr_b⟩


theorem vrs_len {w : World} {σ : List OB} {vs : List AV} {xs : List Value} (h : VRs w σ vs xs) : vs.length = xs.length := h.1.symm

section nils
variable {P : Program} {w : World} {t : TypeId} (n : Nat)
theorem eqn_ptr {e : TypeId} (hd : P.underlying t = some (.pointer e)) (a : Option Addr) : (Op.equalIn (n + 1) t (.pointer a) (.pointer none)).run P w = .ok a.isNone w ∧ (Op.equalIn (n + 1) t (.pointer none) (.pointer a)).run P w = .ok a.isNone w := by
  cases a <;> constructor <;> simp only [Op.equalIn, Sem.run_bind, run_und hd, Result.andThen_ok, Sem.run_pure, Option.isNone]
theorem eqn_iface {m : Array (String × TypeId)} (hd : P.underlying t = some (.interface m)) : (Op.equalIn (n + 1) t .nilIface .nilIface).run P w = .ok true w ∧ ∀ u v, (Op.equalIn (n + 1) t (.iface u v) .nilIface).run P w = .ok false w ∧ (Op.equalIn (n + 1) t .nilIface (.iface u v)).run P w = .ok false w := by
  refine ⟨?_, fun u v => ⟨?_, ?_⟩⟩ <;> simp only [Op.equalIn, Sem.run_bind, run_und hd, Result.andThen_ok, Sem.run_pure]
theorem eqn_func {p r : Array TypeId} {v : Bool} (hd : P.underlying t = some (.func p r v)) : (Op.equalIn (n + 1) t .nilFunc .nilFunc).run P w = .ok true w ∧ ∀ f a b, (Op.equalIn (n + 1) t (.func f a b) .nilFunc).run P w = .ok false w ∧ (Op.equalIn (n + 1) t .nilFunc (.func f a b)).run P w = .ok false w := by
  refine ⟨?_, fun u v a => ⟨?_, ?_⟩⟩ <;> simp only [Op.equalIn, Sem.run_bind, run_und hd, Result.andThen_ok, Sem.run_pure]
theorem eqn_slice {e : TypeId} (hd : P.underlying t = some (.slice e)) : (Op.equalIn (n + 1) t (.slice none 0 0) (.slice none 0 0)).run P w = .ok true w := by
  simp only [Op.equalIn, Sem.run_bind, run_und hd, Result.andThen_ok, Sem.run_pure, Option.isNone]
theorem eqn_slice' {e : TypeId} (hd : P.underlying t = some (.slice e)) (a : Addr) (m c : Nat) : (Op.equalIn (n + 1) t (.slice (some a) m c) (.slice none 0 0)).run P w = .ok false w ∧ (Op.equalIn (n + 1) t (.slice none 0 0) (.slice (some a) m c)).run P w = .ok false w := by
  constructor <;> simp only [Op.equalIn, Sem.run_bind, run_und hd, Result.andThen_ok, Sem.run_pure, Option.isNone]
end nils

/-- Neither two numbers nor two strings. -/
def odd2 : Value → Value → Bool
  | .int .., .int .. | .float .., .float .. | .complex .., .complex .. | .string _, .string _ => false
  | _, _ => true

theorem bin_eq {P : Program} {w : World} {t : TypeId} {x y : Value} {b : Bool} (ho : odd2 x y = true) (h : (Op.equalIn 10000 t x y).run P w = .ok b w) :
    (Go.binOp .eql t x y).run P w = .ok (.bool b) w ∧ (Go.binOp .neq t x y).run P w = .ok (.bool (!b)) w := by
  have he : (Op.equal t x y).run P w = .ok b w := h
  constructor <;> (unfold Go.binOp; split <;> simp_all [odd2])

theorem isnil_run {P : Program} {w : World} {σ : List OB} {t : TypeId} {a : AV} {x : Value} {d : TypeDesc} {k : NK} (hd : P.underlying t = some d) (hk : nkOf d = some k) (ha : VR w σ a x)
    {b : Bool} (hb : nilTest k a = some b) {v : Value} (hv : isNilC k (.const v) = true) (n : Nat) :
    ((Op.equalIn (n + 1) t x v).run P w = .ok b w ∧ (Op.equalIn (n + 1) t v x).run P w = .ok b w) ∧ odd2 x v = true ∧ odd2 v x = true ∧ (∀ xs, v ≠ .agg xs) := by
  cases k with
  | ptr =>
    have hv' : v = .pointer none := by
      unfold isNilC at hv; split at hv <;> simp_all
    subst hv'
    cases d <;> simp [nkOf] at hk
    cases a <;> simp [nilTest] at hb <;> subst hb
    · obtain ⟨b, off, vals, rfl, _⟩ := vr_ip ha; exact ⟨eqn_ptr n hd _, rfl, rfl, by simp⟩
    · have := vr_nilp ha; subst this; exact ⟨eqn_ptr n hd _, rfl, rfl, by simp⟩
  | func =>
    have hv' : v = .nilFunc := by
      unfold isNilC at hv; split at hv <;> simp_all
    subst hv'
    cases d <;> simp [nkOf] at hk
    cases a <;> simp [nilTest] at hb <;> subst hb
    · obtain ⟨vs, us, rfl, _⟩ := vr_fn ha; exact ⟨(eqn_func n hd).2 _ _ _, rfl, rfl, by simp⟩
    · have := vr_nilfn ha; subst this; exact ⟨⟨(eqn_func n hd).1, (eqn_func n hd).1⟩, rfl, rfl, by simp⟩
  | iface =>
    have hv' : v = .nilIface := by
      unfold isNilC at hv; split at hv <;> simp_all
    subst hv'
    cases d <;> simp [nkOf] at hk
    cases a <;> simp [nilTest] at hb <;> subst hb
    · obtain ⟨u, z, rfl⟩ := vr_ifc ha; exact ⟨(eqn_iface n hd).2 _ _, rfl, rfl, by simp⟩
    · have := vr_nilif ha; subst this; exact ⟨⟨(eqn_iface n hd).1, (eqn_iface n hd).1⟩, rfl, rfl, by simp⟩
  | slice =>
    have hv' : v = .slice none 0 0 := by
      unfold isNilC at hv; split at hv <;> simp_all
    subst hv'
    cases d <;> simp [nkOf] at hk
    cases a <;> simp [nilTest] at hb <;> subst hb
    have := vr_nl ha; subst this; exact ⟨⟨eqn_slice n hd, eqn_slice n hd⟩, rfl, rfl, by simp⟩

end AF

/-
  AFI: calls of functions that are known; ends of functions.
-/
import Derived.Test.YtpnjpjibccmkiaaAfH
set_option linter.all false
set_option linter.unusedSimpArgs false
set_option linter.unusedVariables false
set_option linter.unusedSectionVars false
namespace AF
open Go
theorem callA_pure {P : Program} {f : Nat} {p : Bool} {vs : List AV} {d : Option Nat} {nx : Nx} {t : List AV} {h : List AObj} {r : AV} (hc : ACalls P f (strips vs) h r h) (hf : flags vs) (hn : nx (putA t d r) h) : callA P f p vs d nx t h :=
  ⟨hf, r, h, hc, fun _ => rfl, hn⟩
theorem callA_eff {P : Program} {f : Nat} {vs : List AV} {d : Option Nat} {nx : Nx} {t : List AV} {h h' : List AObj} {r : AV} (hc : ACalls P f (strips vs) h r h') (hf : flags vs) (hn : nx (putA t d r) h') : callA P f false vs d nx t h :=
  ⟨hf, r, h', hc, by simp, hn⟩
theorem callG_pure {P : Program} {f : Nat} {p g : Bool} {vs : List AV} {d : Option Nat} {nx : Nx} {t : List AV} {h : List AObj} {r : AV} (hc : g = true → flags vs ∧ ACalls P f (strips vs) h r h) (hn : nx (putA t d (.gd g r)) h) : callG P f p g vs d nx t h :=
  ⟨r, h, fun e => ⟨(hc e).1, (hc e).2, fun _ => rfl⟩, fun _ => rfl, hn⟩
theorem VLe_bool {a b : Bool} (h : a = b) : VLe (.bool a) (.bool b) := h ▸ VLe.refl _
theorem VLe_str {a b : List UInt8} (h : a = b) : VLe (.str a) (.str b) := h ▸ VLe.refl _
theorem VLes_same (l : List AV) : VLes l l := VLes.refl l
theorem VLe_sl0 {f g : Nat → List AV} : VLe (.sl 0 f) (.sl 0 g) := by
  intro w σ x hx
  have h1 := vr_still rfl hx
  cases h1 with
  | nilsl => exact .imm .nilsl
  | sl sz b off cap vals hn hm hb hlt hsz hc h1 hv => exact .imm (.sl sz b off cap vals hn hm hb hlt (by simp) (by simp) (by simp) (by simp))
theorem VLe_sl {n m : Nat} {f g : Nat → List AV} (e : n = m) (h : ∀ i, i < m → f i = g i) : VLe (.sl n f) (.sl m g) := by
  subst e
  intro w σ x hx
  have h1 := vr_still rfl hx
  cases h1 with
  | nilsl => exact .imm .nilsl
  | sl sz b off cap vals hn hm hb hlt hsz hc h1 hv =>
    refine .imm (.sl sz b off cap vals hn hm hb hlt (fun i hi => ?_) hc h1 (fun i j c hi hj => ?_))
    · rw [← h i hi]; exact hsz i hi
    · rw [← h i hi] at hj; exact hv i j c hi hj
theorem VLe_nl {f : Nat → List AV} : VLe .nl (.sl 0 f) := by
  intro w σ x hx
  have h1 := vr_still rfl hx
  cases h1 with
  | nl => exact .imm .nilsl
theorem VLe_tup {l m : List AV} (h : VLes l m) : VLe (.tup l) (.tup m) := by
  intro w σ x hx
  obtain ⟨vs, rfl, hl, hv⟩ := vr_tup hx
  refine .tup (by rw [hl, h.length]) (fun i c x hc hx => ?_)
  obtain ⟨a, ha, hle⟩ := h.get i c hc
  exact hle w σ x (hv i a x ha hx)
theorem VLe_agg {l m : List AV} (h : VLes l m) : VLe (.agg l) (.agg m) := by
  intro w σ x hx
  obtain ⟨vs, rfl, hl, h1, hv⟩ := vr_agg hx
  refine .agg (by rw [hl, h.length]) h1 (fun i c x hc hx => ?_)
  obtain ⟨a, ha, hle⟩ := h.get i c hc
  exact hle w σ x (hv i a x ha hx)
theorem VLes2 {a b : AV} {l m : List AV} (h : VLe a b) (h' : VLes l m) : VLes (a :: l) (b :: m) := ⟨h, h'⟩
def cellOk (v : AV) (h : List AObj) (m : Option Nat) : Prop :=
  match v with
  | .op k ver off => okL h (.load m) [.op k ver off]
  | _ => False
theorem rvsOk_cell {n : Nat} {m : Option Nat} {l : List RV} {t : List AV} {h : List AObj} : rvsOk t h (.cell n m :: l) = (cellOk (getA n t) h m ∧ rvsOk t h l) := rfl
theorem rvsVal_cell {n : Nat} {m : Option Nat} {l : List RV} {t : List AV} {h : List AObj} : rvsVal t h (.cell n m :: l) = valL h (.load m) [getA n t] :: rvsVal t h l := rfl
theorem cellOk_op {k ver off : Nat} {h : List AObj} {m : Option Nat} : cellOk (.op k ver off) h m = okL h (.load m) [.op k ver off] := rfl
attribute [go_sem] rvsOk_cell rvsVal_cell cellOk_op
theorem atomsEq_nil : atomsEq [] [] [] = some true := rfl
theorem atomsEq_int {ks : List AK} {k : IntKind} {a c : Int} {l m : List AV} : atomsEq (.int :: ks) (.int k a :: l) (.int k c :: m) = (atomsEq ks l m).map (fun y => decide (a = c) && y) := by
  simp only [atomsEq, atomEq, if_true]
  cases atomsEq ks l m <;> rfl
theorem atomsEq_bool {ks : List AK} {a c : Bool} {l m : List AV} : atomsEq (.bool :: ks) (.bool a :: l) (.bool c :: m) = (atomsEq ks l m).map (fun y => (a == c) && y) := by
  simp only [atomsEq, atomEq]
  cases atomsEq ks l m <;> rfl
theorem atomsEq_str {ks : List AK} {a c : List UInt8} {l m : List AV} : atomsEq (.str :: ks) (.str a :: l) (.str c :: m) = (atomsEq ks l m).map (fun y => decide (a = c) && y) := by
  simp only [atomsEq, atomEq]
  cases atomsEq ks l m <;> rfl
attribute [go_sem] atomsEq_nil atomsEq_int atomsEq_bool atomsEq_str Option.map_some Bool.true_bne Bool.false_bne Bool.bne_false
theorem or_nand {a b : Bool} : (a || !a && b) = (a || b) := by cases a <;> simp
theorem beq_f {a : Bool} : (a == false) = !a := by cases a <;> rfl
attribute [go_sem] or_nand beq_f Bool.not_eq_true' Bool.or_eq_true decide_eq_false_iff_not Bool.or_eq_false_iff Bool.not_eq_false' Bool.and_eq_false_imp Bool.true_or Bool.or_true Bool.false_or Bool.true_and Bool.not_true Bool.not_false decide_not Bool.not_not
end AF

/-
  AFK: what comes out of a function: its own objects are seen as unchanging values.
-/
import Derived.Test.YtpnjpjibccmkiaaAfJ
set_option linter.all false
set_option linter.unusedSimpArgs false
set_option linter.unusedVariables false
set_option linter.unusedSectionVars false
namespace AF
open Go
def ipOf (c : Option (List AV)) (g : AV → AV) (off : Nat) : AV :=
  match c with
  | some cs => .ip ((cs.drop off).map g)
  | none => .undef
def slOf (o : Option AObj) (ver sz off len : Nat) (g : AV → AV) : AV :=
  match o with
  | some (.mem ve _ cs) => if ve = ver ∧ off + len * sz ≤ cs.length then .sl len (fun i => ((cs.drop (off + i * sz)).take sz).map g) else .undef
  | some (.emp ve) => if ve = ver then .nl else .undef
  | _ => .undef
section
variable {fz : Nat → Bool} {h : List AObj} {n k ver sz off len : Nat}
theorem rei_op : rei fz h (n + 1) (.op k ver off) = if fz k = true then ipOf (cellsOf h k ver) (rei fz h n) off else .undef := rfl
theorem rei_osl : rei fz h (n + 1) (.osl k ver sz off len) = if fz k = true then slOf (getO k h) ver sz off len (rei fz h n) else .undef := rfl
theorem frz_op : frz fz h (n + 1) (.op k ver off) = if fz k = true then rei fz h (n + 1) (.op k ver off) else .op k ver off := rfl
theorem frz_osl : frz fz h (n + 1) (.osl k ver sz off len) = if fz k = true then rei fz h (n + 1) (.osl k ver sz off len) else .osl k ver sz off len := rfl
theorem ipOf_some {cs : List AV} {g : AV → AV} : ipOf (some cs) g off = .ip ((cs.drop off).map g) := rfl
theorem slOf_mem {cs : List AV} {g : AV → AV} {ve : Nat} {ty : TypeId} : slOf (some (.mem ve ty cs)) ver sz off len g = if ve = ver ∧ off + len * sz ≤ cs.length then .sl len (fun i => ((cs.drop (off + i * sz)).take sz).map g) else .undef := rfl
theorem slOf_emp {g : AV → AV} {ve : Nat} : slOf (some (.emp ve)) ver sz off len g = if ve = ver then .nl else .undef := rfl
theorem rei_int {k : IntKind} {a : Int} : rei fz h (n + 1) (.int k a) = .int k a := rfl
theorem rei_bool {a : Bool} : rei fz h (n + 1) (.bool a) = .bool a := rfl
theorem rei_str {a : List UInt8} : rei fz h (n + 1) (.str a) = .str a := rfl
theorem rei_sl {m : Nat} {f : Nat → List AV} : rei fz h (n + 1) (.sl m f) = .sl m f := rfl
theorem rei_nl : rei fz h (n + 1) .nl = .nl := rfl
theorem rei_ip {cs : List AV} : rei fz h (n + 1) (.ip cs) = .ip cs := rfl
theorem rei_agg {cs : List AV} : rei fz h (n + 1) (.agg cs) = .agg (cs.map (rei fz h n)) := rfl
theorem rei_tup {cs : List AV} : rei fz h (n + 1) (.tup cs) = .tup (cs.map (rei fz h n)) := rfl
theorem rei_fn {f : Fn} {a b : List AV} : rei fz h (n + 1) (.fn f a b) = .fn f (a.map (rei fz h n)) (b.map (rei fz h n)) := rfl
theorem rei_nilp : rei fz h (n + 1) .nilp = .nilp := rfl
theorem rei_undef : rei fz h (n + 1) .undef = .undef := rfl
end
theorem decide_app {f : Nat → Bool} {k : Nat} : (decide (f k = true)) = f k := by cases f k <;> rfl
attribute [go_sem] rei_op rei_osl frz_op frz_osl ipOf_some slOf_mem slOf_emp rei_int rei_bool rei_str rei_sl rei_nl rei_ip rei_agg rei_tup rei_fn rei_nilp rei_undef Nat.le_add_right Nat.le_refl Nat.mul_one Nat.one_mul
theorem wg_callv {P : Program} {b : Nat} {r : List RO} {K : Nx} {t : List AV} {h : List AObj} {d : Option Nat} {xs : List X} {j : Nat} {u : Bool} : opsA P b (⟨d, some (j, u), .callv, xs⟩ :: r) K t h =
    (guardOk (getA j t) = true ∧ (guardA (getA j t) u = true → flags (evs t xs) ∧ callV P (strips (evs t xs)) d (opsA P b r K) t h) ∧ (guardA (getA j t) u = false → opsA P b r K (putA t d .undef) h)) := by simp only [opsA, stepO, stepB, R.kd]
theorem callV_yld {P : Program} {k : Nat} {args : List AV} {d : Option Nat} {nx : Nx} {t : List AV} {h : List AObj} : callV P (.yld k :: args) d nx t h = ((∃ s ts L, getO k h = some (.lp s ts L)) ∧ AYield P k args h fun v h' => nx (putA t d v) h') := (rfl)
theorem valP_not_undef : valP (.un .not) [.undef] = .bool true := rfl
theorem pickV_bub {g q : Bool} : pickV (.bool false) (.gd g .undef) (.bool q) = .bool q := rfl
attribute [go_sem] wg_callv callV_yld valP_not_undef pickV_bub true_implies false_implies Bool.false_eq_true Bool.true_eq_false
end AF

/-
  AfG: the walk's rewriting rules; written by the program gen_afg.py.
-/
import Derived.Test.YtpnjpjibccmkiaaAf4
set_option linter.all false
set_option linter.unusedSimpArgs false
set_option linter.unusedVariables false
set_option linter.unusedSectionVars false
namespace AF
open Go
set_option maxRecDepth 4000
def shlK (k : IntKind) (a c : Int) : Int := k.wrap (a * 2 ^ (min c.toNat k.bits))
def shrK (k : IntKind) (a c : Int) : Int := a.fdiv (2 ^ (min c.toNat k.bits))
def andK (k : IntKind) (a c : Int) : Int := k.wrap (BitVec.ofInt k.bits a &&& BitVec.ofInt k.bits c).toNat
def orK (k : IntKind) (a c : Int) : Int := k.wrap (BitVec.ofInt k.bits a ||| BitVec.ofInt k.bits c).toNat
def xorK (k : IntKind) (a c : Int) : Int := k.wrap (BitVec.ofInt k.bits a ^^^ BitVec.ofInt k.bits c).toNat
def andNotK (k : IntKind) (a c : Int) : Int := k.wrap (BitVec.ofInt k.bits a &&& ~~~ BitVec.ofInt k.bits c).toNat
theorem getA_0 {a0 : AV} {r : List AV} : getA 0 (a0 :: r) = a0 := rfl
theorem setA_0 {a0 v : AV} {r : List AV} : setA 0 (a0 :: r) v = v :: r := rfl
theorem getA_1 {a0 a1 : AV} {r : List AV} : getA 1 (a0 :: a1 :: r) = a1 := rfl
theorem setA_1 {a0 a1 v : AV} {r : List AV} : setA 1 (a0 :: a1 :: r) v = a0 :: v :: r := rfl
theorem getA_2 {a0 a1 a2 : AV} {r : List AV} : getA 2 (a0 :: a1 :: a2 :: r) = a2 := rfl
theorem setA_2 {a0 a1 a2 v : AV} {r : List AV} : setA 2 (a0 :: a1 :: a2 :: r) v = a0 :: a1 :: v :: r := rfl
theorem getA_3 {a0 a1 a2 a3 : AV} {r : List AV} : getA 3 (a0 :: a1 :: a2 :: a3 :: r) = a3 := rfl
theorem setA_3 {a0 a1 a2 a3 v : AV} {r : List AV} : setA 3 (a0 :: a1 :: a2 :: a3 :: r) v = a0 :: a1 :: a2 :: v :: r := rfl
theorem getA_4 {a0 a1 a2 a3 a4 : AV} {r : List AV} : getA 4 (a0 :: a1 :: a2 :: a3 :: a4 :: r) = a4 := rfl
theorem setA_4 {a0 a1 a2 a3 a4 v : AV} {r : List AV} : setA 4 (a0 :: a1 :: a2 :: a3 :: a4 :: r) v = a0 :: a1 :: a2 :: a3 :: v :: r := rfl
theorem getA_5 {a0 a1 a2 a3 a4 a5 : AV} {r : List AV} : getA 5 (a0 :: a1 :: a2 :: a3 :: a4 :: a5 :: r) = a5 := rfl
theorem setA_5 {a0 a1 a2 a3 a4 a5 v : AV} {r : List AV} : setA 5 (a0 :: a1 :: a2 :: a3 :: a4 :: a5 :: r) v = a0 :: a1 :: a2 :: a3 :: a4 :: v :: r := rfl
theorem getA_6 {a0 a1 a2 a3 a4 a5 a6 : AV} {r : List AV} : getA 6 (a0 :: a1 :: a2 :: a3 :: a4 :: a5 :: a6 :: r) = a6 := rfl
theorem setA_6 {a0 a1 a2 a3 a4 a5 a6 v : AV} {r : List AV} : setA 6 (a0 :: a1 :: a2 :: a3 :: a4 :: a5 :: a6 :: r) v = a0 :: a1 :: a2 :: a3 :: a4 :: a5 :: v :: r := rfl
theorem getA_7 {a0 a1 a2 a3 a4 a5 a6 a7 : AV} {r : List AV} : getA 7 (a0 :: a1 :: a2 :: a3 :: a4 :: a5 :: a6 :: a7 :: r) = a7 := rfl
theorem setA_7 {a0 a1 a2 a3 a4 a5 a6 a7 v : AV} {r : List AV} : setA 7 (a0 :: a1 :: a2 :: a3 :: a4 :: a5 :: a6 :: a7 :: r) v = a0 :: a1 :: a2 :: a3 :: a4 :: a5 :: a6 :: v :: r := rfl
theorem getA_s8 {n : Nat} {a0 a1 a2 a3 a4 a5 a6 a7 : AV} {r : List AV} : getA (n + 8) (a0 :: a1 :: a2 :: a3 :: a4 :: a5 :: a6 :: a7 :: r) = getA n r := rfl
theorem setA_s8 {n : Nat} {a0 a1 a2 a3 a4 a5 a6 a7 v : AV} {r : List AV} : setA (n + 8) (a0 :: a1 :: a2 :: a3 :: a4 :: a5 :: a6 :: a7 :: r) v = a0 :: a1 :: a2 :: a3 :: a4 :: a5 :: a6 :: a7 :: setA n r v := rfl
theorem getA_s32 {n : Nat} {a0 a1 a2 a3 a4 a5 a6 a7 a8 a9 a10 a11 a12 a13 a14 a15 a16 a17 a18 a19 a20 a21 a22 a23 a24 a25 a26 a27 a28 a29 a30 a31 : AV} {r : List AV} : getA (n + 32) (a0 :: a1 :: a2 :: a3 :: a4 :: a5 :: a6 :: a7 :: a8 :: a9 :: a10 :: a11 :: a12 :: a13 :: a14 :: a15 :: a16 :: a17 :: a18 :: a19 :: a20 :: a21 :: a22 :: a23 :: a24 :: a25 :: a26 :: a27 :: a28 :: a29 :: a30 :: a31 :: r) = getA n r := rfl
theorem setA_s32 {n : Nat} {a0 a1 a2 a3 a4 a5 a6 a7 a8 a9 a10 a11 a12 a13 a14 a15 a16 a17 a18 a19 a20 a21 a22 a23 a24 a25 a26 a27 a28 a29 a30 a31 v : AV} {r : List AV} : setA (n + 32) (a0 :: a1 :: a2 :: a3 :: a4 :: a5 :: a6 :: a7 :: a8 :: a9 :: a10 :: a11 :: a12 :: a13 :: a14 :: a15 :: a16 :: a17 :: a18 :: a19 :: a20 :: a21 :: a22 :: a23 :: a24 :: a25 :: a26 :: a27 :: a28 :: a29 :: a30 :: a31 :: r) v = a0 :: a1 :: a2 :: a3 :: a4 :: a5 :: a6 :: a7 :: a8 :: a9 :: a10 :: a11 :: a12 :: a13 :: a14 :: a15 :: a16 :: a17 :: a18 :: a19 :: a20 :: a21 :: a22 :: a23 :: a24 :: a25 :: a26 :: a27 :: a28 :: a29 :: a30 :: a31 :: setA n r v := rfl
theorem ev_t {t : List AV} {n : Nat} : ev t (.t n) = getA n t := rfl
theorem ev_c {t : List AV} {v : AV} : ev t (.c v) = v := rfl
theorem strip_bool {b : Bool} : (AV.bool b).strip = (AV.bool b) := rfl
theorem flag_bool {b : Bool} : (AV.bool b).flag = true := rfl
theorem solid_bool {b : Bool} : (AV.bool b).solid = true := rfl
theorem cells_bool {b : Bool} : (AV.bool b).cells = [(AV.bool b)] := rfl
theorem strip_int {k : IntKind} {n : Int} : (AV.int k n).strip = (AV.int k n) := rfl
theorem flag_int {k : IntKind} {n : Int} : (AV.int k n).flag = true := rfl
theorem solid_int {k : IntKind} {n : Int} : (AV.int k n).solid = true := rfl
theorem cells_int {k : IntKind} {n : Int} : (AV.int k n).cells = [(AV.int k n)] := rfl
theorem strip_str {s : List UInt8} : (AV.str s).strip = (AV.str s) := rfl
theorem flag_str {s : List UInt8} : (AV.str s).flag = true := rfl
theorem solid_str {s : List UInt8} : (AV.str s).solid = true := rfl
theorem cells_str {s : List UInt8} : (AV.str s).cells = [(AV.str s)] := rfl
theorem strip_sl {n : Nat} {f : Nat → List AV} : (AV.sl n f).strip = (AV.sl n f) := rfl
theorem flag_sl {n : Nat} {f : Nat → List AV} : (AV.sl n f).flag = true := rfl
theorem solid_sl {n : Nat} {f : Nat → List AV} : (AV.sl n f).solid = true := rfl
theorem cells_sl {n : Nat} {f : Nat → List AV} : (AV.sl n f).cells = [(AV.sl n f)] := rfl
theorem strip_osl {k v s p l : Nat} : (AV.osl k v s p l).strip = (AV.osl k v s p l) := rfl
theorem flag_osl {k v s p l : Nat} : (AV.osl k v s p l).flag = true := rfl
theorem solid_osl {k v s p l : Nat} : (AV.osl k v s p l).solid = true := rfl
theorem cells_osl {k v s p l : Nat} : (AV.osl k v s p l).cells = [(AV.osl k v s p l)] := rfl
theorem strip_agg {c : List AV} : (AV.agg c).strip = (AV.agg c) := rfl
theorem flag_agg {c : List AV} : (AV.agg c).flag = true := rfl
theorem solid_agg {c : List AV} : (AV.agg c).solid = true := rfl
theorem strip_tup {c : List AV} : (AV.tup c).strip = (AV.tup c) := rfl
theorem flag_tup {c : List AV} : (AV.tup c).flag = true := rfl
theorem cells_tup {c : List AV} : (AV.tup c).cells = [(AV.tup c)] := rfl
theorem strip_ip {c : List AV} : (AV.ip c).strip = (AV.ip c) := rfl
theorem flag_ip {c : List AV} : (AV.ip c).flag = true := rfl
theorem solid_ip {c : List AV} : (AV.ip c).solid = true := rfl
theorem cells_ip {c : List AV} : (AV.ip c).cells = [(AV.ip c)] := rfl
theorem strip_op {k v p : Nat} : (AV.op k v p).strip = (AV.op k v p) := rfl
theorem flag_op {k v p : Nat} : (AV.op k v p).flag = true := rfl
theorem solid_op {k v p : Nat} : (AV.op k v p).solid = true := rfl
theorem cells_op {k v p : Nat} : (AV.op k v p).cells = [(AV.op k v p)] := rfl
theorem strip_nilp  : AV.nilp.strip = AV.nilp := rfl
theorem flag_nilp  : AV.nilp.flag = true := rfl
theorem solid_nilp  : AV.nilp.solid = true := rfl
theorem cells_nilp  : AV.nilp.cells = [AV.nilp] := rfl
theorem strip_nl  : AV.nl.strip = AV.nl := rfl
theorem flag_nl  : AV.nl.flag = true := rfl
theorem solid_nl  : AV.nl.solid = true := rfl
theorem cells_nl  : AV.nl.cells = [AV.nl] := rfl
theorem strip_fn {f : Fn} {a c : List AV} : (AV.fn f a c).strip = (AV.fn f a c) := rfl
theorem flag_fn {f : Fn} {a c : List AV} : (AV.fn f a c).flag = true := rfl
theorem solid_fn {f : Fn} {a c : List AV} : (AV.fn f a c).solid = true := rfl
theorem cells_fn {f : Fn} {a c : List AV} : (AV.fn f a c).cells = [(AV.fn f a c)] := rfl
theorem strip_yld {k : Nat} : (AV.yld k).strip = (AV.yld k) := rfl
theorem flag_yld {k : Nat} : (AV.yld k).flag = true := rfl
theorem solid_yld {k : Nat} : (AV.yld k).solid = true := rfl
theorem cells_yld {k : Nat} : (AV.yld k).cells = [(AV.yld k)] := rfl
theorem strip_nilfn  : AV.nilfn.strip = AV.nilfn := rfl
theorem flag_nilfn  : AV.nilfn.flag = true := rfl
theorem solid_nilfn  : AV.nilfn.solid = true := rfl
theorem cells_nilfn  : AV.nilfn.cells = [AV.nilfn] := rfl
theorem strip_ifc  : AV.ifc.strip = AV.ifc := rfl
theorem flag_ifc  : AV.ifc.flag = true := rfl
theorem solid_ifc  : AV.ifc.solid = true := rfl
theorem cells_ifc  : AV.ifc.cells = [AV.ifc] := rfl
theorem strip_nilif  : AV.nilif.strip = AV.nilif := rfl
theorem flag_nilif  : AV.nilif.flag = true := rfl
theorem solid_nilif  : AV.nilif.solid = true := rfl
theorem cells_nilif  : AV.nilif.cells = [AV.nilif] := rfl
theorem strip_undef : AV.undef.strip = AV.undef := rfl
theorem flag_undef : AV.undef.flag = true := rfl
theorem cells_agg {c : List AV} : (AV.agg c).cells = c := rfl
theorem strip_gd {g : Bool} {v : AV} : (AV.gd g v).strip = v := rfl
theorem flag_gd {g : Bool} {v : AV} : (AV.gd g v).flag = g := rfl
theorem w_mv {P : Program} {b : Nat} {r : List RO} {K : Nx} {t : List AV} {h : List AObj} {d : Nat}  {x : X} : opsA P b (⟨some d, none, .mv, [x]⟩ :: r) K t h = ((ev t x).flag = true ∧ opsA P b r K (setA d t ((ev t x).strip)) h) := by simp only [opsA, stepO, stepA, R.kd, evs, flags, strips, putA, okP, okL, valP, valL, and_true, true_and, and_assoc]
theorem wg_mv {P : Program} {b : Nat} {r : List RO} {K : Nx} {t : List AV} {h : List AObj} {d : Nat}  {x : X} {j : Nat} {u : Bool} : opsA P b (⟨some d, some (j, u), .mv, [x]⟩ :: r) K t h = (guardOk (getA j t) = true ∧ (guardA (getA j t) u = true → (ev t x).flag = true) ∧ opsA P b r K (setA d t (.gd (guardA (getA j t) u) ((ev t x).strip))) h) := by simp only [opsA, stepO, stepB, R.kd, evs, flags, strips, putA, okP, okL, valP, valL, and_true, true_and, and_assoc]
theorem w_bin {P : Program} {b : Nat} {r : List RO} {K : Nx} {t : List AV} {h : List AObj} {d : Nat} {q : BinOp} {x y : X} : opsA P b (⟨some d, none, .bin q, [x, y]⟩ :: r) K t h = ((ev t x).flag = true ∧ (ev t y).flag = true ∧ binC q (ev t x).strip (ev t y).strip ∧ opsA P b r K (setA d t (binV q (ev t x).strip (ev t y).strip)) h) := by simp only [opsA, stepO, stepA, R.kd, evs, flags, strips, putA, okP, okL, valP, valL, and_true, true_and, and_assoc]
theorem wg_bin {P : Program} {b : Nat} {r : List RO} {K : Nx} {t : List AV} {h : List AObj} {d : Nat} {q : BinOp} {x y : X} {j : Nat} {u : Bool} : opsA P b (⟨some d, some (j, u), .bin q, [x, y]⟩ :: r) K t h = (guardOk (getA j t) = true ∧ (guardA (getA j t) u = true → (ev t x).flag = true ∧ (ev t y).flag = true ∧ binC q (ev t x).strip (ev t y).strip) ∧ opsA P b r K (setA d t (.gd (guardA (getA j t) u) (binV q (ev t x).strip (ev t y).strip))) h) := by simp only [opsA, stepO, stepB, R.kd, evs, flags, strips, putA, okP, okL, valP, valL, and_true, true_and, and_assoc]
theorem w_bool {P : Program} {b : Nat} {r : List RO} {K : Nx} {t : List AV} {h : List AObj} {d : Nat} {n : Bool} {xs : List X} : opsA P b (⟨some d, none, .bool n, xs⟩ :: r) K t h = (flags (evs t xs) ∧ okP (.bool n) (strips (evs t xs)) ∧ opsA P b r K (setA d t (valP (.bool n) (strips (evs t xs)))) h) := by simp only [opsA, stepO, stepA, R.kd, putA]
theorem wg_bool {P : Program} {b : Nat} {r : List RO} {K : Nx} {t : List AV} {h : List AObj} {d : Nat} {n : Bool} {xs : List X} {j : Nat} {u : Bool} : opsA P b (⟨some d, some (j, u), .bool n, xs⟩ :: r) K t h = (guardOk (getA j t) = true ∧ (guardA (getA j t) u = true → flags (evs t xs) ∧ okP (.bool n) (strips (evs t xs))) ∧ opsA P b r K (setA d t (.gd (guardA (getA j t) u) (valP (.bool n) (strips (evs t xs))))) h) := by simp only [opsA, stepO, stepB, R.kd, putA]
theorem w_un {P : Program} {b : Nat} {r : List RO} {K : Nx} {t : List AV} {h : List AObj} {d : Nat} {q : UnOp} {xs : List X} : opsA P b (⟨some d, none, .un q, xs⟩ :: r) K t h = (flags (evs t xs) ∧ okP (.un q) (strips (evs t xs)) ∧ opsA P b r K (setA d t (valP (.un q) (strips (evs t xs)))) h) := by simp only [opsA, stepO, stepA, R.kd, putA]
theorem wg_un {P : Program} {b : Nat} {r : List RO} {K : Nx} {t : List AV} {h : List AObj} {d : Nat} {q : UnOp} {xs : List X} {j : Nat} {u : Bool} : opsA P b (⟨some d, some (j, u), .un q, xs⟩ :: r) K t h = (guardOk (getA j t) = true ∧ (guardA (getA j t) u = true → flags (evs t xs) ∧ okP (.un q) (strips (evs t xs))) ∧ opsA P b r K (setA d t (.gd (guardA (getA j t) u) (valP (.un q) (strips (evs t xs))))) h) := by simp only [opsA, stepO, stepB, R.kd, putA]
theorem w_conv {P : Program} {b : Nat} {r : List RO} {K : Nx} {t : List AV} {h : List AObj} {d : Nat} {k : IntKind} {xs : List X} : opsA P b (⟨some d, none, .conv k, xs⟩ :: r) K t h = (flags (evs t xs) ∧ okP (.conv k) (strips (evs t xs)) ∧ opsA P b r K (setA d t (valP (.conv k) (strips (evs t xs)))) h) := by simp only [opsA, stepO, stepA, R.kd, putA]
theorem wg_conv {P : Program} {b : Nat} {r : List RO} {K : Nx} {t : List AV} {h : List AObj} {d : Nat} {k : IntKind} {xs : List X} {j : Nat} {u : Bool} : opsA P b (⟨some d, some (j, u), .conv k, xs⟩ :: r) K t h = (guardOk (getA j t) = true ∧ (guardA (getA j t) u = true → flags (evs t xs) ∧ okP (.conv k) (strips (evs t xs))) ∧ opsA P b r K (setA d t (.gd (guardA (getA j t) u) (valP (.conv k) (strips (evs t xs))))) h) := by simp only [opsA, stepO, stepB, R.kd, putA]
theorem w_isnil {P : Program} {b : Nat} {r : List RO} {K : Nx} {t : List AV} {h : List AObj} {d : Nat} {k : NK} {n : Bool} {xs : List X} : opsA P b (⟨some d, none, .isnil k n, xs⟩ :: r) K t h = (flags (evs t xs) ∧ okP (.isnil k n) (strips (evs t xs)) ∧ opsA P b r K (setA d t (valP (.isnil k n) (strips (evs t xs)))) h) := by simp only [opsA, stepO, stepA, R.kd, putA]
theorem wg_isnil {P : Program} {b : Nat} {r : List RO} {K : Nx} {t : List AV} {h : List AObj} {d : Nat} {k : NK} {n : Bool} {xs : List X} {j : Nat} {u : Bool} : opsA P b (⟨some d, some (j, u), .isnil k n, xs⟩ :: r) K t h = (guardOk (getA j t) = true ∧ (guardA (getA j t) u = true → flags (evs t xs) ∧ okP (.isnil k n) (strips (evs t xs))) ∧ opsA P b r K (setA d t (.gd (guardA (getA j t) u) (valP (.isnil k n) (strips (evs t xs))))) h) := by simp only [opsA, stepO, stepB, R.kd, putA]
theorem w_aeq {P : Program} {b : Nat} {r : List RO} {K : Nx} {t : List AV} {h : List AObj} {d : Nat} {ks : List AK} {n : Bool} {xs : List X} : opsA P b (⟨some d, none, .aeq ks n, xs⟩ :: r) K t h = (flags (evs t xs) ∧ okP (.aeq ks n) (strips (evs t xs)) ∧ opsA P b r K (setA d t (valP (.aeq ks n) (strips (evs t xs)))) h) := by simp only [opsA, stepO, stepA, R.kd, putA]
theorem wg_aeq {P : Program} {b : Nat} {r : List RO} {K : Nx} {t : List AV} {h : List AObj} {d : Nat} {ks : List AK} {n : Bool} {xs : List X} {j : Nat} {u : Bool} : opsA P b (⟨some d, some (j, u), .aeq ks n, xs⟩ :: r) K t h = (guardOk (getA j t) = true ∧ (guardA (getA j t) u = true → flags (evs t xs) ∧ okP (.aeq ks n) (strips (evs t xs))) ∧ opsA P b r K (setA d t (.gd (guardA (getA j t) u) (valP (.aeq ks n) (strips (evs t xs))))) h) := by simp only [opsA, stepO, stepB, R.kd, putA]
theorem w_fld {P : Program} {b : Nat} {r : List RO} {K : Nx} {t : List AV} {h : List AObj} {d : Nat} {p : Nat} {n : Option Nat} {xs : List X} : opsA P b (⟨some d, none, .fld p n, xs⟩ :: r) K t h = (flags (evs t xs) ∧ okP (.fld p n) (strips (evs t xs)) ∧ opsA P b r K (setA d t (valP (.fld p n) (strips (evs t xs)))) h) := by simp only [opsA, stepO, stepA, R.kd, putA]
theorem wg_fld {P : Program} {b : Nat} {r : List RO} {K : Nx} {t : List AV} {h : List AObj} {d : Nat} {p : Nat} {n : Option Nat} {xs : List X} {j : Nat} {u : Bool} : opsA P b (⟨some d, some (j, u), .fld p n, xs⟩ :: r) K t h = (guardOk (getA j t) = true ∧ (guardA (getA j t) u = true → flags (evs t xs) ∧ okP (.fld p n) (strips (evs t xs))) ∧ opsA P b r K (setA d t (.gd (guardA (getA j t) u) (valP (.fld p n) (strips (evs t xs))))) h) := by simp only [opsA, stepO, stepB, R.kd, putA]
theorem w_ext {P : Program} {b : Nat} {r : List RO} {K : Nx} {t : List AV} {h : List AObj} {d : Nat} {i : Nat} {xs : List X} : opsA P b (⟨some d, none, .ext i, xs⟩ :: r) K t h = (flags (evs t xs) ∧ okP (.ext i) (strips (evs t xs)) ∧ opsA P b r K (setA d t (valP (.ext i) (strips (evs t xs)))) h) := by simp only [opsA, stepO, stepA, R.kd, putA]
theorem wg_ext {P : Program} {b : Nat} {r : List RO} {K : Nx} {t : List AV} {h : List AObj} {d : Nat} {i : Nat} {xs : List X} {j : Nat} {u : Bool} : opsA P b (⟨some d, some (j, u), .ext i, xs⟩ :: r) K t h = (guardOk (getA j t) = true ∧ (guardA (getA j t) u = true → flags (evs t xs) ∧ okP (.ext i) (strips (evs t xs))) ∧ opsA P b r K (setA d t (.gd (guardA (getA j t) u) (valP (.ext i) (strips (evs t xs))))) h) := by simp only [opsA, stepO, stepB, R.kd, putA]
theorem w_build {P : Program} {b : Nat} {r : List RO} {K : Nx} {t : List AV} {h : List AObj} {d : Nat} {z : List AV} {ps : List (Nat × Nat)} {xs : List X} : opsA P b (⟨some d, none, .build z ps, xs⟩ :: r) K t h = (flags (evs t xs) ∧ okP (.build z ps) (strips (evs t xs)) ∧ opsA P b r K (setA d t (valP (.build z ps) (strips (evs t xs)))) h) := by simp only [opsA, stepO, stepA, R.kd, putA]
theorem wg_build {P : Program} {b : Nat} {r : List RO} {K : Nx} {t : List AV} {h : List AObj} {d : Nat} {z : List AV} {ps : List (Nat × Nat)} {xs : List X} {j : Nat} {u : Bool} : opsA P b (⟨some d, some (j, u), .build z ps, xs⟩ :: r) K t h = (guardOk (getA j t) = true ∧ (guardA (getA j t) u = true → flags (evs t xs) ∧ okP (.build z ps) (strips (evs t xs))) ∧ opsA P b r K (setA d t (.gd (guardA (getA j t) u) (valP (.build z ps) (strips (evs t xs))))) h) := by simp only [opsA, stepO, stepB, R.kd, putA]
theorem w_mkfn {P : Program} {b : Nat} {r : List RO} {K : Nx} {t : List AV} {h : List AObj} {d : Nat} {f : Fn} {n : Nat} {xs : List X} : opsA P b (⟨some d, none, .mkfn f n, xs⟩ :: r) K t h = (flags (evs t xs) ∧ okP (.mkfn f n) (strips (evs t xs)) ∧ opsA P b r K (setA d t (valP (.mkfn f n) (strips (evs t xs)))) h) := by simp only [opsA, stepO, stepA, R.kd, putA]
theorem wg_mkfn {P : Program} {b : Nat} {r : List RO} {K : Nx} {t : List AV} {h : List AObj} {d : Nat} {f : Fn} {n : Nat} {xs : List X} {j : Nat} {u : Bool} : opsA P b (⟨some d, some (j, u), .mkfn f n, xs⟩ :: r) K t h = (guardOk (getA j t) = true ∧ (guardA (getA j t) u = true → flags (evs t xs) ∧ okP (.mkfn f n) (strips (evs t xs))) ∧ opsA P b r K (setA d t (.gd (guardA (getA j t) u) (valP (.mkfn f n) (strips (evs t xs))))) h) := by simp only [opsA, stepO, stepB, R.kd, putA]
theorem w_slen {P : Program} {b : Nat} {r : List RO} {K : Nx} {t : List AV} {h : List AObj} {d : Nat}  {xs : List X} : opsA P b (⟨some d, none, .slen, xs⟩ :: r) K t h = (flags (evs t xs) ∧ okP (.slen) (strips (evs t xs)) ∧ opsA P b r K (setA d t (valP (.slen) (strips (evs t xs)))) h) := by simp only [opsA, stepO, stepA, R.kd, putA]
theorem wg_slen {P : Program} {b : Nat} {r : List RO} {K : Nx} {t : List AV} {h : List AObj} {d : Nat}  {xs : List X} {j : Nat} {u : Bool} : opsA P b (⟨some d, some (j, u), .slen, xs⟩ :: r) K t h = (guardOk (getA j t) = true ∧ (guardA (getA j t) u = true → flags (evs t xs) ∧ okP (.slen) (strips (evs t xs))) ∧ opsA P b r K (setA d t (.gd (guardA (getA j t) u) (valP (.slen) (strips (evs t xs))))) h) := by simp only [opsA, stepO, stepB, R.kd, putA]
theorem w_sidx {P : Program} {b : Nat} {r : List RO} {K : Nx} {t : List AV} {h : List AObj} {d : Nat}  {xs : List X} : opsA P b (⟨some d, none, .sidx, xs⟩ :: r) K t h = (flags (evs t xs) ∧ okP (.sidx) (strips (evs t xs)) ∧ opsA P b r K (setA d t (valP (.sidx) (strips (evs t xs)))) h) := by simp only [opsA, stepO, stepA, R.kd, putA]
theorem wg_sidx {P : Program} {b : Nat} {r : List RO} {K : Nx} {t : List AV} {h : List AObj} {d : Nat}  {xs : List X} {j : Nat} {u : Bool} : opsA P b (⟨some d, some (j, u), .sidx, xs⟩ :: r) K t h = (guardOk (getA j t) = true ∧ (guardA (getA j t) u = true → flags (evs t xs) ∧ okP (.sidx) (strips (evs t xs))) ∧ opsA P b r K (setA d t (.gd (guardA (getA j t) u) (valP (.sidx) (strips (evs t xs))))) h) := by simp only [opsA, stepO, stepB, R.kd, putA]
theorem w_sslc {P : Program} {b : Nat} {r : List RO} {K : Nx} {t : List AV} {h : List AObj} {d : Nat} {lo hi : Bool} {xs : List X} : opsA P b (⟨some d, none, .sslc lo hi, xs⟩ :: r) K t h = (flags (evs t xs) ∧ okP (.sslc lo hi) (strips (evs t xs)) ∧ opsA P b r K (setA d t (valP (.sslc lo hi) (strips (evs t xs)))) h) := by simp only [opsA, stepO, stepA, R.kd, putA]
theorem wg_sslc {P : Program} {b : Nat} {r : List RO} {K : Nx} {t : List AV} {h : List AObj} {d : Nat} {lo hi : Bool} {xs : List X} {j : Nat} {u : Bool} : opsA P b (⟨some d, some (j, u), .sslc lo hi, xs⟩ :: r) K t h = (guardOk (getA j t) = true ∧ (guardA (getA j t) u = true → flags (evs t xs) ∧ okP (.sslc lo hi) (strips (evs t xs))) ∧ opsA P b r K (setA d t (.gd (guardA (getA j t) u) (valP (.sslc lo hi) (strips (evs t xs))))) h) := by simp only [opsA, stepO, stepB, R.kd, putA]
theorem w_mm {P : Program} {b : Nat} {r : List RO} {K : Nx} {t : List AV} {h : List AObj} {d : Nat} {m : Bool} {xs : List X} : opsA P b (⟨some d, none, .mm m, xs⟩ :: r) K t h = (flags (evs t xs) ∧ okP (.mm m) (strips (evs t xs)) ∧ opsA P b r K (setA d t (valP (.mm m) (strips (evs t xs)))) h) := by simp only [opsA, stepO, stepA, R.kd, putA]
theorem wg_mm {P : Program} {b : Nat} {r : List RO} {K : Nx} {t : List AV} {h : List AObj} {d : Nat} {m : Bool} {xs : List X} {j : Nat} {u : Bool} : opsA P b (⟨some d, some (j, u), .mm m, xs⟩ :: r) K t h = (guardOk (getA j t) = true ∧ (guardA (getA j t) u = true → flags (evs t xs) ∧ okP (.mm m) (strips (evs t xs))) ∧ opsA P b r K (setA d t (.gd (guardA (getA j t) u) (valP (.mm m) (strips (evs t xs))))) h) := by simp only [opsA, stepO, stepB, R.kd, putA]
theorem w_len {P : Program} {b : Nat} {r : List RO} {K : Nx} {t : List AV} {h : List AObj} {d : Nat}  {xs : List X} : opsA P b (⟨some d, none, .len, xs⟩ :: r) K t h = (flags (evs t xs) ∧ okL h (.len) (strips (evs t xs)) ∧ opsA P b r K (setA d t (valL h (.len) (strips (evs t xs)))) h) := by simp only [opsA, stepO, stepA, R.kd, putA]
theorem wg_len {P : Program} {b : Nat} {r : List RO} {K : Nx} {t : List AV} {h : List AObj} {d : Nat}  {xs : List X} {j : Nat} {u : Bool} : opsA P b (⟨some d, some (j, u), .len, xs⟩ :: r) K t h = (guardOk (getA j t) = true ∧ (guardA (getA j t) u = true → flags (evs t xs) ∧ okL h (.len) (strips (evs t xs))) ∧ opsA P b r K (setA d t (.gd (guardA (getA j t) u) (valL h (.len) (strips (evs t xs))))) h) := by simp only [opsA, stepO, stepB, R.kd, putA]
theorem w_idxA {P : Program} {b : Nat} {r : List RO} {K : Nx} {t : List AV} {h : List AObj} {d : Nat} {z : Nat} {xs : List X} : opsA P b (⟨some d, none, .idxA z, xs⟩ :: r) K t h = (flags (evs t xs) ∧ okL h (.idxA z) (strips (evs t xs)) ∧ opsA P b r K (setA d t (valL h (.idxA z) (strips (evs t xs)))) h) := by simp only [opsA, stepO, stepA, R.kd, putA]
theorem wg_idxA {P : Program} {b : Nat} {r : List RO} {K : Nx} {t : List AV} {h : List AObj} {d : Nat} {z : Nat} {xs : List X} {j : Nat} {u : Bool} : opsA P b (⟨some d, some (j, u), .idxA z, xs⟩ :: r) K t h = (guardOk (getA j t) = true ∧ (guardA (getA j t) u = true → flags (evs t xs) ∧ okL h (.idxA z) (strips (evs t xs))) ∧ opsA P b r K (setA d t (.gd (guardA (getA j t) u) (valL h (.idxA z) (strips (evs t xs))))) h) := by simp only [opsA, stepO, stepB, R.kd, putA]
theorem w_idxArr {P : Program} {b : Nat} {r : List RO} {K : Nx} {t : List AV} {h : List AObj} {d : Nat} {m z : Nat} {xs : List X} : opsA P b (⟨some d, none, .idxArr m z, xs⟩ :: r) K t h = (flags (evs t xs) ∧ okL h (.idxArr m z) (strips (evs t xs)) ∧ opsA P b r K (setA d t (valL h (.idxArr m z) (strips (evs t xs)))) h) := by simp only [opsA, stepO, stepA, R.kd, putA]
theorem wg_idxArr {P : Program} {b : Nat} {r : List RO} {K : Nx} {t : List AV} {h : List AObj} {d : Nat} {m z : Nat} {xs : List X} {j : Nat} {u : Bool} : opsA P b (⟨some d, some (j, u), .idxArr m z, xs⟩ :: r) K t h = (guardOk (getA j t) = true ∧ (guardA (getA j t) u = true → flags (evs t xs) ∧ okL h (.idxArr m z) (strips (evs t xs))) ∧ opsA P b r K (setA d t (.gd (guardA (getA j t) u) (valL h (.idxArr m z) (strips (evs t xs))))) h) := by simp only [opsA, stepO, stepB, R.kd, putA]
theorem w_fldA {P : Program} {b : Nat} {r : List RO} {K : Nx} {t : List AV} {h : List AObj} {d : Nat} {p : Nat} {xs : List X} : opsA P b (⟨some d, none, .fldA p, xs⟩ :: r) K t h = (flags (evs t xs) ∧ okL h (.fldA p) (strips (evs t xs)) ∧ opsA P b r K (setA d t (valL h (.fldA p) (strips (evs t xs)))) h) := by simp only [opsA, stepO, stepA, R.kd, putA]
theorem wg_fldA {P : Program} {b : Nat} {r : List RO} {K : Nx} {t : List AV} {h : List AObj} {d : Nat} {p : Nat} {xs : List X} {j : Nat} {u : Bool} : opsA P b (⟨some d, some (j, u), .fldA p, xs⟩ :: r) K t h = (guardOk (getA j t) = true ∧ (guardA (getA j t) u = true → flags (evs t xs) ∧ okL h (.fldA p) (strips (evs t xs))) ∧ opsA P b r K (setA d t (.gd (guardA (getA j t) u) (valL h (.fldA p) (strips (evs t xs))))) h) := by simp only [opsA, stepO, stepB, R.kd, putA]
theorem w_load {P : Program} {b : Nat} {r : List RO} {K : Nx} {t : List AV} {h : List AObj} {d : Nat} {n : Option Nat} {xs : List X} : opsA P b (⟨some d, none, .load n, xs⟩ :: r) K t h = (flags (evs t xs) ∧ okL h (.load n) (strips (evs t xs)) ∧ opsA P b r K (setA d t (valL h (.load n) (strips (evs t xs)))) h) := by simp only [opsA, stepO, stepA, R.kd, putA]
theorem wg_load {P : Program} {b : Nat} {r : List RO} {K : Nx} {t : List AV} {h : List AObj} {d : Nat} {n : Option Nat} {xs : List X} {j : Nat} {u : Bool} : opsA P b (⟨some d, some (j, u), .load n, xs⟩ :: r) K t h = (guardOk (getA j t) = true ∧ (guardA (getA j t) u = true → flags (evs t xs) ∧ okL h (.load n) (strips (evs t xs))) ∧ opsA P b r K (setA d t (.gd (guardA (getA j t) u) (valL h (.load n) (strips (evs t xs))))) h) := by simp only [opsA, stepO, stepB, R.kd, putA]
theorem w_nilchk {P : Program} {b : Nat} {r : List RO} {K : Nx} {t : List AV} {h : List AObj} {d : Nat}  {xs : List X} : opsA P b (⟨some d, none, .nilchk, xs⟩ :: r) K t h = (flags (evs t xs) ∧ okL h (.nilchk) (strips (evs t xs)) ∧ opsA P b r K (setA d t (valL h (.nilchk) (strips (evs t xs)))) h) := by simp only [opsA, stepO, stepA, R.kd, putA]
theorem wg_nilchk {P : Program} {b : Nat} {r : List RO} {K : Nx} {t : List AV} {h : List AObj} {d : Nat}  {xs : List X} {j : Nat} {u : Bool} : opsA P b (⟨some d, some (j, u), .nilchk, xs⟩ :: r) K t h = (guardOk (getA j t) = true ∧ (guardA (getA j t) u = true → flags (evs t xs) ∧ okL h (.nilchk) (strips (evs t xs))) ∧ opsA P b r K (setA d t (.gd (guardA (getA j t) u) (valL h (.nilchk) (strips (evs t xs))))) h) := by simp only [opsA, stepO, stepB, R.kd, putA]
theorem w_slc {P : Program} {b : Nat} {r : List RO} {K : Nx} {t : List AV} {h : List AObj} {d : Nat} {z : Nat} {lo hi : Bool} {xs : List X} : opsA P b (⟨some d, none, .slc z lo hi, xs⟩ :: r) K t h = (flags (evs t xs) ∧ okL h (.slc z lo hi) (strips (evs t xs)) ∧ opsA P b r K (setA d t (valL h (.slc z lo hi) (strips (evs t xs)))) h) := by simp only [opsA, stepO, stepA, R.kd, putA]
theorem wg_slc {P : Program} {b : Nat} {r : List RO} {K : Nx} {t : List AV} {h : List AObj} {d : Nat} {z : Nat} {lo hi : Bool} {xs : List X} {j : Nat} {u : Bool} : opsA P b (⟨some d, some (j, u), .slc z lo hi, xs⟩ :: r) K t h = (guardOk (getA j t) = true ∧ (guardA (getA j t) u = true → flags (evs t xs) ∧ okL h (.slc z lo hi) (strips (evs t xs))) ∧ opsA P b r K (setA d t (.gd (guardA (getA j t) u) (valL h (.slc z lo hi) (strips (evs t xs))))) h) := by simp only [opsA, stepO, stepB, R.kd, putA]
theorem w_pick {P : Program} {b : Nat} {r : List RO} {K : Nx} {t : List AV} {h : List AObj} {d : Nat} {c x y : X} : opsA P b (⟨some d, none, .pick, [c, x, y]⟩ :: r) K t h = (pickOk (ev t c) (ev t x) (ev t y) ∧ opsA P b r K (setA d t (pickV (ev t c) (ev t x) (ev t y))) h) := by simp only [opsA, stepO, stepA, R.kd, putA, evs]
theorem wg_pick {P : Program} {b : Nat} {r : List RO} {K : Nx} {t : List AV} {h : List AObj} {d : Nat} {c x y : X} {j : Nat} {u : Bool} : opsA P b (⟨some d, some (j, u), .pick, [c, x, y]⟩ :: r) K t h = (guardOk (getA j t) = true ∧ (guardA (getA j t) u = true → pickOk (ev t c) (ev t x) (ev t y)) ∧ opsA P b r K (setA d t (.gd (guardA (getA j t) u) (pickV (ev t c) (ev t x) (ev t y)))) h) := by simp only [opsA, stepO, stepB, R.kd, putA, evs]
theorem w_nilo {P : Program} {b : Nat} {r : List RO} {K : Nx} {t : List AV} {h : List AObj} {d : Option Nat} {j z : Nat} {ty : TypeId} {xs : List X} : opsA P b (⟨d, none, .nilo j z ty, xs⟩ :: r) K t h = (flags (evs t xs) ∧ effE b h (.nilo j z ty) (strips (evs t xs)) t d (opsA P b r K)) := by simp only [opsA, stepO, stepA, R.kd]
theorem w_alloc {P : Program} {b : Nat} {r : List RO} {K : Nx} {t : List AV} {h : List AObj} {d : Option Nat} {j : Nat} {ty : TypeId} {z : List AV} {xs : List X} : opsA P b (⟨d, none, .alloc j ty z, xs⟩ :: r) K t h = (flags (evs t xs) ∧ effE b h (.alloc j ty z) (strips (evs t xs)) t d (opsA P b r K)) := by simp only [opsA, stepO, stepA, R.kd]
theorem w_box {P : Program} {b : Nat} {r : List RO} {K : Nx} {t : List AV} {h : List AObj} {d : Option Nat} {j : Nat} {ty : TypeId} {xs : List X} : opsA P b (⟨d, none, .box j ty, xs⟩ :: r) K t h = (flags (evs t xs) ∧ effE b h (.box j ty) (strips (evs t xs)) t d (opsA P b r K)) := by simp only [opsA, stepO, stepA, R.kd]
theorem w_store {P : Program} {b : Nat} {r : List RO} {K : Nx} {t : List AV} {h : List AObj} {d : Option Nat} {n : Nat} {xs : List X} : opsA P b (⟨d, none, .store n, xs⟩ :: r) K t h = (flags (evs t xs) ∧ effE b h (.store n) (strips (evs t xs)) t d (opsA P b r K)) := by simp only [opsA, stepO, stepA, R.kd]
theorem w_mkslc {P : Program} {b : Nat} {r : List RO} {K : Nx} {t : List AV} {h : List AObj} {d : Option Nat} {j z m : Nat} {ty : TypeId} {zs : List AV} {xs : List X} : opsA P b (⟨d, none, .mkslc j z ty zs m, xs⟩ :: r) K t h = (flags (evs t xs) ∧ effE b h (.mkslc j z ty zs m) (strips (evs t xs)) t d (opsA P b r K)) := by simp only [opsA, stepO, stepA, R.kd]
theorem w_bslc {P : Program} {b : Nat} {r : List RO} {K : Nx} {t : List AV} {h : List AObj} {d : Option Nat} {j z n : Nat} {ty : TypeId} {zs : List AV} {ps : List (Nat × Nat)} {xs : List X} : opsA P b (⟨d, none, .bslc j z n ty zs ps, xs⟩ :: r) K t h = (flags (evs t xs) ∧ effE b h (.bslc j z n ty zs ps) (strips (evs t xs)) t d (opsA P b r K)) := by simp only [opsA, stepO, stepA, R.kd]
theorem w_app {P : Program} {b : Nat} {r : List RO} {K : Nx} {t : List AV} {h : List AObj} {d : Option Nat} {j z m : Nat} {ty : TypeId} {xs : List X} : opsA P b (⟨d, none, .app j z ty m, xs⟩ :: r) K t h = (flags (evs t xs) ∧ effE b h (.app j z ty m) (strips (evs t xs)) t d (opsA P b r K)) := by simp only [opsA, stepO, stepA, R.kd]
theorem w_apps {P : Program} {b : Nat} {r : List RO} {K : Nx} {t : List AV} {h : List AObj} {d : Option Nat} {j : Nat} {ty : TypeId} {xs : List X} : opsA P b (⟨d, none, .apps j ty, xs⟩ :: r) K t h = (flags (evs t xs) ∧ effE b h (.apps j ty) (strips (evs t xs)) t d (opsA P b r K)) := by simp only [opsA, stepO, stepA, R.kd]
theorem w_call {P : Program} {b : Nat} {r : List RO} {K : Nx} {t : List AV} {h : List AObj} {d : Option Nat} {f : Nat} {p : Bool} {xs : List X} : opsA P b (⟨d, none, .call f p, xs⟩ :: r) K t h = callA P f p (evs t xs) d (opsA P b r K) t h := by simp only [opsA, stepO, stepA, R.kd]
theorem wg_call {P : Program} {b : Nat} {r : List RO} {K : Nx} {t : List AV} {h : List AObj} {d : Option Nat} {f : Nat} {p : Bool} {xs : List X} {j : Nat} {u : Bool} : opsA P b (⟨d, some (j, u), .call f p, xs⟩ :: r) K t h = (guardOk (getA j t) = true ∧ callG P f p (guardA (getA j t) u) (evs t xs) d (opsA P b r K) t h) := by simp only [opsA, stepO, stepB, R.kd]
theorem w_callv {P : Program} {b : Nat} {r : List RO} {K : Nx} {t : List AV} {h : List AObj} {d : Option Nat} {xs : List X} : opsA P b (⟨d, none, .callv, xs⟩ :: r) K t h = (flags (evs t xs) ∧ callV P (strips (evs t xs)) d (opsA P b r K) t h) := by simp only [opsA, stepO, stepA, R.kd]
theorem w_nil {P : Program} {b : Nat} {K : Nx} {t : List AV} {h : List AObj} : opsA P b [] K t h = K t h := (rfl)
theorem evs_nil {t : List AV} : evs t [] = [] := rfl
theorem evs_cons {t : List AV} {x : X} {r : List X} : evs t (x :: r) = ev t x :: evs t r := rfl
theorem strips_nil : strips [] = [] := rfl
theorem strips_cons {x : AV} {r : List AV} : strips (x :: r) = x.strip :: strips r := rfl
theorem flags_nil : flags [] = True := rfl
theorem flags_cons {x : AV} {r : List AV} : flags (x :: r) = (x.flag = true ∧ flags r) := rfl
theorem binV_iadd {k l : IntKind} {a c : Int} : binV .add (.int k a) (.int l c) = .int k (k.wrap (a + c)) := rfl
theorem binC_iadd {k l : IntKind} {a c : Int} : binC .add (.int k a) (.int l c) = (k = l) := rfl
theorem binV_isub {k l : IntKind} {a c : Int} : binV .sub (.int k a) (.int l c) = .int k (k.wrap (a - c)) := rfl
theorem binC_isub {k l : IntKind} {a c : Int} : binC .sub (.int k a) (.int l c) = (k = l) := rfl
theorem binV_imul {k l : IntKind} {a c : Int} : binV .mul (.int k a) (.int l c) = .int k (k.wrap (a * c)) := rfl
theorem binC_imul {k l : IntKind} {a c : Int} : binC .mul (.int k a) (.int l c) = (k = l) := rfl
theorem binV_iquo {k l : IntKind} {a c : Int} : binV .quo (.int k a) (.int l c) = .int k (k.wrap (a.tdiv c)) := rfl
theorem binC_iquo {k l : IntKind} {a c : Int} : binC .quo (.int k a) (.int l c) = (k = l ∧ c ≠ 0) := rfl
theorem binV_irem {k l : IntKind} {a c : Int} : binV .rem (.int k a) (.int l c) = .int k (a.tmod c) := rfl
theorem binC_irem {k l : IntKind} {a c : Int} : binC .rem (.int k a) (.int l c) = (k = l ∧ c ≠ 0) := rfl
theorem binV_ishl {k l : IntKind} {a c : Int} : binV .shl (.int k a) (.int l c) = .int k (shlK k a c) := rfl
theorem binC_ishl {k l : IntKind} {a c : Int} : binC .shl (.int k a) (.int l c) = (0 ≤ c) := rfl
theorem binV_ishr {k l : IntKind} {a c : Int} : binV .shr (.int k a) (.int l c) = .int k (shrK k a c) := rfl
theorem binC_ishr {k l : IntKind} {a c : Int} : binC .shr (.int k a) (.int l c) = (0 ≤ c) := rfl
theorem binV_ieql {k l : IntKind} {a c : Int} : binV .eql (.int k a) (.int l c) = .bool (decide (a = c)) := rfl
theorem binC_ieql {k l : IntKind} {a c : Int} : binC .eql (.int k a) (.int l c) = (k = l) := rfl
theorem binV_ineq {k l : IntKind} {a c : Int} : binV .neq (.int k a) (.int l c) = .bool (!decide (a = c)) := rfl
theorem binC_ineq {k l : IntKind} {a c : Int} : binC .neq (.int k a) (.int l c) = (k = l) := rfl
theorem binV_ilss {k l : IntKind} {a c : Int} : binV .lss (.int k a) (.int l c) = .bool (decide (a < c)) := rfl
theorem binC_ilss {k l : IntKind} {a c : Int} : binC .lss (.int k a) (.int l c) = (k = l) := rfl
theorem binV_ileq {k l : IntKind} {a c : Int} : binV .leq (.int k a) (.int l c) = .bool (decide (a ≤ c)) := rfl
theorem binC_ileq {k l : IntKind} {a c : Int} : binC .leq (.int k a) (.int l c) = (k = l) := rfl
theorem binV_igtr {k l : IntKind} {a c : Int} : binV .gtr (.int k a) (.int l c) = .bool (decide (c < a)) := rfl
theorem binC_igtr {k l : IntKind} {a c : Int} : binC .gtr (.int k a) (.int l c) = (k = l) := rfl
theorem binV_igeq {k l : IntKind} {a c : Int} : binV .geq (.int k a) (.int l c) = .bool (decide (c ≤ a)) := rfl
theorem binC_igeq {k l : IntKind} {a c : Int} : binC .geq (.int k a) (.int l c) = (k = l) := rfl
theorem binV_iand {k l : IntKind} {a c : Int} : binV .and (.int k a) (.int l c) = .int k (andK k a c) := rfl
theorem binC_iand {k l : IntKind} {a c : Int} : binC .and (.int k a) (.int l c) = (k = l) := rfl
theorem binV_ior {k l : IntKind} {a c : Int} : binV .or (.int k a) (.int l c) = .int k (orK k a c) := rfl
theorem binC_ior {k l : IntKind} {a c : Int} : binC .or (.int k a) (.int l c) = (k = l) := rfl
theorem binV_ixor {k l : IntKind} {a c : Int} : binV .xor (.int k a) (.int l c) = .int k (xorK k a c) := rfl
theorem binC_ixor {k l : IntKind} {a c : Int} : binC .xor (.int k a) (.int l c) = (k = l) := rfl
theorem binV_iandNot {k l : IntKind} {a c : Int} : binV .andNot (.int k a) (.int l c) = .int k (andNotK k a c) := rfl
theorem binC_iandNot {k l : IntKind} {a c : Int} : binC .andNot (.int k a) (.int l c) = (k = l) := rfl
theorem binV_sadd {s u : List UInt8} : binV .add (.str s) (.str u) = .str (s ++ u) := rfl
theorem binC_sadd {s u : List UInt8} : binC .add (.str s) (.str u) = (s.length + u.length ≤ 9223372036854775807) := rfl
theorem binV_seql {s u : List UInt8} : binV .eql (.str s) (.str u) = .bool (decide (s = u)) := rfl
theorem binC_seql {s u : List UInt8} : binC .eql (.str s) (.str u) = True := rfl
theorem binV_sneq {s u : List UInt8} : binV .neq (.str s) (.str u) = .bool (!decide (s = u)) := rfl
theorem binC_sneq {s u : List UInt8} : binC .neq (.str s) (.str u) = True := rfl
theorem binV_slss {s u : List UInt8} : binV .lss (.str s) (.str u) = .bool (Op.bytesLess s u) := rfl
theorem binC_slss {s u : List UInt8} : binC .lss (.str s) (.str u) = True := rfl
theorem binV_sleq {s u : List UInt8} : binV .leq (.str s) (.str u) = .bool (Op.bytesLess s u || decide (s = u)) := rfl
theorem binC_sleq {s u : List UInt8} : binC .leq (.str s) (.str u) = True := rfl
theorem binV_sgtr {s u : List UInt8} : binV .gtr (.str s) (.str u) = .bool (!(Op.bytesLess s u || decide (s = u))) := rfl
theorem binC_sgtr {s u : List UInt8} : binC .gtr (.str s) (.str u) = True := rfl
theorem binV_sgeq {s u : List UInt8} : binV .geq (.str s) (.str u) = .bool (!Op.bytesLess s u) := rfl
theorem binC_sgeq {s u : List UInt8} : binC .geq (.str s) (.str u) = True := rfl
theorem valP_bool {n p q : Bool} : valP (.bool n) [.bool p, .bool q] = .bool (n != (p == q)) := rfl
theorem okP_bool {n p q : Bool} : okP (.bool n) [.bool p, .bool q] = True := rfl
theorem valP_not {p : Bool} : valP (.un .not) [.bool p] = .bool (!p) := rfl
theorem okP_not {p : Bool} : okP (.un .not) [.bool p] = True := rfl
theorem valP_neg {k : IntKind} {n : Int} : valP (.un .neg) [.int k n] = .int k (k.wrap (0 - n)) := rfl
theorem okP_neg {k : IntKind} {n : Int} : okP (.un .neg) [.int k n] = True := rfl
theorem valP_conv {k l : IntKind} {n : Int} : valP (.conv k) [.int l n] = .int k (k.wrap n) := rfl
theorem okP_conv {k l : IntKind} {n : Int} : okP (.conv k) [.int l n] = True := rfl
theorem valP_isnil_ptr {n : Bool} {x : AV} : valP (.isnil .ptr n) [x] = .bool (n != (nilTest .ptr x).getD false) := rfl
theorem okP_isnil_ptr {n : Bool} {x : AV} : okP (.isnil .ptr n) [x] = ((nilTest .ptr x).isSome = true) := rfl
theorem valP_isnil_func {n : Bool} {x : AV} : valP (.isnil .func n) [x] = .bool (n != (nilTest .func x).getD false) := rfl
theorem okP_isnil_func {n : Bool} {x : AV} : okP (.isnil .func n) [x] = ((nilTest .func x).isSome = true) := rfl
theorem valP_isnil_iface {n : Bool} {x : AV} : valP (.isnil .iface n) [x] = .bool (n != (nilTest .iface x).getD false) := rfl
theorem okP_isnil_iface {n : Bool} {x : AV} : okP (.isnil .iface n) [x] = ((nilTest .iface x).isSome = true) := rfl
theorem valP_isnil_sl {n : Bool} {m : Nat} {f : Nat → List AV} : valP (.isnil .slice n) [.sl m f] = if m = 0 then .anyb else .bool (n != false) := rfl
theorem okP_isnil_sl {n : Bool} {m : Nat} {f : Nat → List AV} : okP (.isnil .slice n) [.sl m f] = True := rfl
theorem valP_isnil_nl {n : Bool} : valP (.isnil .slice n) [.nl] = .bool (n != true) := rfl
theorem okP_isnil_nl {n : Bool} : okP (.isnil .slice n) [.nl] = True := by simp [okP, nilTest]
theorem condA_anyb (A B : Nx) (t : List AV) (h : List AObj) : condA .anyb A B t h = (A t h ∧ B t h) := rfl
theorem strip_anyb : AV.strip .anyb = .anyb := rfl
theorem flag_anyb : AV.flag .anyb = true := rfl
theorem solid_anyb : AV.solid .anyb = true := rfl
theorem cells_anyb : AV.cells .anyb = [.anyb] := rfl
theorem nilT_nilp : nilTest .ptr .nilp = some true := rfl
theorem nilT_nilfn : nilTest .func .nilfn = some true := rfl
theorem nilT_nilif : nilTest .iface .nilif = some true := rfl
theorem nilT_nl : nilTest .slice .nl = some true := rfl
theorem nilT_ip {c : List AV} : nilTest .ptr (.ip c) = some false := rfl
theorem nilT_fn {f : Fn} {a c : List AV} : nilTest .func (.fn f a c) = some false := rfl
theorem nilT_ifc : nilTest .iface .ifc = some false := rfl
theorem valP_aeq {ks : List AK} {n : Bool} {x y : List AV} : valP (.aeq ks n) [.agg x, .agg y] = .bool (n != (atomsEq ks x y).getD false) := rfl
theorem okP_aeq {ks : List AK} {n : Bool} {x y : List AV} : okP (.aeq ks n) [.agg x, .agg y] = ((atomsEq ks x y).isSome = true) := rfl
theorem valP_fld {p : Nat} {n : Option Nat} {c : List AV} : valP (.fld p n) [.agg c] = cut c p n := rfl
theorem okP_fld {p : Nat} {n : Option Nat} {c : List AV} : okP (.fld p n) [.agg c] = cutOk c p n := rfl
theorem cutOk_n {p : Nat} {c : List AV} : cutOk c p none = (p < c.length) := rfl
theorem cutOk_s {p n : Nat} {c : List AV} : cutOk c p (some n) = (p + n ≤ c.length) := rfl
theorem valP_ext {i : Nat} {c : List AV} : valP (.ext i) [.tup c] = (c[i]?).getD .undef := rfl
theorem okP_ext {i : Nat} {c : List AV} : okP (.ext i) [.tup c] = (i < c.length) := rfl
theorem valP_build {z : List AV} {ps : List (Nat × Nat)} {vs : List AV} : valP (.build z ps) vs = .agg (fillA z ps vs) := by cases vs <;> rfl
theorem okP_build {z : List AV} {ps : List (Nat × Nat)} {vs : List AV} : okP (.build z ps) vs = fillOk z.length ps vs := by cases vs <;> rfl
theorem fillOk_nil {n : Nat} : fillOk n [] [] = True := rfl
theorem fillOk_cons {m p n : Nat} {ps : List (Nat × Nat)} {v : AV} {vs : List AV} : fillOk m ((p, n) :: ps) (v :: vs) = (v.solid = true ∧ v.cells.length = n ∧ p + n ≤ m ∧ fillOk m ps vs) := rfl
theorem fillA_nil {z : List AV} {ps : List (Nat × Nat)} : fillA z ps [] = z := by cases ps <;> rfl
theorem fillA_cons {z : List AV} {p n : Nat} {ps : List (Nat × Nat)} {v : AV} {vs : List AV} : fillA z ((p, n) :: ps) (v :: vs) = fillA (z.take p ++ v.cells ++ z.drop (p + n)) ps vs := rfl
theorem valP_mkfn {f : Fn} {n : Nat} {vs : List AV} : valP (.mkfn f n) vs = .fn f (vs.take n) (vs.drop n) := by cases vs <;> rfl
theorem okP_mkfn {f : Fn} {n : Nat} {vs : List AV} : okP (.mkfn f n) vs = (n ≤ vs.length) := by cases vs <;> rfl
theorem valP_sidx {s : List UInt8} {k : IntKind} {i : Int} : valP .sidx [.str s, .int k i] = .int .u8 ((s[i.toNat]?).getD 0).toNat := rfl
theorem okP_sidx {s : List UInt8} {k : IntKind} {i : Int} : okP .sidx [.str s, .int k i] = (0 ≤ i ∧ i < s.length) := rfl
theorem valP_sslh0 {s : List UInt8} {k m : IntKind} {a c : Int} : valP (.sslc true true) [.str s, .int k a, .int m c] = .str ((s.drop (a : Int).toNat).take ((c : Int).toNat - (a : Int).toNat)) := by simp [valP, loB, hiB]
theorem okP_sslh0 {s : List UInt8} {k m : IntKind} {a c : Int} : okP (.sslc true true) [.str s, .int k a, .int m c] = (0 ≤ (a : Int) ∧ (a : Int) ≤ c ∧ c ≤ (s.length : Int)) := by simp [okP, loB, hiB, intC]
theorem valL_sllh0 {g : List AObj} {z n : Nat} {f : Nat → List AV} {k m : IntKind} {a c : Int} : valL g (.slc z true true) [.sl n f, .int k a, .int m c] = .sl ((c : Int).toNat - (a : Int).toNat) (fun i => f ((a : Int).toNat + i)) := by simp [valL, loB, hiB]
theorem okL_sllh0 {g : List AObj} {z n : Nat} {f : Nat → List AV} {k m : IntKind} {a c : Int} : okL g (.slc z true true) [.sl n f, .int k a, .int m c] = ((0 ≤ (a : Int) ∧ (a : Int) ≤ c ∧ c ≤ (n : Int)) ∧ (0 < n → (f 0).length = z)) := by simp [okL, loB, hiB, intC, and_assoc]
theorem valL_oslh0 {g : List AObj} {z w v y p n : Nat} {k m : IntKind} {a c : Int} : valL g (.slc z true true) [.osl w v y p n, .int k a, .int m c] = .osl w v y (p + (a : Int).toNat * y) ((c : Int).toNat - (a : Int).toNat) := by simp [valL, loB, hiB]
theorem okL_oslh0 {g : List AObj} {z w v y p n : Nat} {k m : IntKind} {a c : Int} : okL g (.slc z true true) [.osl w v y p n, .int k a, .int m c] = ((0 ≤ (a : Int) ∧ (a : Int) ≤ c ∧ c ≤ (n : Int)) ∧ y = z ∧ liveS g w v = true ∧ ((a : Int) = 0 ∨ (a : Int) < n)) := by simp [okL, loB, hiB, intC, and_assoc]
theorem valP_ssl0 {s : List UInt8} {k : IntKind} {a : Int} : valP (.sslc true false) [.str s, .int k a] = .str ((s.drop (a : Int).toNat).take (((s.length : Int) : Int).toNat - (a : Int).toNat)) := by simp [valP, loB, hiB]
theorem okP_ssl0 {s : List UInt8} {k : IntKind} {a : Int} : okP (.sslc true false) [.str s, .int k a] = (0 ≤ (a : Int) ∧ (a : Int) ≤ (s.length : Int) ∧ (s.length : Int) ≤ (s.length : Int)) := by simp [okP, loB, hiB, intC]
theorem valL_sll0 {g : List AObj} {z n : Nat} {f : Nat → List AV} {k : IntKind} {a : Int} : valL g (.slc z true false) [.sl n f, .int k a] = .sl (((n : Int) : Int).toNat - (a : Int).toNat) (fun i => f ((a : Int).toNat + i)) := by simp [valL, loB, hiB]
theorem okL_sll0 {g : List AObj} {z n : Nat} {f : Nat → List AV} {k : IntKind} {a : Int} : okL g (.slc z true false) [.sl n f, .int k a] = ((0 ≤ (a : Int) ∧ (a : Int) ≤ (n : Int) ∧ (n : Int) ≤ (n : Int)) ∧ (0 < n → (f 0).length = z)) := by simp [okL, loB, hiB, intC, and_assoc]
theorem valL_osl0 {g : List AObj} {z w v y p n : Nat} {k : IntKind} {a : Int} : valL g (.slc z true false) [.osl w v y p n, .int k a] = .osl w v y (p + (a : Int).toNat * y) (((n : Int) : Int).toNat - (a : Int).toNat) := by simp [valL, loB, hiB]
theorem okL_osl0 {g : List AObj} {z w v y p n : Nat} {k : IntKind} {a : Int} : okL g (.slc z true false) [.osl w v y p n, .int k a] = ((0 ≤ (a : Int) ∧ (a : Int) ≤ (n : Int) ∧ (n : Int) ≤ (n : Int)) ∧ y = z ∧ liveS g w v = true ∧ ((a : Int) = 0 ∨ (a : Int) < n)) := by simp [okL, loB, hiB, intC, and_assoc]
theorem valP_ssh0 {s : List UInt8} {k : IntKind} {c : Int} : valP (.sslc false true) [.str s, .int k c] = .str ((s.drop (0 : Int).toNat).take ((c : Int).toNat - (0 : Int).toNat)) := by simp [valP, loB, hiB]
theorem okP_ssh0 {s : List UInt8} {k : IntKind} {c : Int} : okP (.sslc false true) [.str s, .int k c] = (0 ≤ (0 : Int) ∧ (0 : Int) ≤ c ∧ c ≤ (s.length : Int)) := by simp [okP, loB, hiB, intC]
theorem valL_slh0 {g : List AObj} {z n : Nat} {f : Nat → List AV} {k : IntKind} {c : Int} : valL g (.slc z false true) [.sl n f, .int k c] = .sl ((c : Int).toNat - (0 : Int).toNat) (fun i => f ((0 : Int).toNat + i)) := by simp [valL, loB, hiB]
theorem okL_slh0 {g : List AObj} {z n : Nat} {f : Nat → List AV} {k : IntKind} {c : Int} : okL g (.slc z false true) [.sl n f, .int k c] = ((0 ≤ (0 : Int) ∧ (0 : Int) ≤ c ∧ c ≤ (n : Int)) ∧ (0 < n → (f 0).length = z)) := by simp [okL, loB, hiB, intC, and_assoc]
theorem valL_osh0 {g : List AObj} {z w v y p n : Nat} {k : IntKind} {c : Int} : valL g (.slc z false true) [.osl w v y p n, .int k c] = .osl w v y (p + (0 : Int).toNat * y) ((c : Int).toNat - (0 : Int).toNat) := by simp [valL, loB, hiB]
theorem okL_osh0 {g : List AObj} {z w v y p n : Nat} {k : IntKind} {c : Int} : okL g (.slc z false true) [.osl w v y p n, .int k c] = ((0 ≤ (0 : Int) ∧ (0 : Int) ≤ c ∧ c ≤ (n : Int)) ∧ y = z ∧ liveS g w v = true ∧ ((0 : Int) = 0 ∨ (0 : Int) < n)) := by simp [okL, loB, hiB, intC, and_assoc]
theorem valP_ss0 {s : List UInt8}  : valP (.sslc false false) [.str s] = .str ((s.drop (0 : Int).toNat).take (((s.length : Int) : Int).toNat - (0 : Int).toNat)) := by simp [valP, loB, hiB]
theorem okP_ss0 {s : List UInt8}  : okP (.sslc false false) [.str s] = (0 ≤ (0 : Int) ∧ (0 : Int) ≤ (s.length : Int) ∧ (s.length : Int) ≤ (s.length : Int)) := by simp [okP, loB, hiB, intC]
theorem valL_sl0 {g : List AObj} {z n : Nat} {f : Nat → List AV}  : valL g (.slc z false false) [.sl n f] = .sl (((n : Int) : Int).toNat - (0 : Int).toNat) (fun i => f ((0 : Int).toNat + i)) := by simp [valL, loB, hiB]
theorem okL_sl0 {g : List AObj} {z n : Nat} {f : Nat → List AV}  : okL g (.slc z false false) [.sl n f] = ((0 ≤ (0 : Int) ∧ (0 : Int) ≤ (n : Int) ∧ (n : Int) ≤ (n : Int)) ∧ (0 < n → (f 0).length = z)) := by simp [okL, loB, hiB, intC, and_assoc]
theorem valL_os0 {g : List AObj} {z w v y p n : Nat}  : valL g (.slc z false false) [.osl w v y p n] = .osl w v y (p + (0 : Int).toNat * y) (((n : Int) : Int).toNat - (0 : Int).toNat) := by simp [valL, loB, hiB]
theorem okL_os0 {g : List AObj} {z w v y p n : Nat}  : okL g (.slc z false false) [.osl w v y p n] = ((0 ≤ (0 : Int) ∧ (0 : Int) ≤ (n : Int) ∧ (n : Int) ≤ (n : Int)) ∧ y = z ∧ liveS g w v = true ∧ ((0 : Int) = 0 ∨ (0 : Int) < n)) := by simp [okL, loB, hiB, intC, and_assoc]
theorem valP_max2 {k l : IntKind} {a c : Int} : valP (.mm true) [.int k a, .int l c] = .int k (max a c) := rfl
theorem valP_min2 {k l : IntKind} {a c : Int} : valP (.mm false) [.int k a, .int l c] = .int k (min a c) := rfl
theorem valP_max3 {k l m : IntKind} {a c e : Int} : valP (.mm true) [.int k a, .int l c, .int m e] = .int k (max (max a c) e) := rfl
theorem valP_min3 {k l m : IntKind} {a c e : Int} : valP (.mm false) [.int k a, .int l c, .int m e] = .int k (min (min a c) e) := rfl
theorem okP_mm2 {x : Bool} {k l : IntKind} {a c : Int} : okP (.mm x) [.int k a, .int l c] = True := by simp [okP, intC]
theorem okP_mm3 {x : Bool} {k l m : IntKind} {a c e : Int} : okP (.mm x) [.int k a, .int l c, .int m e] = True := by simp [okP, intC]
theorem valL_lensl {g : List AObj} {n : Nat} {f : Nat → List AV} : valL g .len [.sl n f] = .int .i64 n := rfl
theorem okL_lensl {g : List AObj} {n : Nat} {f : Nat → List AV} : okL g .len [.sl n f] = True := rfl
theorem valL_lennl {g : List AObj} : valL g .len [.nl] = .int .i64 0 := rfl
theorem okL_lennl {g : List AObj} : okL g .len [.nl] = True := rfl
theorem valP_slen {s : List UInt8} : valP .slen [.str s] = .int .i64 s.length := rfl
theorem okP_slen {s : List UInt8} : okP .slen [.str s] = True := rfl
theorem valL_lenosl {g : List AObj} {k v z p n : Nat} : valL g .len [.osl k v z p n] = .int .i64 n := rfl
theorem okL_lenosl {g : List AObj} {k v z p n : Nat} : okL g .len [.osl k v z p n] = (liveS g k v = true) := rfl
theorem valL_idxsl {g : List AObj} {z n : Nat} {f : Nat → List AV} {k : IntKind} {i : Int} : valL g (.idxA z) [.sl n f, .int k i] = .ip (f i.toNat) := rfl
theorem okL_idxsl {g : List AObj} {z n : Nat} {f : Nat → List AV} {k : IntKind} {i : Int} : okL g (.idxA z) [.sl n f, .int k i] = ((0 ≤ i ∧ i < n) ∧ (f i.toNat).length = z) := rfl
theorem valL_idxosl {g : List AObj} {z q v y p n : Nat} {k : IntKind} {i : Int} : valL g (.idxA z) [.osl q v y p n, .int k i] = .op q v (p + i.toNat * y) := rfl
theorem okL_idxosl {g : List AObj} {z q v y p n : Nat} {k : IntKind} {i : Int} : okL g (.idxA z) [.osl q v y p n, .int k i] = ((0 ≤ i ∧ i < n) ∧ y = z ∧ (cellsOf g q v).isSome = true) := rfl
theorem valL_arrip {g : List AObj} {m z : Nat} {c : List AV} {k : IntKind} {i : Int} : valL g (.idxArr m z) [.ip c, .int k i] = .ip ((c.drop (i.toNat * z)).take z) := rfl
theorem okL_arrip {g : List AObj} {m z : Nat} {c : List AV} {k : IntKind} {i : Int} : okL g (.idxArr m z) [.ip c, .int k i] = ((0 ≤ i ∧ i < m) ∧ c.length = m * z) := rfl
theorem valL_arrop {g : List AObj} {m z q v p : Nat} {k : IntKind} {i : Int} : valL g (.idxArr m z) [.op q v p, .int k i] = .op q v (p + i.toNat * z) := rfl
theorem okL_arrop {g : List AObj} {m z q v p : Nat} {k : IntKind} {i : Int} : okL g (.idxArr m z) [.op q v p, .int k i] = ((0 ≤ i ∧ i < m) ∧ (cellsOf g q v).isSome = true) := rfl
theorem valL_fldip {g : List AObj} {p : Nat} {c : List AV} : valL g (.fldA p) [.ip c] = .ip (c.drop p) := rfl
theorem okL_fldip {g : List AObj} {p : Nat} {c : List AV} : okL g (.fldA p) [.ip c] = (p < c.length) := rfl
theorem valL_fldop {g : List AObj} {p q v o : Nat} : valL g (.fldA p) [.op q v o] = .op q v (o + p) := rfl
theorem okL_fldop {g : List AObj} {p q v o : Nat} : okL g (.fldA p) [.op q v o] = ((cellsOf g q v).isSome = true) := rfl
theorem valL_ldip {g : List AObj} {n : Option Nat} {c : List AV} : valL g (.load n) [.ip c] = cut c 0 n := rfl
theorem okL_ldip {g : List AObj} {n : Option Nat} {c : List AV} : okL g (.load n) [.ip c] = cutOk c 0 n := rfl
theorem valL_ldop {g : List AObj} {n : Option Nat} {q v p : Nat} : valL g (.load n) [.op q v p] = cut ((cellsOf g q v).getD []) p n := rfl
theorem okL_ldop {g : List AObj} {n : Option Nat} {q v p : Nat} : okL g (.load n) [.op q v p] = ((cellsOf g q v).isSome = true ∧ cutOk ((cellsOf g q v).getD []) p n) := rfl
theorem valL_ncip {g : List AObj} {c : List AV} : valL g .nilchk [.ip c] = .ip c := rfl
theorem okL_ncip {g : List AObj} {c : List AV} : okL g .nilchk [.ip c] = True := rfl
theorem valL_ncop {g : List AObj} {q v p : Nat} : valL g .nilchk [.op q v p] = .op q v p := rfl
theorem okL_ncop {g : List AObj} {q v p : Nat} : okL g .nilchk [.op q v p] = ((cellsOf g q v).isSome = true) := rfl
theorem valL_ncfn {g : List AObj} {f : Fn} {a c : List AV} : valL g .nilchk [.fn f a c] = .fn f a c := rfl
theorem okL_ncfn {g : List AObj} {f : Nat} {a c : List AV} : okL g .nilchk [.fn (.func f) a c] = True := rfl
theorem cut_none {c : List AV} {p : Nat} : cut c p none = (c[p]?).getD .undef := rfl
theorem cut_some {c : List AV} {p n : Nat} : cut c p (some n) = .agg ((c.drop p).take n) := rfl
theorem guardA_b {b w : Bool} : guardA (.bool b) w = (b == w) := rfl
theorem guardA_gd {g b w : Bool} : guardA (.gd g (.bool b)) w = (g && (b == w)) := rfl
theorem guardOk_b {b : Bool} : guardOk (.bool b) = true := rfl
theorem guardOk_gd {g b : Bool} : guardOk (.gd g (.bool b)) = true := rfl
theorem pickOk_b {c : Bool} {x y : AV} : pickOk (.bool c) x y = ((c = true → x.flag = true) ∧ (c = false → y.flag = true)) := rfl
theorem pickOk_gd {g c : Bool} {x y : AV} : pickOk (.gd g (.bool c)) x y = (g = true ∧ (c = true → x.flag = true) ∧ (c = false → y.flag = true)) := rfl
theorem pickV_bbb {c p q : Bool} : pickV (.bool c) (.bool p) (.bool q) = .bool ((c && p) || (!c && q)) := rfl
theorem pickV_gbb {c p q gc : Bool} : pickV (.gd gc (.bool c)) (.bool p) (.bool q) = .bool ((c && p) || (!c && q)) := rfl
theorem pickV_bbg {c p q gq : Bool} : pickV (.bool c) (.bool p) (.gd gq (.bool q)) = .bool ((c && p) || (!c && q)) := rfl
theorem pickV_gbg {c p q gq gc : Bool} : pickV (.gd gc (.bool c)) (.bool p) (.gd gq (.bool q)) = .bool ((c && p) || (!c && q)) := rfl
theorem pickV_bgb {c p q gp : Bool} : pickV (.bool c) (.gd gp (.bool p)) (.bool q) = .bool ((c && p) || (!c && q)) := rfl
theorem pickV_ggb {c p q gp gc : Bool} : pickV (.gd gc (.bool c)) (.gd gp (.bool p)) (.bool q) = .bool ((c && p) || (!c && q)) := rfl
theorem pickV_bgg {c p q gp gq : Bool} : pickV (.bool c) (.gd gp (.bool p)) (.gd gq (.bool q)) = .bool ((c && p) || (!c && q)) := rfl
theorem pickV_ggg {c p q gp gq gc : Bool} : pickV (.gd gc (.bool c)) (.gd gp (.bool p)) (.gd gq (.bool q)) = .bool ((c && p) || (!c && q)) := rfl
theorem c_skip {P : Program} {b : Nat} {Q : Ex → Nx} {t : List AV} {h : List AObj} : codeA P b .skip Q t h = Q .normal t h := (rfl)
theorem c_ops {P : Program} {b : Nat} {Q : Ex → Nx} {t : List AV} {h : List AObj} {l : List RO} : codeA P b (.ops l) Q t h = opsA P b l (Q .normal) t h := (rfl)
theorem c_seq {P : Program} {b : Nat} {Q : Ex → Nx} {t : List AV} {h : List AObj} {x y : C} : codeA P b (.seq x y) Q t h = codeA P b x (Ex.andThen (codeA P b y Q) Q) t h := (rfl)
theorem c_cond {P : Program} {b : Nat} {Q : Ex → Nx} {t : List AV} {h : List AObj} {c : X} {x y : C} : codeA P b (.cond c x y) Q t h = condA (ev t c) (codeA P b x Q) (codeA P b y Q) t h := (rfl)
theorem c_block {P : Program} {b : Nat} {Q : Ex → Nx} {t : List AV} {h : List AObj} {i : Nat} {x : C} : codeA P b (.block i x) Q t h = codeA P b x (Ex.inBlock i Q) t h := (rfl)
theorem c_exit {P : Program} {b : Nat} {Q : Ex → Nx} {t : List AV} {h : List AObj} {i : Nat} : codeA P b (.exit i) Q t h = Q (.exit i) t h := (rfl)
theorem c_ret {P : Program} {b : Nat} {Q : Ex → Nx} {t : List AV} {h : List AObj} : codeA P b .ret Q t h = Q .ret t h := (rfl)
theorem at_n {K : Nx} {Q : Ex → Nx} {t : List AV} {h : List AObj} : Ex.andThen K Q .normal t h = K t h := (rfl)
theorem at_e {K : Nx} {Q : Ex → Nx} {t : List AV} {h : List AObj} {i : Nat} : Ex.andThen K Q (.exit i) t h = Q (.exit i) t h := (rfl)
theorem at_r {K : Nx} {Q : Ex → Nx} {t : List AV} {h : List AObj} : Ex.andThen K Q .ret t h = Q .ret t h := (rfl)
theorem ib_n {i : Nat} {Q : Ex → Nx} {t : List AV} {h : List AObj} : Ex.inBlock i Q .normal t h = Q .normal t h := (rfl)
theorem ib_r {i : Nat} {Q : Ex → Nx} {t : List AV} {h : List AObj} : Ex.inBlock i Q .ret t h = Q .ret t h := (rfl)
theorem ib_e {i j : Nat} {Q : Ex → Nx} {t : List AV} {h : List AObj} : Ex.inBlock i Q (.exit j) t h = if j = i then Q .normal t h else Q (.exit j) t h := (rfl)
end AF

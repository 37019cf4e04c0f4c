import Derived.Test.YtjijgafefdolkaaDoorK1
import Derived.Test.YtjijgafefdolkaaDoorK2
import Derived.Below
import Derived.ChangeSame
import Derived.ChangeShapes
import Derived.CallsIn
import Derived.Carry
import Derived.RowKit
import Derived.WalkKit
import Derived.ProofKit
set_option linter.all false
set_option linter.unusedSimpArgs false
set_option linter.unusedVariables false
set_option linter.unusedSectionVars false
section
namespace AF
open Go
set_option maxRecDepth 4000
def shlK (k : IntKind) (a c : Int) : Int := k.wrap (a * 2 ^ (min c.toNat k.bits))
def shrK (k : IntKind) (a c : Int) : Int := a.fdiv (2 ^ (min c.toNat k.bits))
def andK (k : IntKind) (a c : Int) : Int := k.wrap (BitVec.ofInt k.bits a &&& BitVec.ofInt k.bits c).toNat
def orK (k : IntKind) (a c : Int) : Int := k.wrap (BitVec.ofInt k.bits a ||| BitVec.ofInt k.bits c).toNat
def xorK (k : IntKind) (a c : Int) : Int := k.wrap (BitVec.ofInt k.bits a ^^^ BitVec.ofInt k.bits c).toNat
def andNotK (k : IntKind) (a c : Int) : Int := k.wrap (BitVec.ofInt k.bits a &&& ~~~ BitVec.ofInt k.bits c).toNat
theorem getA_0 {a0 : AV} {r : List AV} : getA 0 (a0 :: r) = a0 := rfl
theorem setA_0 {a0 v : AV} {r : List AV} : setA 0 (a0 :: r) v = v :: r := rfl
theorem getA_1 {a0 a1 : AV} {r : List AV} : getA 1 (a0 :: a1 :: r) = a1 := rfl
theorem setA_1 {a0 a1 v : AV} {r : List AV} : setA 1 (a0 :: a1 :: r) v = a0 :: v :: r := rfl
theorem getA_2 {a0 a1 a2 : AV} {r : List AV} : getA 2 (a0 :: a1 :: a2 :: r) = a2 := rfl
theorem setA_2 {a0 a1 a2 v : AV} {r : List AV} : setA 2 (a0 :: a1 :: a2 :: r) v = a0 :: a1 :: v :: r := rfl
theorem getA_3 {a0 a1 a2 a3 : AV} {r : List AV} : getA 3 (a0 :: a1 :: a2 :: a3 :: r) = a3 := rfl
theorem setA_3 {a0 a1 a2 a3 v : AV} {r : List AV} : setA 3 (a0 :: a1 :: a2 :: a3 :: r) v = a0 :: a1 :: a2 :: v :: r := rfl
theorem getA_4 {a0 a1 a2 a3 a4 : AV} {r : List AV} : getA 4 (a0 :: a1 :: a2 :: a3 :: a4 :: r) = a4 := rfl
theorem setA_4 {a0 a1 a2 a3 a4 v : AV} {r : List AV} : setA 4 (a0 :: a1 :: a2 :: a3 :: a4 :: r) v = a0 :: a1 :: a2 :: a3 :: v :: r := rfl
theorem getA_5 {a0 a1 a2 a3 a4 a5 : AV} {r : List AV} : getA 5 (a0 :: a1 :: a2 :: a3 :: a4 :: a5 :: r) = a5 := rfl
theorem setA_5 {a0 a1 a2 a3 a4 a5 v : AV} {r : List AV} : setA 5 (a0 :: a1 :: a2 :: a3 :: a4 :: a5 :: r) v = a0 :: a1 :: a2 :: a3 :: a4 :: v :: r := rfl
theorem getA_6 {a0 a1 a2 a3 a4 a5 a6 : AV} {r : List AV} : getA 6 (a0 :: a1 :: a2 :: a3 :: a4 :: a5 :: a6 :: r) = a6 := rfl
theorem setA_6 {a0 a1 a2 a3 a4 a5 a6 v : AV} {r : List AV} : setA 6 (a0 :: a1 :: a2 :: a3 :: a4 :: a5 :: a6 :: r) v = a0 :: a1 :: a2 :: a3 :: a4 :: a5 :: v :: r := rfl
theorem getA_7 {a0 a1 a2 a3 a4 a5 a6 a7 : AV} {r : List AV} : getA 7 (a0 :: a1 :: a2 :: a3 :: a4 :: a5 :: a6 :: a7 :: r) = a7 := rfl
theorem setA_7 {a0 a1 a2 a3 a4 a5 a6 a7 v : AV} {r : List AV} : setA 7 (a0 :: a1 :: a2 :: a3 :: a4 :: a5 :: a6 :: a7 :: r) v = a0 :: a1 :: a2 :: a3 :: a4 :: a5 :: a6 :: v :: r := rfl
theorem getA_s8 {n : Nat} {a0 a1 a2 a3 a4 a5 a6 a7 : AV} {r : List AV} : getA (n + 8) (a0 :: a1 :: a2 :: a3 :: a4 :: a5 :: a6 :: a7 :: r) = getA n r := rfl
theorem setA_s8 {n : Nat} {a0 a1 a2 a3 a4 a5 a6 a7 v : AV} {r : List AV} : setA (n + 8) (a0 :: a1 :: a2 :: a3 :: a4 :: a5 :: a6 :: a7 :: r) v = a0 :: a1 :: a2 :: a3 :: a4 :: a5 :: a6 :: a7 :: setA n r v := rfl
theorem getA_s32 {n : Nat} {a0 a1 a2 a3 a4 a5 a6 a7 a8 a9 a10 a11 a12 a13 a14 a15 a16 a17 a18 a19 a20 a21 a22 a23 a24 a25 a26 a27 a28 a29 a30 a31 : AV} {r : List AV} : getA (n + 32) (a0 :: a1 :: a2 :: a3 :: a4 :: a5 :: a6 :: a7 :: a8 :: a9 :: a10 :: a11 :: a12 :: a13 :: a14 :: a15 :: a16 :: a17 :: a18 :: a19 :: a20 :: a21 :: a22 :: a23 :: a24 :: a25 :: a26 :: a27 :: a28 :: a29 :: a30 :: a31 :: r) = getA n r := rfl
theorem setA_s32 {n : Nat} {a0 a1 a2 a3 a4 a5 a6 a7 a8 a9 a10 a11 a12 a13 a14 a15 a16 a17 a18 a19 a20 a21 a22 a23 a24 a25 a26 a27 a28 a29 a30 a31 v : AV} {r : List AV} : setA (n + 32) (a0 :: a1 :: a2 :: a3 :: a4 :: a5 :: a6 :: a7 :: a8 :: a9 :: a10 :: a11 :: a12 :: a13 :: a14 :: a15 :: a16 :: a17 :: a18 :: a19 :: a20 :: a21 :: a22 :: a23 :: a24 :: a25 :: a26 :: a27 :: a28 :: a29 :: a30 :: a31 :: r) v = a0 :: a1 :: a2 :: a3 :: a4 :: a5 :: a6 :: a7 :: a8 :: a9 :: a10 :: a11 :: a12 :: a13 :: a14 :: a15 :: a16 :: a17 :: a18 :: a19 :: a20 :: a21 :: a22 :: a23 :: a24 :: a25 :: a26 :: a27 :: a28 :: a29 :: a30 :: a31 :: setA n r v := rfl
theorem ev_t {t : List AV} {n : Nat} : ev t (.t n) = getA n t := rfl
theorem ev_c {t : List AV} {v : AV} : ev t (.c v) = v := rfl
theorem strip_bool {b : Bool} : (AV.bool b).strip = (AV.bool b) := rfl
theorem flag_bool {b : Bool} : (AV.bool b).flag = true := rfl
theorem solid_bool {b : Bool} : (AV.bool b).solid = true := rfl
theorem cells_bool {b : Bool} : (AV.bool b).cells = [(AV.bool b)] := rfl
theorem strip_int {k : IntKind} {n : Int} : (AV.int k n).strip = (AV.int k n) := rfl
theorem flag_int {k : IntKind} {n : Int} : (AV.int k n).flag = true := rfl
theorem solid_int {k : IntKind} {n : Int} : (AV.int k n).solid = true := rfl
theorem cells_int {k : IntKind} {n : Int} : (AV.int k n).cells = [(AV.int k n)] := rfl
theorem strip_str {s : List UInt8} : (AV.str s).strip = (AV.str s) := rfl
theorem flag_str {s : List UInt8} : (AV.str s).flag = true := rfl
theorem solid_str {s : List UInt8} : (AV.str s).solid = true := rfl
theorem cells_str {s : List UInt8} : (AV.str s).cells = [(AV.str s)] := rfl
theorem strip_sl {n : Nat} {f : Nat → List AV} : (AV.sl n f).strip = (AV.sl n f) := rfl
theorem flag_sl {n : Nat} {f : Nat → List AV} : (AV.sl n f).flag = true := rfl
theorem solid_sl {n : Nat} {f : Nat → List AV} : (AV.sl n f).solid = true := rfl
theorem cells_sl {n : Nat} {f : Nat → List AV} : (AV.sl n f).cells = [(AV.sl n f)] := rfl
theorem strip_osl {k v s p l : Nat} : (AV.osl k v s p l).strip = (AV.osl k v s p l) := rfl
theorem flag_osl {k v s p l : Nat} : (AV.osl k v s p l).flag = true := rfl
theorem solid_osl {k v s p l : Nat} : (AV.osl k v s p l).solid = true := rfl
theorem cells_osl {k v s p l : Nat} : (AV.osl k v s p l).cells = [(AV.osl k v s p l)] := rfl
theorem strip_agg {c : List AV} : (AV.agg c).strip = (AV.agg c) := rfl
theorem flag_agg {c : List AV} : (AV.agg c).flag = true := rfl
theorem solid_agg {c : List AV} : (AV.agg c).solid = true := rfl
theorem strip_tup {c : List AV} : (AV.tup c).strip = (AV.tup c) := rfl
theorem flag_tup {c : List AV} : (AV.tup c).flag = true := rfl
theorem cells_tup {c : List AV} : (AV.tup c).cells = [(AV.tup c)] := rfl
theorem strip_ip {c : List AV} : (AV.ip c).strip = (AV.ip c) := rfl
theorem flag_ip {c : List AV} : (AV.ip c).flag = true := rfl
theorem solid_ip {c : List AV} : (AV.ip c).solid = true := rfl
theorem cells_ip {c : List AV} : (AV.ip c).cells = [(AV.ip c)] := rfl
theorem strip_op {k v p : Nat} : (AV.op k v p).strip = (AV.op k v p) := rfl
theorem flag_op {k v p : Nat} : (AV.op k v p).flag = true := rfl
theorem solid_op {k v p : Nat} : (AV.op k v p).solid = true := rfl
theorem cells_op {k v p : Nat} : (AV.op k v p).cells = [(AV.op k v p)] := rfl
theorem strip_nilp  : AV.nilp.strip = AV.nilp := rfl
theorem flag_nilp  : AV.nilp.flag = true := rfl
theorem solid_nilp  : AV.nilp.solid = true := rfl
theorem cells_nilp  : AV.nilp.cells = [AV.nilp] := rfl
theorem strip_nl  : AV.nl.strip = AV.nl := rfl
theorem flag_nl  : AV.nl.flag = true := rfl
theorem solid_nl  : AV.nl.solid = true := rfl
theorem cells_nl  : AV.nl.cells = [AV.nl] := rfl
theorem strip_fn {f : Fn} {a c : List AV} : (AV.fn f a c).strip = (AV.fn f a c) := rfl
theorem flag_fn {f : Fn} {a c : List AV} : (AV.fn f a c).flag = true := rfl
theorem solid_fn {f : Fn} {a c : List AV} : (AV.fn f a c).solid = true := rfl
theorem cells_fn {f : Fn} {a c : List AV} : (AV.fn f a c).cells = [(AV.fn f a c)] := rfl
theorem strip_yld {k : Nat} : (AV.yld k).strip = (AV.yld k) := rfl
theorem flag_yld {k : Nat} : (AV.yld k).flag = true := rfl
theorem solid_yld {k : Nat} : (AV.yld k).solid = true := rfl
theorem cells_yld {k : Nat} : (AV.yld k).cells = [(AV.yld k)] := rfl
theorem strip_nilfn  : AV.nilfn.strip = AV.nilfn := rfl
theorem flag_nilfn  : AV.nilfn.flag = true := rfl
theorem solid_nilfn  : AV.nilfn.solid = true := rfl
theorem cells_nilfn  : AV.nilfn.cells = [AV.nilfn] := rfl
theorem strip_ifc  : AV.ifc.strip = AV.ifc := rfl
theorem flag_ifc  : AV.ifc.flag = true := rfl
theorem solid_ifc  : AV.ifc.solid = true := rfl
theorem cells_ifc  : AV.ifc.cells = [AV.ifc] := rfl
theorem strip_nilif  : AV.nilif.strip = AV.nilif := rfl
theorem flag_nilif  : AV.nilif.flag = true := rfl
theorem solid_nilif  : AV.nilif.solid = true := rfl
theorem cells_nilif  : AV.nilif.cells = [AV.nilif] := rfl
theorem strip_undef : AV.undef.strip = AV.undef := rfl
theorem flag_undef : AV.undef.flag = true := rfl
theorem cells_agg {c : List AV} : (AV.agg c).cells = c := rfl
theorem strip_gd {g : Bool} {v : AV} : (AV.gd g v).strip = v := rfl
theorem flag_gd {g : Bool} {v : AV} : (AV.gd g v).flag = g := rfl
theorem w_mv {P : Program} {b : Nat} {r : List RO} {K : Nx} {t : List AV} {h : List AObj} {d : Nat}  {x : X} : opsA P b (⟨some d, none, .mv, [x]⟩ :: r) K t h = ((ev t x).flag = true ∧ opsA P b r K (setA d t ((ev t x).strip)) h) := by simp only [opsA, stepO, stepA, R.kd, evs, flags, strips, putA, okP, okL, valP, valL, and_true, true_and, and_assoc]
theorem wg_mv {P : Program} {b : Nat} {r : List RO} {K : Nx} {t : List AV} {h : List AObj} {d : Nat}  {x : X} {j : Nat} {u : Bool} : opsA P b (⟨some d, some (j, u), .mv, [x]⟩ :: r) K t h = (guardOk (getA j t) = true ∧ (guardA (getA j t) u = true → (ev t x).flag = true) ∧ opsA P b r K (setA d t (.gd (guardA (getA j t) u) ((ev t x).strip))) h) := by simp only [opsA, stepO, stepB, R.kd, evs, flags, strips, putA, okP, okL, valP, valL, and_true, true_and, and_assoc]
theorem w_bin {P : Program} {b : Nat} {r : List RO} {K : Nx} {t : List AV} {h : List AObj} {d : Nat} {q : BinOp} {x y : X} : opsA P b (⟨some d, none, .bin q, [x, y]⟩ :: r) K t h = ((ev t x).flag = true ∧ (ev t y).flag = true ∧ binC q (ev t x).strip (ev t y).strip ∧ opsA P b r K (setA d t (binV q (ev t x).strip (ev t y).strip)) h) := by simp only [opsA, stepO, stepA, R.kd, evs, flags, strips, putA, okP, okL, valP, valL, and_true, true_and, and_assoc]
theorem wg_bin {P : Program} {b : Nat} {r : List RO} {K : Nx} {t : List AV} {h : List AObj} {d : Nat} {q : BinOp} {x y : X} {j : Nat} {u : Bool} : opsA P b (⟨some d, some (j, u), .bin q, [x, y]⟩ :: r) K t h = (guardOk (getA j t) = true ∧ (guardA (getA j t) u = true → (ev t x).flag = true ∧ (ev t y).flag = true ∧ binC q (ev t x).strip (ev t y).strip) ∧ opsA P b r K (setA d t (.gd (guardA (getA j t) u) (binV q (ev t x).strip (ev t y).strip))) h) := by simp only [opsA, stepO, stepB, R.kd, evs, flags, strips, putA, okP, okL, valP, valL, and_true, true_and, and_assoc]
theorem w_bool {P : Program} {b : Nat} {r : List RO} {K : Nx} {t : List AV} {h : List AObj} {d : Nat} {n : Bool} {xs : List X} : opsA P b (⟨some d, none, .bool n, xs⟩ :: r) K t h = (flags (evs t xs) ∧ okP (.bool n) (strips (evs t xs)) ∧ opsA P b r K (setA d t (valP (.bool n) (strips (evs t xs)))) h) := by simp only [opsA, stepO, stepA, R.kd, putA]
theorem wg_bool {P : Program} {b : Nat} {r : List RO} {K : Nx} {t : List AV} {h : List AObj} {d : Nat} {n : Bool} {xs : List X} {j : Nat} {u : Bool} : opsA P b (⟨some d, some (j, u), .bool n, xs⟩ :: r) K t h = (guardOk (getA j t) = true ∧ (guardA (getA j t) u = true → flags (evs t xs) ∧ okP (.bool n) (strips (evs t xs))) ∧ opsA P b r K (setA d t (.gd (guardA (getA j t) u) (valP (.bool n) (strips (evs t xs))))) h) := by simp only [opsA, stepO, stepB, R.kd, putA]
theorem w_un {P : Program} {b : Nat} {r : List RO} {K : Nx} {t : List AV} {h : List AObj} {d : Nat} {q : UnOp} {xs : List X} : opsA P b (⟨some d, none, .un q, xs⟩ :: r) K t h = (flags (evs t xs) ∧ okP (.un q) (strips (evs t xs)) ∧ opsA P b r K (setA d t (valP (.un q) (strips (evs t xs)))) h) := by simp only [opsA, stepO, stepA, R.kd, putA]
theorem wg_un {P : Program} {b : Nat} {r : List RO} {K : Nx} {t : List AV} {h : List AObj} {d : Nat} {q : UnOp} {xs : List X} {j : Nat} {u : Bool} : opsA P b (⟨some d, some (j, u), .un q, xs⟩ :: r) K t h = (guardOk (getA j t) = true ∧ (guardA (getA j t) u = true → flags (evs t xs) ∧ okP (.un q) (strips (evs t xs))) ∧ opsA P b r K (setA d t (.gd (guardA (getA j t) u) (valP (.un q) (strips (evs t xs))))) h) := by simp only [opsA, stepO, stepB, R.kd, putA]
theorem w_conv {P : Program} {b : Nat} {r : List RO} {K : Nx} {t : List AV} {h : List AObj} {d : Nat} {k : IntKind} {xs : List X} : opsA P b (⟨some d, none, .conv k, xs⟩ :: r) K t h = (flags (evs t xs) ∧ okP (.conv k) (strips (evs t xs)) ∧ opsA P b r K (setA d t (valP (.conv k) (strips (evs t xs)))) h) := by simp only [opsA, stepO, stepA, R.kd, putA]
theorem wg_conv {P : Program} {b : Nat} {r : List RO} {K : Nx} {t : List AV} {h : List AObj} {d : Nat} {k : IntKind} {xs : List X} {j : Nat} {u : Bool} : opsA P b (⟨some d, some (j, u), .conv k, xs⟩ :: r) K t h = (guardOk (getA j t) = true ∧ (guardA (getA j t) u = true → flags (evs t xs) ∧ okP (.conv k) (strips (evs t xs))) ∧ opsA P b r K (setA d t (.gd (guardA (getA j t) u) (valP (.conv k) (strips (evs t xs))))) h) := by simp only [opsA, stepO, stepB, R.kd, putA]
theorem w_isnil {P : Program} {b : Nat} {r : List RO} {K : Nx} {t : List AV} {h : List AObj} {d : Nat} {k : NK} {n : Bool} {xs : List X} : opsA P b (⟨some d, none, .isnil k n, xs⟩ :: r) K t h = (flags (evs t xs) ∧ okP (.isnil k n) (strips (evs t xs)) ∧ opsA P b r K (setA d t (valP (.isnil k n) (strips (evs t xs)))) h) := by simp only [opsA, stepO, stepA, R.kd, putA]
theorem wg_isnil {P : Program} {b : Nat} {r : List RO} {K : Nx} {t : List AV} {h : List AObj} {d : Nat} {k : NK} {n : Bool} {xs : List X} {j : Nat} {u : Bool} : opsA P b (⟨some d, some (j, u), .isnil k n, xs⟩ :: r) K t h = (guardOk (getA j t) = true ∧ (guardA (getA j t) u = true → flags (evs t xs) ∧ okP (.isnil k n) (strips (evs t xs))) ∧ opsA P b r K (setA d t (.gd (guardA (getA j t) u) (valP (.isnil k n) (strips (evs t xs))))) h) := by simp only [opsA, stepO, stepB, R.kd, putA]
theorem w_aeq {P : Program} {b : Nat} {r : List RO} {K : Nx} {t : List AV} {h : List AObj} {d : Nat} {ks : List AK} {n : Bool} {xs : List X} : opsA P b (⟨some d, none, .aeq ks n, xs⟩ :: r) K t h = (flags (evs t xs) ∧ okP (.aeq ks n) (strips (evs t xs)) ∧ opsA P b r K (setA d t (valP (.aeq ks n) (strips (evs t xs)))) h) := by simp only [opsA, stepO, stepA, R.kd, putA]
theorem wg_aeq {P : Program} {b : Nat} {r : List RO} {K : Nx} {t : List AV} {h : List AObj} {d : Nat} {ks : List AK} {n : Bool} {xs : List X} {j : Nat} {u : Bool} : opsA P b (⟨some d, some (j, u), .aeq ks n, xs⟩ :: r) K t h = (guardOk (getA j t) = true ∧ (guardA (getA j t) u = true → flags (evs t xs) ∧ okP (.aeq ks n) (strips (evs t xs))) ∧ opsA P b r K (setA d t (.gd (guardA (getA j t) u) (valP (.aeq ks n) (strips (evs t xs))))) h) := by simp only [opsA, stepO, stepB, R.kd, putA]
theorem w_fld {P : Program} {b : Nat} {r : List RO} {K : Nx} {t : List AV} {h : List AObj} {d : Nat} {p : Nat} {n : Option Nat} {xs : List X} : opsA P b (⟨some d, none, .fld p n, xs⟩ :: r) K t h = (flags (evs t xs) ∧ okP (.fld p n) (strips (evs t xs)) ∧ opsA P b r K (setA d t (valP (.fld p n) (strips (evs t xs)))) h) := by simp only [opsA, stepO, stepA, R.kd, putA]
theorem wg_fld {P : Program} {b : Nat} {r : List RO} {K : Nx} {t : List AV} {h : List AObj} {d : Nat} {p : Nat} {n : Option Nat} {xs : List X} {j : Nat} {u : Bool} : opsA P b (⟨some d, some (j, u), .fld p n, xs⟩ :: r) K t h = (guardOk (getA j t) = true ∧ (guardA (getA j t) u = true → flags (evs t xs) ∧ okP (.fld p n) (strips (evs t xs))) ∧ opsA P b r K (setA d t (.gd (guardA (getA j t) u) (valP (.fld p n) (strips (evs t xs))))) h) := by simp only [opsA, stepO, stepB, R.kd, putA]
theorem w_ext {P : Program} {b : Nat} {r : List RO} {K : Nx} {t : List AV} {h : List AObj} {d : Nat} {i : Nat} {xs : List X} : opsA P b (⟨some d, none, .ext i, xs⟩ :: r) K t h = (flags (evs t xs) ∧ okP (.ext i) (strips (evs t xs)) ∧ opsA P b r K (setA d t (valP (.ext i) (strips (evs t xs)))) h) := by simp only [opsA, stepO, stepA, R.kd, putA]
theorem wg_ext {P : Program} {b : Nat} {r : List RO} {K : Nx} {t : List AV} {h : List AObj} {d : Nat} {i : Nat} {xs : List X} {j : Nat} {u : Bool} : opsA P b (⟨some d, some (j, u), .ext i, xs⟩ :: r) K t h = (guardOk (getA j t) = true ∧ (guardA (getA j t) u = true → flags (evs t xs) ∧ okP (.ext i) (strips (evs t xs))) ∧ opsA P b r K (setA d t (.gd (guardA (getA j t) u) (valP (.ext i) (strips (evs t xs))))) h) := by simp only [opsA, stepO, stepB, R.kd, putA]
theorem w_build {P : Program} {b : Nat} {r : List RO} {K : Nx} {t : List AV} {h : List AObj} {d : Nat} {z : List AV} {ps : List (Nat × Nat)} {xs : List X} : opsA P b (⟨some d, none, .build z ps, xs⟩ :: r) K t h = (flags (evs t xs) ∧ okP (.build z ps) (strips (evs t xs)) ∧ opsA P b r K (setA d t (valP (.build z ps) (strips (evs t xs)))) h) := by simp only [opsA, stepO, stepA, R.kd, putA]
theorem wg_build {P : Program} {b : Nat} {r : List RO} {K : Nx} {t : List AV} {h : List AObj} {d : Nat} {z : List AV} {ps : List (Nat × Nat)} {xs : List X} {j : Nat} {u : Bool} : opsA P b (⟨some d, some (j, u), .build z ps, xs⟩ :: r) K t h = (guardOk (getA j t) = true ∧ (guardA (getA j t) u = true → flags (evs t xs) ∧ okP (.build z ps) (strips (evs t xs))) ∧ opsA P b r K (setA d t (.gd (guardA (getA j t) u) (valP (.build z ps) (strips (evs t xs))))) h) := by simp only [opsA, stepO, stepB, R.kd, putA]
theorem w_mkfn {P : Program} {b : Nat} {r : List RO} {K : Nx} {t : List AV} {h : List AObj} {d : Nat} {f : Fn} {n : Nat} {xs : List X} : opsA P b (⟨some d, none, .mkfn f n, xs⟩ :: r) K t h = (flags (evs t xs) ∧ okP (.mkfn f n) (strips (evs t xs)) ∧ opsA P b r K (setA d t (valP (.mkfn f n) (strips (evs t xs)))) h) := by simp only [opsA, stepO, stepA, R.kd, putA]
theorem wg_mkfn {P : Program} {b : Nat} {r : List RO} {K : Nx} {t : List AV} {h : List AObj} {d : Nat} {f : Fn} {n : Nat} {xs : List X} {j : Nat} {u : Bool} : opsA P b (⟨some d, some (j, u), .mkfn f n, xs⟩ :: r) K t h = (guardOk (getA j t) = true ∧ (guardA (getA j t) u = true → flags (evs t xs) ∧ okP (.mkfn f n) (strips (evs t xs))) ∧ opsA P b r K (setA d t (.gd (guardA (getA j t) u) (valP (.mkfn f n) (strips (evs t xs))))) h) := by simp only [opsA, stepO, stepB, R.kd, putA]
theorem w_slen {P : Program} {b : Nat} {r : List RO} {K : Nx} {t : List AV} {h : List AObj} {d : Nat}  {xs : List X} : opsA P b (⟨some d, none, .slen, xs⟩ :: r) K t h = (flags (evs t xs) ∧ okP (.slen) (strips (evs t xs)) ∧ opsA P b r K (setA d t (valP (.slen) (strips (evs t xs)))) h) := by simp only [opsA, stepO, stepA, R.kd, putA]
theorem wg_slen {P : Program} {b : Nat} {r : List RO} {K : Nx} {t : List AV} {h : List AObj} {d : Nat}  {xs : List X} {j : Nat} {u : Bool} : opsA P b (⟨some d, some (j, u), .slen, xs⟩ :: r) K t h = (guardOk (getA j t) = true ∧ (guardA (getA j t) u = true → flags (evs t xs) ∧ okP (.slen) (strips (evs t xs))) ∧ opsA P b r K (setA d t (.gd (guardA (getA j t) u) (valP (.slen) (strips (evs t xs))))) h) := by simp only [opsA, stepO, stepB, R.kd, putA]
theorem w_sidx {P : Program} {b : Nat} {r : List RO} {K : Nx} {t : List AV} {h : List AObj} {d : Nat}  {xs : List X} : opsA P b (⟨some d, none, .sidx, xs⟩ :: r) K t h = (flags (evs t xs) ∧ okP (.sidx) (strips (evs t xs)) ∧ opsA P b r K (setA d t (valP (.sidx) (strips (evs t xs)))) h) := by simp only [opsA, stepO, stepA, R.kd, putA]
theorem wg_sidx {P : Program} {b : Nat} {r : List RO} {K : Nx} {t : List AV} {h : List AObj} {d : Nat}  {xs : List X} {j : Nat} {u : Bool} : opsA P b (⟨some d, some (j, u), .sidx, xs⟩ :: r) K t h = (guardOk (getA j t) = true ∧ (guardA (getA j t) u = true → flags (evs t xs) ∧ okP (.sidx) (strips (evs t xs))) ∧ opsA P b r K (setA d t (.gd (guardA (getA j t) u) (valP (.sidx) (strips (evs t xs))))) h) := by simp only [opsA, stepO, stepB, R.kd, putA]
theorem w_sslc {P : Program} {b : Nat} {r : List RO} {K : Nx} {t : List AV} {h : List AObj} {d : Nat} {lo hi : Bool} {xs : List X} : opsA P b (⟨some d, none, .sslc lo hi, xs⟩ :: r) K t h = (flags (evs t xs) ∧ okP (.sslc lo hi) (strips (evs t xs)) ∧ opsA P b r K (setA d t (valP (.sslc lo hi) (strips (evs t xs)))) h) := by simp only [opsA, stepO, stepA, R.kd, putA]
theorem wg_sslc {P : Program} {b : Nat} {r : List RO} {K : Nx} {t : List AV} {h : List AObj} {d : Nat} {lo hi : Bool} {xs : List X} {j : Nat} {u : Bool} : opsA P b (⟨some d, some (j, u), .sslc lo hi, xs⟩ :: r) K t h = (guardOk (getA j t) = true ∧ (guardA (getA j t) u = true → flags (evs t xs) ∧ okP (.sslc lo hi) (strips (evs t xs))) ∧ opsA P b r K (setA d t (.gd (guardA (getA j t) u) (valP (.sslc lo hi) (strips (evs t xs))))) h) := by simp only [opsA, stepO, stepB, R.kd, putA]
theorem w_mm {P : Program} {b : Nat} {r : List RO} {K : Nx} {t : List AV} {h : List AObj} {d : Nat} {m : Bool} {xs : List X} : opsA P b (⟨some d, none, .mm m, xs⟩ :: r) K t h = (flags (evs t xs) ∧ okP (.mm m) (strips (evs t xs)) ∧ opsA P b r K (setA d t (valP (.mm m) (strips (evs t xs)))) h) := by simp only [opsA, stepO, stepA, R.kd, putA]
theorem wg_mm {P : Program} {b : Nat} {r : List RO} {K : Nx} {t : List AV} {h : List AObj} {d : Nat} {m : Bool} {xs : List X} {j : Nat} {u : Bool} : opsA P b (⟨some d, some (j, u), .mm m, xs⟩ :: r) K t h = (guardOk (getA j t) = true ∧ (guardA (getA j t) u = true → flags (evs t xs) ∧ okP (.mm m) (strips (evs t xs))) ∧ opsA P b r K (setA d t (.gd (guardA (getA j t) u) (valP (.mm m) (strips (evs t xs))))) h) := by simp only [opsA, stepO, stepB, R.kd, putA]
theorem w_len {P : Program} {b : Nat} {r : List RO} {K : Nx} {t : List AV} {h : List AObj} {d : Nat}  {xs : List X} : opsA P b (⟨some d, none, .len, xs⟩ :: r) K t h = (flags (evs t xs) ∧ okL h (.len) (strips (evs t xs)) ∧ opsA P b r K (setA d t (valL h (.len) (strips (evs t xs)))) h) := by simp only [opsA, stepO, stepA, R.kd, putA]
theorem wg_len {P : Program} {b : Nat} {r : List RO} {K : Nx} {t : List AV} {h : List AObj} {d : Nat}  {xs : List X} {j : Nat} {u : Bool} : opsA P b (⟨some d, some (j, u), .len, xs⟩ :: r) K t h = (guardOk (getA j t) = true ∧ (guardA (getA j t) u = true → flags (evs t xs) ∧ okL h (.len) (strips (evs t xs))) ∧ opsA P b r K (setA d t (.gd (guardA (getA j t) u) (valL h (.len) (strips (evs t xs))))) h) := by simp only [opsA, stepO, stepB, R.kd, putA]
theorem w_idxA {P : Program} {b : Nat} {r : List RO} {K : Nx} {t : List AV} {h : List AObj} {d : Nat} {z : Nat} {xs : List X} : opsA P b (⟨some d, none, .idxA z, xs⟩ :: r) K t h = (flags (evs t xs) ∧ okL h (.idxA z) (strips (evs t xs)) ∧ opsA P b r K (setA d t (valL h (.idxA z) (strips (evs t xs)))) h) := by simp only [opsA, stepO, stepA, R.kd, putA]
theorem wg_idxA {P : Program} {b : Nat} {r : List RO} {K : Nx} {t : List AV} {h : List AObj} {d : Nat} {z : Nat} {xs : List X} {j : Nat} {u : Bool} : opsA P b (⟨some d, some (j, u), .idxA z, xs⟩ :: r) K t h = (guardOk (getA j t) = true ∧ (guardA (getA j t) u = true → flags (evs t xs) ∧ okL h (.idxA z) (strips (evs t xs))) ∧ opsA P b r K (setA d t (.gd (guardA (getA j t) u) (valL h (.idxA z) (strips (evs t xs))))) h) := by simp only [opsA, stepO, stepB, R.kd, putA]
theorem w_idxArr {P : Program} {b : Nat} {r : List RO} {K : Nx} {t : List AV} {h : List AObj} {d : Nat} {m z : Nat} {xs : List X} : opsA P b (⟨some d, none, .idxArr m z, xs⟩ :: r) K t h = (flags (evs t xs) ∧ okL h (.idxArr m z) (strips (evs t xs)) ∧ opsA P b r K (setA d t (valL h (.idxArr m z) (strips (evs t xs)))) h) := by simp only [opsA, stepO, stepA, R.kd, putA]
theorem wg_idxArr {P : Program} {b : Nat} {r : List RO} {K : Nx} {t : List AV} {h : List AObj} {d : Nat} {m z : Nat} {xs : List X} {j : Nat} {u : Bool} : opsA P b (⟨some d, some (j, u), .idxArr m z, xs⟩ :: r) K t h = (guardOk (getA j t) = true ∧ (guardA (getA j t) u = true → flags (evs t xs) ∧ okL h (.idxArr m z) (strips (evs t xs))) ∧ opsA P b r K (setA d t (.gd (guardA (getA j t) u) (valL h (.idxArr m z) (strips (evs t xs))))) h) := by simp only [opsA, stepO, stepB, R.kd, putA]
theorem w_fldA {P : Program} {b : Nat} {r : List RO} {K : Nx} {t : List AV} {h : List AObj} {d : Nat} {p : Nat} {xs : List X} : opsA P b (⟨some d, none, .fldA p, xs⟩ :: r) K t h = (flags (evs t xs) ∧ okL h (.fldA p) (strips (evs t xs)) ∧ opsA P b r K (setA d t (valL h (.fldA p) (strips (evs t xs)))) h) := by simp only [opsA, stepO, stepA, R.kd, putA]
theorem wg_fldA {P : Program} {b : Nat} {r : List RO} {K : Nx} {t : List AV} {h : List AObj} {d : Nat} {p : Nat} {xs : List X} {j : Nat} {u : Bool} : opsA P b (⟨some d, some (j, u), .fldA p, xs⟩ :: r) K t h = (guardOk (getA j t) = true ∧ (guardA (getA j t) u = true → flags (evs t xs) ∧ okL h (.fldA p) (strips (evs t xs))) ∧ opsA P b r K (setA d t (.gd (guardA (getA j t) u) (valL h (.fldA p) (strips (evs t xs))))) h) := by simp only [opsA, stepO, stepB, R.kd, putA]
theorem w_load {P : Program} {b : Nat} {r : List RO} {K : Nx} {t : List AV} {h : List AObj} {d : Nat} {n : Option Nat} {xs : List X} : opsA P b (⟨some d, none, .load n, xs⟩ :: r) K t h = (flags (evs t xs) ∧ okL h (.load n) (strips (evs t xs)) ∧ opsA P b r K (setA d t (valL h (.load n) (strips (evs t xs)))) h) := by simp only [opsA, stepO, stepA, R.kd, putA]
theorem wg_load {P : Program} {b : Nat} {r : List RO} {K : Nx} {t : List AV} {h : List AObj} {d : Nat} {n : Option Nat} {xs : List X} {j : Nat} {u : Bool} : opsA P b (⟨some d, some (j, u), .load n, xs⟩ :: r) K t h = (guardOk (getA j t) = true ∧ (guardA (getA j t) u = true → flags (evs t xs) ∧ okL h (.load n) (strips (evs t xs))) ∧ opsA P b r K (setA d t (.gd (guardA (getA j t) u) (valL h (.load n) (strips (evs t xs))))) h) := by simp only [opsA, stepO, stepB, R.kd, putA]
theorem w_nilchk {P : Program} {b : Nat} {r : List RO} {K : Nx} {t : List AV} {h : List AObj} {d : Nat}  {xs : List X} : opsA P b (⟨some d, none, .nilchk, xs⟩ :: r) K t h = (flags (evs t xs) ∧ okL h (.nilchk) (strips (evs t xs)) ∧ opsA P b r K (setA d t (valL h (.nilchk) (strips (evs t xs)))) h) := by simp only [opsA, stepO, stepA, R.kd, putA]
theorem wg_nilchk {P : Program} {b : Nat} {r : List RO} {K : Nx} {t : List AV} {h : List AObj} {d : Nat}  {xs : List X} {j : Nat} {u : Bool} : opsA P b (⟨some d, some (j, u), .nilchk, xs⟩ :: r) K t h = (guardOk (getA j t) = true ∧ (guardA (getA j t) u = true → flags (evs t xs) ∧ okL h (.nilchk) (strips (evs t xs))) ∧ opsA P b r K (setA d t (.gd (guardA (getA j t) u) (valL h (.nilchk) (strips (evs t xs))))) h) := by simp only [opsA, stepO, stepB, R.kd, putA]
theorem w_slc {P : Program} {b : Nat} {r : List RO} {K : Nx} {t : List AV} {h : List AObj} {d : Nat} {z : Nat} {lo hi : Bool} {xs : List X} : opsA P b (⟨some d, none, .slc z lo hi, xs⟩ :: r) K t h = (flags (evs t xs) ∧ okL h (.slc z lo hi) (strips (evs t xs)) ∧ opsA P b r K (setA d t (valL h (.slc z lo hi) (strips (evs t xs)))) h) := by simp only [opsA, stepO, stepA, R.kd, putA]
theorem wg_slc {P : Program} {b : Nat} {r : List RO} {K : Nx} {t : List AV} {h : List AObj} {d : Nat} {z : Nat} {lo hi : Bool} {xs : List X} {j : Nat} {u : Bool} : opsA P b (⟨some d, some (j, u), .slc z lo hi, xs⟩ :: r) K t h = (guardOk (getA j t) = true ∧ (guardA (getA j t) u = true → flags (evs t xs) ∧ okL h (.slc z lo hi) (strips (evs t xs))) ∧ opsA P b r K (setA d t (.gd (guardA (getA j t) u) (valL h (.slc z lo hi) (strips (evs t xs))))) h) := by simp only [opsA, stepO, stepB, R.kd, putA]
theorem w_pick {P : Program} {b : Nat} {r : List RO} {K : Nx} {t : List AV} {h : List AObj} {d : Nat} {c x y : X} : opsA P b (⟨some d, none, .pick, [c, x, y]⟩ :: r) K t h = (pickOk (ev t c) (ev t x) (ev t y) ∧ opsA P b r K (setA d t (pickV (ev t c) (ev t x) (ev t y))) h) := by simp only [opsA, stepO, stepA, R.kd, putA, evs]
theorem wg_pick {P : Program} {b : Nat} {r : List RO} {K : Nx} {t : List AV} {h : List AObj} {d : Nat} {c x y : X} {j : Nat} {u : Bool} : opsA P b (⟨some d, some (j, u), .pick, [c, x, y]⟩ :: r) K t h = (guardOk (getA j t) = true ∧ (guardA (getA j t) u = true → pickOk (ev t c) (ev t x) (ev t y)) ∧ opsA P b r K (setA d t (.gd (guardA (getA j t) u) (pickV (ev t c) (ev t x) (ev t y)))) h) := by simp only [opsA, stepO, stepB, R.kd, putA, evs]
theorem w_nilo {P : Program} {b : Nat} {r : List RO} {K : Nx} {t : List AV} {h : List AObj} {d : Option Nat} {j z : Nat} {ty : TypeId} {xs : List X} : opsA P b (⟨d, none, .nilo j z ty, xs⟩ :: r) K t h = (flags (evs t xs) ∧ effE b h (.nilo j z ty) (strips (evs t xs)) t d (opsA P b r K)) := by simp only [opsA, stepO, stepA, R.kd]
theorem w_alloc {P : Program} {b : Nat} {r : List RO} {K : Nx} {t : List AV} {h : List AObj} {d : Option Nat} {j : Nat} {ty : TypeId} {z : List AV} {xs : List X} : opsA P b (⟨d, none, .alloc j ty z, xs⟩ :: r) K t h = (flags (evs t xs) ∧ effE b h (.alloc j ty z) (strips (evs t xs)) t d (opsA P b r K)) := by simp only [opsA, stepO, stepA, R.kd]
theorem w_box {P : Program} {b : Nat} {r : List RO} {K : Nx} {t : List AV} {h : List AObj} {d : Option Nat} {j : Nat} {ty : TypeId} {xs : List X} : opsA P b (⟨d, none, .box j ty, xs⟩ :: r) K t h = (flags (evs t xs) ∧ effE b h (.box j ty) (strips (evs t xs)) t d (opsA P b r K)) := by simp only [opsA, stepO, stepA, R.kd]
theorem w_store {P : Program} {b : Nat} {r : List RO} {K : Nx} {t : List AV} {h : List AObj} {d : Option Nat} {n : Nat} {xs : List X} : opsA P b (⟨d, none, .store n, xs⟩ :: r) K t h = (flags (evs t xs) ∧ effE b h (.store n) (strips (evs t xs)) t d (opsA P b r K)) := by simp only [opsA, stepO, stepA, R.kd]
theorem w_mkslc {P : Program} {b : Nat} {r : List RO} {K : Nx} {t : List AV} {h : List AObj} {d : Option Nat} {j z m : Nat} {ty : TypeId} {zs : List AV} {xs : List X} : opsA P b (⟨d, none, .mkslc j z ty zs m, xs⟩ :: r) K t h = (flags (evs t xs) ∧ effE b h (.mkslc j z ty zs m) (strips (evs t xs)) t d (opsA P b r K)) := by simp only [opsA, stepO, stepA, R.kd]
theorem w_bslc {P : Program} {b : Nat} {r : List RO} {K : Nx} {t : List AV} {h : List AObj} {d : Option Nat} {j z n : Nat} {ty : TypeId} {zs : List AV} {ps : List (Nat × Nat)} {xs : List X} : opsA P b (⟨d, none, .bslc j z n ty zs ps, xs⟩ :: r) K t h = (flags (evs t xs) ∧ effE b h (.bslc j z n ty zs ps) (strips (evs t xs)) t d (opsA P b r K)) := by simp only [opsA, stepO, stepA, R.kd]
theorem w_app {P : Program} {b : Nat} {r : List RO} {K : Nx} {t : List AV} {h : List AObj} {d : Option Nat} {j z m : Nat} {ty : TypeId} {xs : List X} : opsA P b (⟨d, none, .app j z ty m, xs⟩ :: r) K t h = (flags (evs t xs) ∧ effE b h (.app j z ty m) (strips (evs t xs)) t d (opsA P b r K)) := by simp only [opsA, stepO, stepA, R.kd]
theorem w_apps {P : Program} {b : Nat} {r : List RO} {K : Nx} {t : List AV} {h : List AObj} {d : Option Nat} {j : Nat} {ty : TypeId} {xs : List X} : opsA P b (⟨d, none, .apps j ty, xs⟩ :: r) K t h = (flags (evs t xs) ∧ effE b h (.apps j ty) (strips (evs t xs)) t d (opsA P b r K)) := by simp only [opsA, stepO, stepA, R.kd]
theorem w_call {P : Program} {b : Nat} {r : List RO} {K : Nx} {t : List AV} {h : List AObj} {d : Option Nat} {f : Nat} {p : Bool} {xs : List X} : opsA P b (⟨d, none, .call f p, xs⟩ :: r) K t h = callA P f p (evs t xs) d (opsA P b r K) t h := by simp only [opsA, stepO, stepA, R.kd]
theorem wg_call {P : Program} {b : Nat} {r : List RO} {K : Nx} {t : List AV} {h : List AObj} {d : Option Nat} {f : Nat} {p : Bool} {xs : List X} {j : Nat} {u : Bool} : opsA P b (⟨d, some (j, u), .call f p, xs⟩ :: r) K t h = (guardOk (getA j t) = true ∧ callG P f p (guardA (getA j t) u) (evs t xs) d (opsA P b r K) t h) := by simp only [opsA, stepO, stepB, R.kd]
theorem w_callv {P : Program} {b : Nat} {r : List RO} {K : Nx} {t : List AV} {h : List AObj} {d : Option Nat} {xs : List X} : opsA P b (⟨d, none, .callv, xs⟩ :: r) K t h = (flags (evs t xs) ∧ callV P (strips (evs t xs)) d (opsA P b r K) t h) := by simp only [opsA, stepO, stepA, R.kd]
theorem w_nil {P : Program} {b : Nat} {K : Nx} {t : List AV} {h : List AObj} : opsA P b [] K t h = K t h := (rfl)
theorem evs_nil {t : List AV} : evs t [] = [] := rfl
theorem evs_cons {t : List AV} {x : X} {r : List X} : evs t (x :: r) = ev t x :: evs t r := rfl
theorem strips_nil : strips [] = [] := rfl
theorem strips_cons {x : AV} {r : List AV} : strips (x :: r) = x.strip :: strips r := rfl
theorem flags_nil : flags [] = True := rfl
theorem flags_cons {x : AV} {r : List AV} : flags (x :: r) = (x.flag = true ∧ flags r) := rfl
theorem binV_iadd {k l : IntKind} {a c : Int} : binV .add (.int k a) (.int l c) = .int k (k.wrap (a + c)) := rfl
theorem binC_iadd {k l : IntKind} {a c : Int} : binC .add (.int k a) (.int l c) = (k = l) := rfl
theorem binV_isub {k l : IntKind} {a c : Int} : binV .sub (.int k a) (.int l c) = .int k (k.wrap (a - c)) := rfl
theorem binC_isub {k l : IntKind} {a c : Int} : binC .sub (.int k a) (.int l c) = (k = l) := rfl
theorem binV_imul {k l : IntKind} {a c : Int} : binV .mul (.int k a) (.int l c) = .int k (k.wrap (a * c)) := rfl
theorem binC_imul {k l : IntKind} {a c : Int} : binC .mul (.int k a) (.int l c) = (k = l) := rfl
theorem binV_iquo {k l : IntKind} {a c : Int} : binV .quo (.int k a) (.int l c) = .int k (k.wrap (a.tdiv c)) := rfl
theorem binC_iquo {k l : IntKind} {a c : Int} : binC .quo (.int k a) (.int l c) = (k = l ∧ c ≠ 0) := rfl
theorem binV_irem {k l : IntKind} {a c : Int} : binV .rem (.int k a) (.int l c) = .int k (a.tmod c) := rfl
theorem binC_irem {k l : IntKind} {a c : Int} : binC .rem (.int k a) (.int l c) = (k = l ∧ c ≠ 0) := rfl
theorem binV_ishl {k l : IntKind} {a c : Int} : binV .shl (.int k a) (.int l c) = .int k (shlK k a c) := rfl
theorem binC_ishl {k l : IntKind} {a c : Int} : binC .shl (.int k a) (.int l c) = (0 ≤ c) := rfl
theorem binV_ishr {k l : IntKind} {a c : Int} : binV .shr (.int k a) (.int l c) = .int k (shrK k a c) := rfl
theorem binC_ishr {k l : IntKind} {a c : Int} : binC .shr (.int k a) (.int l c) = (0 ≤ c) := rfl
theorem binV_ieql {k l : IntKind} {a c : Int} : binV .eql (.int k a) (.int l c) = .bool (decide (a = c)) := rfl
theorem binC_ieql {k l : IntKind} {a c : Int} : binC .eql (.int k a) (.int l c) = (k = l) := rfl
theorem binV_ineq {k l : IntKind} {a c : Int} : binV .neq (.int k a) (.int l c) = .bool (!decide (a = c)) := rfl
theorem binC_ineq {k l : IntKind} {a c : Int} : binC .neq (.int k a) (.int l c) = (k = l) := rfl
theorem binV_ilss {k l : IntKind} {a c : Int} : binV .lss (.int k a) (.int l c) = .bool (decide (a < c)) := rfl
theorem binC_ilss {k l : IntKind} {a c : Int} : binC .lss (.int k a) (.int l c) = (k = l) := rfl
theorem binV_ileq {k l : IntKind} {a c : Int} : binV .leq (.int k a) (.int l c) = .bool (decide (a ≤ c)) := rfl
theorem binC_ileq {k l : IntKind} {a c : Int} : binC .leq (.int k a) (.int l c) = (k = l) := rfl
theorem binV_igtr {k l : IntKind} {a c : Int} : binV .gtr (.int k a) (.int l c) = .bool (decide (c < a)) := rfl
theorem binC_igtr {k l : IntKind} {a c : Int} : binC .gtr (.int k a) (.int l c) = (k = l) := rfl
theorem binV_igeq {k l : IntKind} {a c : Int} : binV .geq (.int k a) (.int l c) = .bool (decide (c ≤ a)) := rfl
theorem binC_igeq {k l : IntKind} {a c : Int} : binC .geq (.int k a) (.int l c) = (k = l) := rfl
theorem binV_iand {k l : IntKind} {a c : Int} : binV .and (.int k a) (.int l c) = .int k (andK k a c) := rfl
theorem binC_iand {k l : IntKind} {a c : Int} : binC .and (.int k a) (.int l c) = (k = l) := rfl
theorem binV_ior {k l : IntKind} {a c : Int} : binV .or (.int k a) (.int l c) = .int k (orK k a c) := rfl
theorem binC_ior {k l : IntKind} {a c : Int} : binC .or (.int k a) (.int l c) = (k = l) := rfl
theorem binV_ixor {k l : IntKind} {a c : Int} : binV .xor (.int k a) (.int l c) = .int k (xorK k a c) := rfl
theorem binC_ixor {k l : IntKind} {a c : Int} : binC .xor (.int k a) (.int l c) = (k = l) := rfl
theorem binV_iandNot {k l : IntKind} {a c : Int} : binV .andNot (.int k a) (.int l c) = .int k (andNotK k a c) := rfl
theorem binC_iandNot {k l : IntKind} {a c : Int} : binC .andNot (.int k a) (.int l c) = (k = l) := rfl
theorem binV_sadd {s u : List UInt8} : binV .add (.str s) (.str u) = .str (s ++ u) := rfl
theorem binC_sadd {s u : List UInt8} : binC .add (.str s) (.str u) = (s.length + u.length ≤ 9223372036854775807) := rfl
theorem binV_seql {s u : List UInt8} : binV .eql (.str s) (.str u) = .bool (decide (s = u)) := rfl
theorem binC_seql {s u : List UInt8} : binC .eql (.str s) (.str u) = True := rfl
theorem binV_sneq {s u : List UInt8} : binV .neq (.str s) (.str u) = .bool (!decide (s = u)) := rfl
theorem binC_sneq {s u : List UInt8} : binC .neq (.str s) (.str u) = True := rfl
theorem binV_slss {s u : List UInt8} : binV .lss (.str s) (.str u) = .bool (Op.bytesLess s u) := rfl
theorem binC_slss {s u : List UInt8} : binC .lss (.str s) (.str u) = True := rfl
theorem binV_sleq {s u : List UInt8} : binV .leq (.str s) (.str u) = .bool (Op.bytesLess s u || decide (s = u)) := rfl
theorem binC_sleq {s u : List UInt8} : binC .leq (.str s) (.str u) = True := rfl
theorem binV_sgtr {s u : List UInt8} : binV .gtr (.str s) (.str u) = .bool (!(Op.bytesLess s u || decide (s = u))) := rfl
theorem binC_sgtr {s u : List UInt8} : binC .gtr (.str s) (.str u) = True := rfl
theorem binV_sgeq {s u : List UInt8} : binV .geq (.str s) (.str u) = .bool (!Op.bytesLess s u) := rfl
theorem binC_sgeq {s u : List UInt8} : binC .geq (.str s) (.str u) = True := rfl
theorem valP_bool {n p q : Bool} : valP (.bool n) [.bool p, .bool q] = .bool (n != (p == q)) := rfl
theorem okP_bool {n p q : Bool} : okP (.bool n) [.bool p, .bool q] = True := rfl
theorem valP_not {p : Bool} : valP (.un .not) [.bool p] = .bool (!p) := rfl
theorem okP_not {p : Bool} : okP (.un .not) [.bool p] = True := rfl
theorem valP_neg {k : IntKind} {n : Int} : valP (.un .neg) [.int k n] = .int k (k.wrap (0 - n)) := rfl
theorem okP_neg {k : IntKind} {n : Int} : okP (.un .neg) [.int k n] = True := rfl
theorem valP_conv {k l : IntKind} {n : Int} : valP (.conv k) [.int l n] = .int k (k.wrap n) := rfl
theorem okP_conv {k l : IntKind} {n : Int} : okP (.conv k) [.int l n] = True := rfl
theorem valP_isnil_ptr {n : Bool} {x : AV} : valP (.isnil .ptr n) [x] = .bool (n != (nilTest .ptr x).getD false) := rfl
theorem okP_isnil_ptr {n : Bool} {x : AV} : okP (.isnil .ptr n) [x] = ((nilTest .ptr x).isSome = true) := rfl
theorem valP_isnil_func {n : Bool} {x : AV} : valP (.isnil .func n) [x] = .bool (n != (nilTest .func x).getD false) := rfl
theorem okP_isnil_func {n : Bool} {x : AV} : okP (.isnil .func n) [x] = ((nilTest .func x).isSome = true) := rfl
theorem valP_isnil_iface {n : Bool} {x : AV} : valP (.isnil .iface n) [x] = .bool (n != (nilTest .iface x).getD false) := rfl
theorem okP_isnil_iface {n : Bool} {x : AV} : okP (.isnil .iface n) [x] = ((nilTest .iface x).isSome = true) := rfl
theorem valP_isnil_sl {n : Bool} {m : Nat} {f : Nat → List AV} : valP (.isnil .slice n) [.sl m f] = if m = 0 then .anyb else .bool (n != false) := rfl
theorem okP_isnil_sl {n : Bool} {m : Nat} {f : Nat → List AV} : okP (.isnil .slice n) [.sl m f] = True := rfl
theorem valP_isnil_nl {n : Bool} : valP (.isnil .slice n) [.nl] = .bool (n != true) := rfl
theorem okP_isnil_nl {n : Bool} : okP (.isnil .slice n) [.nl] = True := by simp [okP, nilTest]
theorem condA_anyb (A B : Nx) (t : List AV) (h : List AObj) : condA .anyb A B t h = (A t h ∧ B t h) := rfl
theorem strip_anyb : AV.strip .anyb = .anyb := rfl
theorem flag_anyb : AV.flag .anyb = true := rfl
theorem solid_anyb : AV.solid .anyb = true := rfl
theorem cells_anyb : AV.cells .anyb = [.anyb] := rfl
theorem nilT_nilp : nilTest .ptr .nilp = some true := rfl
theorem nilT_nilfn : nilTest .func .nilfn = some true := rfl
theorem nilT_nilif : nilTest .iface .nilif = some true := rfl
theorem nilT_nl : nilTest .slice .nl = some true := rfl
theorem nilT_ip {c : List AV} : nilTest .ptr (.ip c) = some false := rfl
theorem nilT_fn {f : Fn} {a c : List AV} : nilTest .func (.fn f a c) = some false := rfl
theorem nilT_ifc : nilTest .iface .ifc = some false := rfl
theorem valP_aeq {ks : List AK} {n : Bool} {x y : List AV} : valP (.aeq ks n) [.agg x, .agg y] = .bool (n != (atomsEq ks x y).getD false) := rfl
theorem okP_aeq {ks : List AK} {n : Bool} {x y : List AV} : okP (.aeq ks n) [.agg x, .agg y] = ((atomsEq ks x y).isSome = true) := rfl
theorem valP_fld {p : Nat} {n : Option Nat} {c : List AV} : valP (.fld p n) [.agg c] = cut c p n := rfl
theorem okP_fld {p : Nat} {n : Option Nat} {c : List AV} : okP (.fld p n) [.agg c] = cutOk c p n := rfl
theorem cutOk_n {p : Nat} {c : List AV} : cutOk c p none = (p < c.length) := rfl
theorem cutOk_s {p n : Nat} {c : List AV} : cutOk c p (some n) = (p + n ≤ c.length) := rfl
theorem valP_ext {i : Nat} {c : List AV} : valP (.ext i) [.tup c] = (c[i]?).getD .undef := rfl
theorem okP_ext {i : Nat} {c : List AV} : okP (.ext i) [.tup c] = (i < c.length) := rfl
theorem valP_build {z : List AV} {ps : List (Nat × Nat)} {vs : List AV} : valP (.build z ps) vs = .agg (fillA z ps vs) := by cases vs <;> rfl
theorem okP_build {z : List AV} {ps : List (Nat × Nat)} {vs : List AV} : okP (.build z ps) vs = fillOk z.length ps vs := by cases vs <;> rfl
theorem fillOk_nil {n : Nat} : fillOk n [] [] = True := rfl
theorem fillOk_cons {m p n : Nat} {ps : List (Nat × Nat)} {v : AV} {vs : List AV} : fillOk m ((p, n) :: ps) (v :: vs) = (v.solid = true ∧ v.cells.length = n ∧ p + n ≤ m ∧ fillOk m ps vs) := rfl
theorem fillA_nil {z : List AV} {ps : List (Nat × Nat)} : fillA z ps [] = z := by cases ps <;> rfl
theorem fillA_cons {z : List AV} {p n : Nat} {ps : List (Nat × Nat)} {v : AV} {vs : List AV} : fillA z ((p, n) :: ps) (v :: vs) = fillA (z.take p ++ v.cells ++ z.drop (p + n)) ps vs := rfl
theorem valP_mkfn {f : Fn} {n : Nat} {vs : List AV} : valP (.mkfn f n) vs = .fn f (vs.take n) (vs.drop n) := by cases vs <;> rfl
theorem okP_mkfn {f : Fn} {n : Nat} {vs : List AV} : okP (.mkfn f n) vs = (n ≤ vs.length) := by cases vs <;> rfl
theorem valP_sidx {s : List UInt8} {k : IntKind} {i : Int} : valP .sidx [.str s, .int k i] = .int .u8 ((s[i.toNat]?).getD 0).toNat := rfl
theorem okP_sidx {s : List UInt8} {k : IntKind} {i : Int} : okP .sidx [.str s, .int k i] = (0 ≤ i ∧ i < s.length) := rfl
theorem valP_sslh0 {s : List UInt8} {k m : IntKind} {a c : Int} : valP (.sslc true true) [.str s, .int k a, .int m c] = .str ((s.drop (a : Int).toNat).take ((c : Int).toNat - (a : Int).toNat)) := by simp [valP, loB, hiB]
theorem okP_sslh0 {s : List UInt8} {k m : IntKind} {a c : Int} : okP (.sslc true true) [.str s, .int k a, .int m c] = (0 ≤ (a : Int) ∧ (a : Int) ≤ c ∧ c ≤ (s.length : Int)) := by simp [okP, loB, hiB, intC]
theorem valL_sllh0 {g : List AObj} {z n : Nat} {f : Nat → List AV} {k m : IntKind} {a c : Int} : valL g (.slc z true true) [.sl n f, .int k a, .int m c] = .sl ((c : Int).toNat - (a : Int).toNat) (fun i => f ((a : Int).toNat + i)) := by simp [valL, loB, hiB]
theorem okL_sllh0 {g : List AObj} {z n : Nat} {f : Nat → List AV} {k m : IntKind} {a c : Int} : okL g (.slc z true true) [.sl n f, .int k a, .int m c] = ((0 ≤ (a : Int) ∧ (a : Int) ≤ c ∧ c ≤ (n : Int)) ∧ (0 < n → (f 0).length = z)) := by simp [okL, loB, hiB, intC, and_assoc]
theorem valL_oslh0 {g : List AObj} {z w v y p n : Nat} {k m : IntKind} {a c : Int} : valL g (.slc z true true) [.osl w v y p n, .int k a, .int m c] = .osl w v y (p + (a : Int).toNat * y) ((c : Int).toNat - (a : Int).toNat) := by simp [valL, loB, hiB]
theorem okL_oslh0 {g : List AObj} {z w v y p n : Nat} {k m : IntKind} {a c : Int} : okL g (.slc z true true) [.osl w v y p n, .int k a, .int m c] = ((0 ≤ (a : Int) ∧ (a : Int) ≤ c ∧ c ≤ (n : Int)) ∧ y = z ∧ liveS g w v = true ∧ ((a : Int) = 0 ∨ (a : Int) < n)) := by simp [okL, loB, hiB, intC, and_assoc]
theorem valP_ssl0 {s : List UInt8} {k : IntKind} {a : Int} : valP (.sslc true false) [.str s, .int k a] = .str ((s.drop (a : Int).toNat).take (((s.length : Int) : Int).toNat - (a : Int).toNat)) := by simp [valP, loB, hiB]
theorem okP_ssl0 {s : List UInt8} {k : IntKind} {a : Int} : okP (.sslc true false) [.str s, .int k a] = (0 ≤ (a : Int) ∧ (a : Int) ≤ (s.length : Int) ∧ (s.length : Int) ≤ (s.length : Int)) := by simp [okP, loB, hiB, intC]
theorem valL_sll0 {g : List AObj} {z n : Nat} {f : Nat → List AV} {k : IntKind} {a : Int} : valL g (.slc z true false) [.sl n f, .int k a] = .sl (((n : Int) : Int).toNat - (a : Int).toNat) (fun i => f ((a : Int).toNat + i)) := by simp [valL, loB, hiB]
theorem okL_sll0 {g : List AObj} {z n : Nat} {f : Nat → List AV} {k : IntKind} {a : Int} : okL g (.slc z true false) [.sl n f, .int k a] = ((0 ≤ (a : Int) ∧ (a : Int) ≤ (n : Int) ∧ (n : Int) ≤ (n : Int)) ∧ (0 < n → (f 0).length = z)) := by simp [okL, loB, hiB, intC, and_assoc]
theorem valL_osl0 {g : List AObj} {z w v y p n : Nat} {k : IntKind} {a : Int} : valL g (.slc z true false) [.osl w v y p n, .int k a] = .osl w v y (p + (a : Int).toNat * y) (((n : Int) : Int).toNat - (a : Int).toNat) := by simp [valL, loB, hiB]
theorem okL_osl0 {g : List AObj} {z w v y p n : Nat} {k : IntKind} {a : Int} : okL g (.slc z true false) [.osl w v y p n, .int k a] = ((0 ≤ (a : Int) ∧ (a : Int) ≤ (n : Int) ∧ (n : Int) ≤ (n : Int)) ∧ y = z ∧ liveS g w v = true ∧ ((a : Int) = 0 ∨ (a : Int) < n)) := by simp [okL, loB, hiB, intC, and_assoc]
theorem valP_ssh0 {s : List UInt8} {k : IntKind} {c : Int} : valP (.sslc false true) [.str s, .int k c] = .str ((s.drop (0 : Int).toNat).take ((c : Int).toNat - (0 : Int).toNat)) := by simp [valP, loB, hiB]
theorem okP_ssh0 {s : List UInt8} {k : IntKind} {c : Int} : okP (.sslc false true) [.str s, .int k c] = (0 ≤ (0 : Int) ∧ (0 : Int) ≤ c ∧ c ≤ (s.length : Int)) := by simp [okP, loB, hiB, intC]
theorem valL_slh0 {g : List AObj} {z n : Nat} {f : Nat → List AV} {k : IntKind} {c : Int} : valL g (.slc z false true) [.sl n f, .int k c] = .sl ((c : Int).toNat - (0 : Int).toNat) (fun i => f ((0 : Int).toNat + i)) := by simp [valL, loB, hiB]
theorem okL_slh0 {g : List AObj} {z n : Nat} {f : Nat → List AV} {k : IntKind} {c : Int} : okL g (.slc z false true) [.sl n f, .int k c] = ((0 ≤ (0 : Int) ∧ (0 : Int) ≤ c ∧ c ≤ (n : Int)) ∧ (0 < n → (f 0).length = z)) := by simp [okL, loB, hiB, intC, and_assoc]
theorem valL_osh0 {g : List AObj} {z w v y p n : Nat} {k : IntKind} {c : Int} : valL g (.slc z false true) [.osl w v y p n, .int k c] = .osl w v y (p + (0 : Int).toNat * y) ((c : Int).toNat - (0 : Int).toNat) := by simp [valL, loB, hiB]
theorem okL_osh0 {g : List AObj} {z w v y p n : Nat} {k : IntKind} {c : Int} : okL g (.slc z false true) [.osl w v y p n, .int k c] = ((0 ≤ (0 : Int) ∧ (0 : Int) ≤ c ∧ c ≤ (n : Int)) ∧ y = z ∧ liveS g w v = true ∧ ((0 : Int) = 0 ∨ (0 : Int) < n)) := by simp [okL, loB, hiB, intC, and_assoc]
theorem valP_ss0 {s : List UInt8}  : valP (.sslc false false) [.str s] = .str ((s.drop (0 : Int).toNat).take (((s.length : Int) : Int).toNat - (0 : Int).toNat)) := by simp [valP, loB, hiB]
theorem okP_ss0 {s : List UInt8}  : okP (.sslc false false) [.str s] = (0 ≤ (0 : Int) ∧ (0 : Int) ≤ (s.length : Int) ∧ (s.length : Int) ≤ (s.length : Int)) := by simp [okP, loB, hiB, intC]
theorem valL_sl0 {g : List AObj} {z n : Nat} {f : Nat → List AV}  : valL g (.slc z false false) [.sl n f] = .sl (((n : Int) : Int).toNat - (0 : Int).toNat) (fun i => f ((0 : Int).toNat + i)) := by simp [valL, loB, hiB]
theorem okL_sl0 {g : List AObj} {z n : Nat} {f : Nat → List AV}  : okL g (.slc z false false) [.sl n f] = ((0 ≤ (0 : Int) ∧ (0 : Int) ≤ (n : Int) ∧ (n : Int) ≤ (n : Int)) ∧ (0 < n → (f 0).length = z)) := by simp [okL, loB, hiB, intC, and_assoc]
theorem valL_os0 {g : List AObj} {z w v y p n : Nat}  : valL g (.slc z false false) [.osl w v y p n] = .osl w v y (p + (0 : Int).toNat * y) (((n : Int) : Int).toNat - (0 : Int).toNat) := by simp [valL, loB, hiB]
theorem okL_os0 {g : List AObj} {z w v y p n : Nat}  : okL g (.slc z false false) [.osl w v y p n] = ((0 ≤ (0 : Int) ∧ (0 : Int) ≤ (n : Int) ∧ (n : Int) ≤ (n : Int)) ∧ y = z ∧ liveS g w v = true ∧ ((0 : Int) = 0 ∨ (0 : Int) < n)) := by simp [okL, loB, hiB, intC, and_assoc]
theorem valP_max2 {k l : IntKind} {a c : Int} : valP (.mm true) [.int k a, .int l c] = .int k (max a c) := rfl
theorem valP_min2 {k l : IntKind} {a c : Int} : valP (.mm false) [.int k a, .int l c] = .int k (min a c) := rfl
theorem valP_max3 {k l m : IntKind} {a c e : Int} : valP (.mm true) [.int k a, .int l c, .int m e] = .int k (max (max a c) e) := rfl
theorem valP_min3 {k l m : IntKind} {a c e : Int} : valP (.mm false) [.int k a, .int l c, .int m e] = .int k (min (min a c) e) := rfl
theorem okP_mm2 {x : Bool} {k l : IntKind} {a c : Int} : okP (.mm x) [.int k a, .int l c] = True := by simp [okP, intC]
theorem okP_mm3 {x : Bool} {k l m : IntKind} {a c e : Int} : okP (.mm x) [.int k a, .int l c, .int m e] = True := by simp [okP, intC]
theorem valL_lensl {g : List AObj} {n : Nat} {f : Nat → List AV} : valL g .len [.sl n f] = .int .i64 n := rfl
theorem okL_lensl {g : List AObj} {n : Nat} {f : Nat → List AV} : okL g .len [.sl n f] = True := rfl
theorem valL_lennl {g : List AObj} : valL g .len [.nl] = .int .i64 0 := rfl
theorem okL_lennl {g : List AObj} : okL g .len [.nl] = True := rfl
theorem valP_slen {s : List UInt8} : valP .slen [.str s] = .int .i64 s.length := rfl
theorem okP_slen {s : List UInt8} : okP .slen [.str s] = True := rfl
theorem valL_lenosl {g : List AObj} {k v z p n : Nat} : valL g .len [.osl k v z p n] = .int .i64 n := rfl
theorem okL_lenosl {g : List AObj} {k v z p n : Nat} : okL g .len [.osl k v z p n] = (liveS g k v = true) := rfl
theorem valL_idxsl {g : List AObj} {z n : Nat} {f : Nat → List AV} {k : IntKind} {i : Int} : valL g (.idxA z) [.sl n f, .int k i] = .ip (f i.toNat) := rfl
theorem okL_idxsl {g : List AObj} {z n : Nat} {f : Nat → List AV} {k : IntKind} {i : Int} : okL g (.idxA z) [.sl n f, .int k i] = ((0 ≤ i ∧ i < n) ∧ (f i.toNat).length = z) := rfl
theorem valL_idxosl {g : List AObj} {z q v y p n : Nat} {k : IntKind} {i : Int} : valL g (.idxA z) [.osl q v y p n, .int k i] = .op q v (p + i.toNat * y) := rfl
theorem okL_idxosl {g : List AObj} {z q v y p n : Nat} {k : IntKind} {i : Int} : okL g (.idxA z) [.osl q v y p n, .int k i] = ((0 ≤ i ∧ i < n) ∧ y = z ∧ (cellsOf g q v).isSome = true) := rfl
theorem valL_arrip {g : List AObj} {m z : Nat} {c : List AV} {k : IntKind} {i : Int} : valL g (.idxArr m z) [.ip c, .int k i] = .ip ((c.drop (i.toNat * z)).take z) := rfl
theorem okL_arrip {g : List AObj} {m z : Nat} {c : List AV} {k : IntKind} {i : Int} : okL g (.idxArr m z) [.ip c, .int k i] = ((0 ≤ i ∧ i < m) ∧ c.length = m * z) := rfl
theorem valL_arrop {g : List AObj} {m z q v p : Nat} {k : IntKind} {i : Int} : valL g (.idxArr m z) [.op q v p, .int k i] = .op q v (p + i.toNat * z) := rfl
theorem okL_arrop {g : List AObj} {m z q v p : Nat} {k : IntKind} {i : Int} : okL g (.idxArr m z) [.op q v p, .int k i] = ((0 ≤ i ∧ i < m) ∧ (cellsOf g q v).isSome = true) := rfl
theorem valL_fldip {g : List AObj} {p : Nat} {c : List AV} : valL g (.fldA p) [.ip c] = .ip (c.drop p) := rfl
theorem okL_fldip {g : List AObj} {p : Nat} {c : List AV} : okL g (.fldA p) [.ip c] = (p < c.length) := rfl
theorem valL_fldop {g : List AObj} {p q v o : Nat} : valL g (.fldA p) [.op q v o] = .op q v (o + p) := rfl
theorem okL_fldop {g : List AObj} {p q v o : Nat} : okL g (.fldA p) [.op q v o] = ((cellsOf g q v).isSome = true) := rfl
theorem valL_ldip {g : List AObj} {n : Option Nat} {c : List AV} : valL g (.load n) [.ip c] = cut c 0 n := rfl
theorem okL_ldip {g : List AObj} {n : Option Nat} {c : List AV} : okL g (.load n) [.ip c] = cutOk c 0 n := rfl
theorem valL_ldop {g : List AObj} {n : Option Nat} {q v p : Nat} : valL g (.load n) [.op q v p] = cut ((cellsOf g q v).getD []) p n := rfl
theorem okL_ldop {g : List AObj} {n : Option Nat} {q v p : Nat} : okL g (.load n) [.op q v p] = ((cellsOf g q v).isSome = true ∧ cutOk ((cellsOf g q v).getD []) p n) := rfl
theorem valL_ncip {g : List AObj} {c : List AV} : valL g .nilchk [.ip c] = .ip c := rfl
theorem okL_ncip {g : List AObj} {c : List AV} : okL g .nilchk [.ip c] = True := rfl
theorem valL_ncop {g : List AObj} {q v p : Nat} : valL g .nilchk [.op q v p] = .op q v p := rfl
theorem okL_ncop {g : List AObj} {q v p : Nat} : okL g .nilchk [.op q v p] = ((cellsOf g q v).isSome = true) := rfl
theorem valL_ncfn {g : List AObj} {f : Fn} {a c : List AV} : valL g .nilchk [.fn f a c] = .fn f a c := rfl
theorem okL_ncfn {g : List AObj} {f : Nat} {a c : List AV} : okL g .nilchk [.fn (.func f) a c] = True := rfl
theorem cut_none {c : List AV} {p : Nat} : cut c p none = (c[p]?).getD .undef := rfl
theorem cut_some {c : List AV} {p n : Nat} : cut c p (some n) = .agg ((c.drop p).take n) := rfl
theorem guardA_b {b w : Bool} : guardA (.bool b) w = (b == w) := rfl
theorem guardA_gd {g b w : Bool} : guardA (.gd g (.bool b)) w = (g && (b == w)) := rfl
theorem guardOk_b {b : Bool} : guardOk (.bool b) = true := rfl
theorem guardOk_gd {g b : Bool} : guardOk (.gd g (.bool b)) = true := rfl
theorem pickOk_b {c : Bool} {x y : AV} : pickOk (.bool c) x y = ((c = true → x.flag = true) ∧ (c = false → y.flag = true)) := rfl
theorem pickOk_gd {g c : Bool} {x y : AV} : pickOk (.gd g (.bool c)) x y = (g = true ∧ (c = true → x.flag = true) ∧ (c = false → y.flag = true)) := rfl
theorem pickV_bbb {c p q : Bool} : pickV (.bool c) (.bool p) (.bool q) = .bool ((c && p) || (!c && q)) := rfl
theorem pickV_gbb {c p q gc : Bool} : pickV (.gd gc (.bool c)) (.bool p) (.bool q) = .bool ((c && p) || (!c && q)) := rfl
theorem pickV_bbg {c p q gq : Bool} : pickV (.bool c) (.bool p) (.gd gq (.bool q)) = .bool ((c && p) || (!c && q)) := rfl
theorem pickV_gbg {c p q gq gc : Bool} : pickV (.gd gc (.bool c)) (.bool p) (.gd gq (.bool q)) = .bool ((c && p) || (!c && q)) := rfl
theorem pickV_bgb {c p q gp : Bool} : pickV (.bool c) (.gd gp (.bool p)) (.bool q) = .bool ((c && p) || (!c && q)) := rfl
theorem pickV_ggb {c p q gp gc : Bool} : pickV (.gd gc (.bool c)) (.gd gp (.bool p)) (.bool q) = .bool ((c && p) || (!c && q)) := rfl
theorem pickV_bgg {c p q gp gq : Bool} : pickV (.bool c) (.gd gp (.bool p)) (.gd gq (.bool q)) = .bool ((c && p) || (!c && q)) := rfl
theorem pickV_ggg {c p q gp gq gc : Bool} : pickV (.gd gc (.bool c)) (.gd gp (.bool p)) (.gd gq (.bool q)) = .bool ((c && p) || (!c && q)) := rfl
theorem c_skip {P : Program} {b : Nat} {Q : Ex → Nx} {t : List AV} {h : List AObj} : codeA P b .skip Q t h = Q .normal t h := (rfl)
theorem c_ops {P : Program} {b : Nat} {Q : Ex → Nx} {t : List AV} {h : List AObj} {l : List RO} : codeA P b (.ops l) Q t h = opsA P b l (Q .normal) t h := (rfl)
theorem c_seq {P : Program} {b : Nat} {Q : Ex → Nx} {t : List AV} {h : List AObj} {x y : C} : codeA P b (.seq x y) Q t h = codeA P b x (Ex.andThen (codeA P b y Q) Q) t h := (rfl)
theorem c_cond {P : Program} {b : Nat} {Q : Ex → Nx} {t : List AV} {h : List AObj} {c : X} {x y : C} : codeA P b (.cond c x y) Q t h = condA (ev t c) (codeA P b x Q) (codeA P b y Q) t h := (rfl)
theorem c_block {P : Program} {b : Nat} {Q : Ex → Nx} {t : List AV} {h : List AObj} {i : Nat} {x : C} : codeA P b (.block i x) Q t h = codeA P b x (Ex.inBlock i Q) t h := (rfl)
theorem c_exit {P : Program} {b : Nat} {Q : Ex → Nx} {t : List AV} {h : List AObj} {i : Nat} : codeA P b (.exit i) Q t h = Q (.exit i) t h := (rfl)
theorem c_ret {P : Program} {b : Nat} {Q : Ex → Nx} {t : List AV} {h : List AObj} : codeA P b .ret Q t h = Q .ret t h := (rfl)
theorem at_n {K : Nx} {Q : Ex → Nx} {t : List AV} {h : List AObj} : Ex.andThen K Q .normal t h = K t h := (rfl)
theorem at_e {K : Nx} {Q : Ex → Nx} {t : List AV} {h : List AObj} {i : Nat} : Ex.andThen K Q (.exit i) t h = Q (.exit i) t h := (rfl)
theorem at_r {K : Nx} {Q : Ex → Nx} {t : List AV} {h : List AObj} : Ex.andThen K Q .ret t h = Q .ret t h := (rfl)
theorem ib_n {i : Nat} {Q : Ex → Nx} {t : List AV} {h : List AObj} : Ex.inBlock i Q .normal t h = Q .normal t h := (rfl)
theorem ib_r {i : Nat} {Q : Ex → Nx} {t : List AV} {h : List AObj} : Ex.inBlock i Q .ret t h = Q .ret t h := (rfl)
theorem ib_e {i j : Nat} {Q : Ex → Nx} {t : List AV} {h : List AObj} : Ex.inBlock i Q (.exit j) t h = if j = i then Q .normal t h else Q (.exit j) t h := (rfl)
end AF
end

section
namespace AF
open Go
attribute [go_sem] getA_0 setA_0 getA_1 setA_1 getA_2 setA_2 getA_3 setA_3 getA_4 setA_4 getA_5 setA_5 getA_6 setA_6 getA_7 setA_7 getA_s8 setA_s8 getA_s32 setA_s32 ev_t ev_c strip_bool flag_bool solid_bool cells_bool strip_int flag_int solid_int cells_int strip_str flag_str solid_str cells_str strip_sl flag_sl solid_sl cells_sl strip_osl flag_osl solid_osl cells_osl strip_agg flag_agg solid_agg strip_tup flag_tup cells_tup strip_ip flag_ip solid_ip cells_ip strip_op flag_op solid_op cells_op strip_nilp flag_nilp solid_nilp cells_nilp strip_nl flag_nl solid_nl cells_nl strip_fn flag_fn solid_fn cells_fn strip_yld flag_yld solid_yld cells_yld strip_nilfn flag_nilfn solid_nilfn cells_nilfn strip_ifc flag_ifc solid_ifc cells_ifc strip_nilif flag_nilif solid_nilif cells_nilif strip_undef flag_undef cells_agg strip_gd flag_gd w_mv wg_mv w_bin wg_bin w_bool wg_bool w_un wg_un w_conv wg_conv w_isnil wg_isnil w_aeq wg_aeq w_fld wg_fld w_ext wg_ext w_build wg_build w_mkfn wg_mkfn w_slen wg_slen w_sidx wg_sidx w_sslc wg_sslc w_mm wg_mm w_len wg_len w_idxA wg_idxA w_idxArr wg_idxArr w_fldA wg_fldA w_load wg_load w_nilchk wg_nilchk w_slc wg_slc w_pick wg_pick w_nilo w_alloc w_box w_store w_mkslc w_bslc w_app w_apps w_call wg_call w_callv w_nil evs_nil evs_cons strips_nil strips_cons flags_nil flags_cons binV_iadd binC_iadd binV_isub binC_isub binV_imul binC_imul binV_iquo binC_iquo binV_irem binC_irem binV_ishl binC_ishl binV_ishr binC_ishr binV_ieql binC_ieql binV_ineq binC_ineq binV_ilss binC_ilss binV_ileq binC_ileq binV_igtr binC_igtr binV_igeq binC_igeq binV_iand binC_iand binV_ior binC_ior binV_ixor binC_ixor binV_iandNot binC_iandNot binV_sadd binC_sadd binV_seql binC_seql binV_sneq binC_sneq binV_slss binC_slss binV_sleq binC_sleq binV_sgtr binC_sgtr binV_sgeq binC_sgeq valP_bool okP_bool valP_not okP_not valP_neg okP_neg valP_conv okP_conv valP_isnil_ptr okP_isnil_ptr valP_isnil_func okP_isnil_func valP_isnil_iface okP_isnil_iface valP_isnil_sl okP_isnil_sl valP_isnil_nl okP_isnil_nl condA_anyb strip_anyb flag_anyb solid_anyb cells_anyb nilT_nilp nilT_nilfn nilT_nilif nilT_nl nilT_ip nilT_fn nilT_ifc valP_aeq okP_aeq valP_fld okP_fld cutOk_n cutOk_s valP_ext okP_ext valP_build okP_build fillOk_nil fillOk_cons fillA_nil fillA_cons valP_mkfn okP_mkfn valP_sidx okP_sidx valP_sslh0 okP_sslh0 valL_sllh0 okL_sllh0 valL_oslh0 okL_oslh0 valP_ssl0 okP_ssl0 valL_sll0 okL_sll0 valL_osl0 okL_osl0 valP_ssh0 okP_ssh0 valL_slh0 okL_slh0 valL_osh0 okL_osh0 valP_ss0 okP_ss0 valL_sl0 okL_sl0 valL_os0 okL_os0 valP_max2 valP_min2 valP_max3 valP_min3 okP_mm2 okP_mm3 valL_lensl okL_lensl valL_lennl okL_lennl valP_slen okP_slen valL_lenosl okL_lenosl valL_idxsl okL_idxsl valL_idxosl okL_idxosl valL_arrip okL_arrip valL_arrop okL_arrop valL_fldip okL_fldip valL_fldop okL_fldop valL_ldip okL_ldip valL_ldop okL_ldop valL_ncip okL_ncip valL_ncop okL_ncop valL_ncfn okL_ncfn cut_none cut_some guardA_b guardA_gd guardOk_b guardOk_gd pickOk_b pickOk_gd pickV_bbb pickV_gbb pickV_bbg pickV_gbg pickV_bgb pickV_ggb pickV_bgg pickV_ggg c_skip c_ops c_seq c_cond c_block c_exit c_ret at_n at_e at_r ib_n ib_r ib_e
attribute [go_sem] and_true true_and List.drop_zero List.drop_succ_cons List.getElem?_cons_zero List.getElem?_cons_succ Option.getD_some List.length_cons List.length_nil Int.toNat_natCast beq_true imp_self and_self implies_true Bool.and_true Bool.and_false Bool.or_false decide_eq_true_eq Bool.and_eq_true

theorem rvsOk_nil (t : List AV) (h : List AObj) : rvsOk t h [] = True := rfl
theorem rvsOk_tmp (n : Nat) (l : List RV) (t : List AV) (h : List AObj) : rvsOk t h (.tmp n :: l) = rvsOk t h l := by simp [rvsOk, RV.ok]
theorem rvsVal_nil (t : List AV) (h : List AObj) : rvsVal t h [] = [] := rfl
theorem rvsVal_tmp (n : Nat) (l : List RV) (t : List AV) (h : List AObj) : rvsVal t h (.tmp n :: l) = getA n t :: rvsVal t h l := rfl
theorem retA_one (v : AV) : retA [v] = v := rfl
theorem retA_two (v u : AV) (l : List AV) : retA (v :: u :: l) = .tup (v :: u :: l) := rfl
theorem condA_bool (c : Bool) (A B : Nx) (t : List AV) (h : List AObj) : condA (.bool c) A B t h = ((c = true → A t h) ∧ (c = false → B t h)) := rfl
theorem wrap64_id {n : Int} (h0 : -9223372036854775808 ≤ n) (h1 : n ≤ 9223372036854775807) : IntKind.i64.wrap n = n := by
  have e1 : (2 : Int) ^ IntKind.bits IntKind.i64 = 18446744073709551616 := rfl
  have e2 : (2 : Int) ^ (IntKind.bits IntKind.i64 - 1) = 9223372036854775808 := rfl
  have e3 : IntKind.signed IntKind.i64 = true := rfl
  unfold IntKind.wrap
  rw [e1, e2, e3]
  simp only [Bool.true_and, decide_eq_true_eq]
  split <;> omega
theorem fnQ_ret {rs : List RV} {h0 : List AObj} {K : AV → List AObj → Prop} {t : List AV} {hh tl : List AObj} {r : AV} (e : hh = h0 ++ tl) (hok : rvsOk t hh rs) (hK : K r h0) (hv : VLe (frz (fun k => decide (h0.length ≤ k)) hh 8 (retA (rvsVal t hh rs))) r) :
    fnQ rs h0 K .ret t hh := by subst e; exact fnQ_pure hok hK hv
theorem loop_of {P : Program} {b : Nat} {x : C} {Q : Ex → Nx} {ι : Type} {t : List AV} {h : List AObj} (T : ι → List AV) (H : ι → List AObj) (inv : ι → Prop) (m : ι → Nat) (i0 : ι) (h0 : inv i0) (hw : Wk t h (T i0) (H i0))
    (round : ∀ i, inv i → ∀ K : Nx, (∀ t' h' j, inv j → m j < m i → Wk t' h' (T j) (H j) → K t' h') → codeA P b x (Ex.andThen K Q) (T i) (H i)) : codeA P b (.loop x) Q t h := by
  refine ⟨fun n t h => ∃ i, inv i ∧ m i = n ∧ t = T i ∧ h = H i, ⟨m i0, T i0, H i0, hw, i0, h0, rfl, rfl, rfl⟩, ?_⟩
  rintro n t' h' ⟨i, hi, rfl, rfl, rfl⟩
  exact round i hi _ (fun t'' h'' j hj hlt hw => ⟨m j, T j, H j, hlt, hw, j, hj, rfl, rfl, rfl⟩)

def spar (n : Nat) (l : List (Nat × AV)) : List AV := l.foldl (fun t p => setA p.1 t p.2) (List.replicate n .undef)
theorem VLes.nil : VLes [] [] := trivial
theorem VLe_undef_iff (a : AV) : VLe a .undef = True := by simp [VLe.undef]
theorem VLe_self (a : AV) : VLe a a = True := by simp [VLe.refl]
theorem VLe_int {k : IntKind} {a b : Int} (h : a = b) : VLe (.int k a) (.int k b) := h ▸ VLe.refl _
theorem VLes_nil : VLes [] [] = True := rfl
theorem VLes_cons {a b : AV} {l m : List AV} : VLes (a :: l) (b :: m) = (VLe a b ∧ VLes l m) := rfl
theorem fnQ_pure0 {rs : List RV} {h : List AObj} {t : List AV} {r : AV} (hok : rvsOk t h rs) (hv : VLe (frz (fun k => decide (h.length ≤ k)) h 8 (retA (rvsVal t h rs))) r) : fnQ rs h (fun r1 h1 => r1 = r ∧ h1 = h) .ret t h :=
  fnQ_ret (tl := []) (by simp) hok ⟨rfl, rfl⟩ hv
theorem fnQ_pure1 {rs : List RV} {h tl : List AObj} {t : List AV} {r : AV} (hok : rvsOk t (h ++ tl) rs) (hv : VLe (frz (fun k => decide (h.length ≤ k)) (h ++ tl) 8 (retA (rvsVal t (h ++ tl) rs))) r) : fnQ rs h (fun r1 h1 => r1 = r ∧ h1 = h) .ret t (h ++ tl) :=
  fnQ_ret rfl hok ⟨rfl, rfl⟩ hv
section
variable {fz : Nat → Bool} {h : List AObj} {n : Nat}
theorem frz_int {k : IntKind} {a : Int} : frz fz h (n + 1) (.int k a) = .int k a := rfl
theorem frz_bool {a : Bool} : frz fz h (n + 1) (.bool a) = .bool a := rfl
theorem frz_str {a : List UInt8} : frz fz h (n + 1) (.str a) = .str a := rfl
theorem frz_sl {m : Nat} {f : Nat → List AV} : frz fz h (n + 1) (.sl m f) = .sl m f := rfl
theorem frz_nl : frz fz h (n + 1) .nl = .nl := rfl
theorem frz_nilp : frz fz h (n + 1) .nilp = .nilp := rfl
theorem frz_nilfn : frz fz h (n + 1) .nilfn = .nilfn := rfl
theorem frz_ifc : frz fz h (n + 1) .ifc = .ifc := rfl
theorem frz_nilif : frz fz h (n + 1) .nilif = .nilif := rfl
theorem frz_undef : frz fz h (n + 1) .undef = .undef := rfl
theorem frz_ip {cs : List AV} : frz fz h (n + 1) (.ip cs) = .ip cs := rfl
theorem frz_agg {cs : List AV} : frz fz h (n + 1) (.agg cs) = .agg (cs.map (frz fz h n)) := rfl
theorem frz_tup {cs : List AV} : frz fz h (n + 1) (.tup cs) = .tup (cs.map (frz fz h n)) := rfl
theorem frz_fn {f : Fn} {a b : List AV} : frz fz h (n + 1) (.fn f a b) = .fn f (a.map (frz fz h n)) (b.map (frz fz h n)) := rfl
theorem frz_gd {g : Bool} {v : AV} : frz fz h (n + 1) (.gd g v) = .gd g (frz fz h n v) := rfl
end
attribute [go_sem] frz_int frz_bool frz_str frz_sl frz_nl frz_nilp frz_nilfn frz_ifc frz_nilif frz_undef frz_ip frz_agg frz_tup frz_fn frz_gd if_true if_false List.map_cons List.map_nil
attribute [go_sem] condA_bool rvsOk_nil rvsOk_tmp rvsVal_nil rvsVal_tmp retA_one retA_two
end AF
end

section
namespace AF
open Go
section
variable {h : List AObj} {l : List AObj} {n k v : Nat} {o : AObj} {ty : TypeId} {cs : List AV}
theorem getO_app0 : getO h.length (h ++ l) = l[0]? := by unfold getO; rw [List.getElem?_append_right (Nat.le_refl _), Nat.sub_self]
theorem getO_app : getO (h.length + n) (h ++ l) = l[n]? := by unfold getO; rw [List.getElem?_append_right (by omega), Nat.add_sub_cancel_left]
theorem setO_app0 : setO h.length (h ++ l) o = h ++ l.set 0 o := by unfold setO; rw [List.set_append_right _ _ (Nat.le_refl _), Nat.sub_self]
theorem setO_app : setO (h.length + n) (h ++ l) o = h ++ l.set n o := by unfold setO; rw [List.set_append_right _ _ (by omega), Nat.add_sub_cancel_left]
theorem verOf_mem : verOf (some (.mem v ty cs)) = v := rfl
theorem verOf_emp : verOf (some (.emp v)) = v := rfl
theorem tyOf_mem : tyOf (some (.mem v ty cs)) = ty := rfl
theorem site_app : site (h ++ l) (h.length + n) = site l n := by unfold site; rw [getO_app]; rfl
theorem site_app0 : site (h ++ l) h.length = site l 0 := by unfold site; rw [getO_app0]; rfl
theorem site_0_mem {v : Nat} : site (.mem v ty cs :: l) 0 = true := rfl
theorem site_0_emp {v : Nat} : site (.emp v :: l) 0 = true := rfl
theorem site_s : site (o :: l) (n + 1) = site l n := rfl
theorem cellsOf_app : cellsOf (h ++ l) (h.length + n) v = cellsOf l n v := by unfold cellsOf; rw [getO_app]; rfl
theorem cellsOf_app0 : cellsOf (h ++ l) h.length v = cellsOf l 0 v := by unfold cellsOf; rw [getO_app0]; rfl
theorem cellsOf_0 {w : Nat} : cellsOf (.mem w ty cs :: l) 0 v = if w = v then some cs else none := rfl
theorem cellsOf_s : cellsOf (o :: l) (n + 1) v = cellsOf l n v := rfl
theorem liveS_app : liveS (h ++ l) (h.length + n) v = liveS l n v := by unfold liveS; rw [getO_app]; rfl
theorem liveS_app0 : liveS (h ++ l) h.length v = liveS l 0 v := by unfold liveS; rw [getO_app0]; rfl
theorem liveS_0_mem {w : Nat} : liveS (.mem w ty cs :: l) 0 v = (w == v) := rfl
theorem liveS_0_emp {w : Nat} : liveS (.emp w :: l) 0 v = (w == v) := rfl
theorem liveS_s : liveS (o :: l) (n + 1) v = liveS l n v := rfl
theorem tyOk_mem {t : TypeId} : tyOk (some (.mem v t cs)) ty = (t == ty) := rfl
theorem tyOk_emp : tyOk (some (.emp v)) ty = true := rfl
theorem b_add0 {b : Nat} : b + 0 = b := rfl
theorem appO_mem {t : TypeId} {ds : List AV} {c m : Nat} : appO (some (.mem k t ds)) ty v c m cs = .mem (v + 1) ty (ds.take c ++ cs) := rfl
theorem appO_emp {c m : Nat} : appO (some (.emp k)) ty v c m cs = if m = 0 then .emp (v + 1) else .mem (v + 1) ty cs := rfl
end
section
variable {b : Nat} {h : List AObj} {t : List AV} {d : Option Nat} {nx : List AV → List AObj → Prop}
theorem e_nilo {j sz : Nat} {ty : TypeId} : effE b h (.nilo j sz ty) [] t d nx = (site h (b + j) = true ∧ nx (putA t d (.osl (b + j) (verOf (getO (b + j) h) + 1) sz 0 0)) (setO (b + j) h (.emp (verOf (getO (b + j) h) + 1)))) := (rfl)
theorem e_alloc {j : Nat} {ty : TypeId} {z : List AV} : effE b h (.alloc j ty z) [] t d nx = (site h (b + j) = true ∧ nx (putA t d (.op (b + j) (verOf (getO (b + j) h) + 1) 0)) (setO (b + j) h (.mem (verOf (getO (b + j) h) + 1) ty z))) := (rfl)
theorem e_box {j : Nat} {ty : TypeId} {v : AV} : effE b h (.box j ty) [v] t d nx = ((site h (b + j) = true ∧ v.solid = true) ∧ nx (putA t d (.op (b + j) (verOf (getO (b + j) h) + 1) 0)) (setO (b + j) h (.mem (verOf (getO (b + j) h) + 1) ty v.cells))) := (rfl)
theorem e_store {n k ver off : Nat} {v : AV} : effE b h (.store n) [.op k ver off, v] t d nx = (((cellsOf h k ver).isSome = true ∧ v.solid = true ∧ v.cells.length = n ∧ off + n ≤ ((cellsOf h k ver).getD []).length) ∧
    nx (putA t d (.tup [])) (setO k h (.mem ver (tyOf (getO k h)) (((cellsOf h k ver).getD []).take off ++ v.cells ++ ((cellsOf h k ver).getD []).drop (off + n))))) := (rfl)
theorem e_mkslc {j sz : Nat} {ty : TypeId} {z : List AV} {bytes : Nat} {l c : Int} : effE b h (.mkslc j sz ty z bytes) [.int .i64 l, .int .i64 c] t d nx = ((site h (b + j) = true ∧ z.length = sz ∧ 0 ≤ l ∧ l = c ∧ c * (bytes : Int) ≤ 140737488355328 ∧ c ≤ 140737488355328) ∧
      nx (putA t d (.osl (b + j) (verOf (getO (b + j) h) + 1) sz 0 l.toNat)) (setO (b + j) h (.mem (verOf (getO (b + j) h) + 1) ty (madeA z l.toNat)))) := (rfl)
theorem e_bslc {j sz n : Nat} {ty : TypeId} {z : List AV} {ps : List (Nat × Nat)} {vs : List AV} : effE b h (.bslc j sz n ty z ps) vs t d nx = ((site h (b + j) = true ∧ z.length = sz ∧ fillOk (n * sz) ps vs ∧ n ≤ 140737488355328) ∧
      nx (putA t d (.osl (b + j) (verOf (getO (b + j) h) + 1) sz 0 n)) (setO (b + j) h (.mem (verOf (getO (b + j) h) + 1) ty (fillA (madeA z n) ps vs)))) := by
  cases vs <;> rfl
theorem e_appnl {j sz : Nat} {ty : TypeId} {bytes : Nat} {y : AV} : effE b h (.app j sz ty bytes) [.nl, y] t d nx = (((sliceCells h y).isSome = true ∧ site h (b + j) = true ∧ ((sliceCells h y).getD (0, [])).2.length = ((sliceCells h y).getD (0, [])).1 * sz ∧
        (((sliceCells h y).getD (0, [])).1 : Int) * bytes ≤ 140737488355328 ∧ (((sliceCells h y).getD (0, [])).1 : Int) ≤ 140737488355328) ∧
      nx (putA t d (.osl (b + j) (verOf (getO (b + j) h) + 1) sz 0 ((sliceCells h y).getD (0, [])).1))
        (setO (b + j) h (if ((sliceCells h y).getD (0, [])).1 = 0 then .emp (verOf (getO (b + j) h) + 1) else .mem (verOf (getO (b + j) h) + 1) ty ((sliceCells h y).getD (0, [])).2))) := (rfl)
theorem e_app {j sz : Nat} {ty : TypeId} {bytes k ver sz' off m : Nat} {y : AV} : effE b h (.app j sz ty bytes) [.osl k ver sz' off m, y] t d nx = (((sliceCells h y).isSome = true ∧ liveS h k ver = true ∧ tyOk (getO k h) ty = true ∧ m * sz ≤ ((cellsOf h k ver).getD []).length ∧ apartS (.osl k ver sz' off m) y = true ∧ sz' = sz ∧ off = 0 ∧
        ((sliceCells h y).getD (0, [])).2.length = ((sliceCells h y).getD (0, [])).1 * sz ∧
        ((m + ((sliceCells h y).getD (0, [])).1 : Nat) : Int) * bytes ≤ 140737488355328 ∧ ((m + ((sliceCells h y).getD (0, [])).1 : Nat) : Int) ≤ 140737488355328) ∧
      nx (putA t d (.osl k (ver + 1) sz 0 (m + ((sliceCells h y).getD (0, [])).1)))
        (setO k h (appO (getO k h) ty ver (m * sz) ((sliceCells h y).getD (0, [])).1 ((sliceCells h y).getD (0, [])).2))) := (rfl)
theorem e_appsnl {j : Nat} {ty : TypeId} {s : List UInt8} : effE b h (.apps j ty) [.nl, .str s] t d nx = ((site h (b + j) = true ∧ (s.length : Int) ≤ 140737488355328) ∧
      nx (putA t d (.osl (b + j) (verOf (getO (b + j) h) + 1) 1 0 s.length))
        (setO (b + j) h (if s.length = 0 then .emp (verOf (getO (b + j) h) + 1) else .mem (verOf (getO (b + j) h) + 1) ty (bytesA s)))) := (rfl)
theorem e_apps {j : Nat} {ty : TypeId} {s : List UInt8} {k ver sz' off m : Nat} : effE b h (.apps j ty) [.osl k ver sz' off m, .str s] t d nx = ((liveS h k ver = true ∧ tyOk (getO k h) ty = true ∧ m ≤ ((cellsOf h k ver).getD []).length ∧ sz' = 1 ∧ off = 0 ∧ ((m + s.length : Nat) : Int) ≤ 140737488355328) ∧
      nx (putA t d (.osl k (ver + 1) 1 0 (m + s.length)))
        (setO k h (appO (getO k h) ty ver m s.length (bytesA s)))) := (rfl)
theorem putA_some {n : Nat} {v : AV} : putA t (some n) v = setA n t v := rfl
theorem putA_none {v : AV} : putA t none v = t := rfl
theorem sliceCells_nl : sliceCells h .nl = some (0, []) := rfl
theorem sliceCells_sl {n : Nat} {f : Nat → List AV} : sliceCells h (.sl n f) = some (n, (List.range n).flatMap f) := rfl
end
attribute [go_sem] getO_app0 getO_app setO_app0 setO_app verOf_mem verOf_emp tyOf_mem site_app site_app0 site_0_mem site_0_emp site_s cellsOf_app cellsOf_app0 cellsOf_0 cellsOf_s liveS_app liveS_app0 liveS_0_mem liveS_0_emp liveS_s tyOk_mem tyOk_emp b_add0 appO_mem appO_emp
attribute [go_sem] e_nilo e_alloc e_box e_store e_mkslc e_bslc e_appnl e_app e_appsnl e_apps putA_some putA_none sliceCells_nl sliceCells_sl
attribute [go_sem] List.set_cons_zero List.set_cons_succ Option.isSome_some List.take_zero List.take_succ_cons List.take_nil List.drop_nil List.nil_append List.cons_append List.append_nil Nat.reduceAdd Nat.reduceMul Nat.reduceSub Nat.reduceLeDiff Nat.reduceEqDiff Nat.zero_add
end AF
end

section
namespace AF
open Go
theorem callA_pure {P : Program} {f : Nat} {p : Bool} {vs : List AV} {d : Option Nat} {nx : Nx} {t : List AV} {h : List AObj} {r : AV} (hc : ACalls P f (strips vs) h r h) (hf : flags vs) (hn : nx (putA t d r) h) : callA P f p vs d nx t h :=
  ⟨hf, r, h, hc, fun _ => rfl, hn⟩
theorem callA_eff {P : Program} {f : Nat} {vs : List AV} {d : Option Nat} {nx : Nx} {t : List AV} {h h' : List AObj} {r : AV} (hc : ACalls P f (strips vs) h r h') (hf : flags vs) (hn : nx (putA t d r) h') : callA P f false vs d nx t h :=
  ⟨hf, r, h', hc, by simp, hn⟩
theorem callG_pure {P : Program} {f : Nat} {p g : Bool} {vs : List AV} {d : Option Nat} {nx : Nx} {t : List AV} {h : List AObj} {r : AV} (hc : g = true → flags vs ∧ ACalls P f (strips vs) h r h) (hn : nx (putA t d (.gd g r)) h) : callG P f p g vs d nx t h :=
  ⟨r, h, fun e => ⟨(hc e).1, (hc e).2, fun _ => rfl⟩, fun _ => rfl, hn⟩
theorem rvs_n {t : List AV} {h : List AObj} : rvsOk t h [] := trivial
theorem rvs_t {t : List AV} {h : List AObj} {n : Nat} {l : List RV} (hl : rvsOk t h l) : rvsOk t h (.tmp n :: l) := ⟨trivial, hl⟩
theorem flags_n : flags [] := trivial
theorem flags_c {a : AV} {l : List AV} (h : a.flag = true) (t : flags l) : flags (a :: l) := ⟨h, t⟩
theorem callG_false {P : Program} {f : Nat} {p : Bool} {vs : List AV} {d : Option Nat} {nx : Nx} {t : List AV} {h : List AObj} (r : AV) (hn : nx (putA t d (.gd false r)) h) : callG P f p false vs d nx t h := by
  refine ⟨r, h, ?_, fun _ => rfl, hn⟩
  intro e; cases e
theorem VLe_bool {a b : Bool} (h : a = b) : VLe (.bool a) (.bool b) := h ▸ VLe.refl _
theorem VLe_str {a b : List UInt8} (h : a = b) : VLe (.str a) (.str b) := h ▸ VLe.refl _
theorem VLe_sl {n m : Nat} {f g : Nat → List AV} (e : n = m) (h : ∀ i, i < m → f i = g i) : VLe (.sl n f) (.sl m g) := by
  subst e
  intro w σ x hx
  have h1 := vr_still rfl hx
  cases h1 with
  | nilsl => exact .imm .nilsl
  | sl sz b off cap vals hn hm hb hlt hsz hc h1 hv =>
    refine .imm (.sl sz b off cap vals hn hm hb hlt (fun i hi => ?_) hc h1 (fun i j c hi hj => ?_))
    · rw [← h i hi]; exact hsz i hi
    · rw [← h i hi] at hj; exact hv i j c hi hj
theorem VLe_nl {f : Nat → List AV} : VLe .nl (.sl 0 f) := by
  intro w σ x hx
  have h1 := vr_still rfl hx
  cases h1 with
  | nl => exact .imm .nilsl
theorem VLe_tup {l m : List AV} (h : VLes l m) : VLe (.tup l) (.tup m) := by
  intro w σ x hx
  obtain ⟨vs, rfl, hl, hv⟩ := vr_tup hx
  refine .tup (by rw [hl, h.length]) (fun i c x hc hx => ?_)
  obtain ⟨a, ha, hle⟩ := h.get i c hc
  exact hle w σ x (hv i a x ha hx)
theorem VLes2 {a b : AV} {l m : List AV} (h : VLe a b) (h' : VLes l m) : VLes (a :: l) (b :: m) := ⟨h, h'⟩
def cellOk (v : AV) (h : List AObj) (m : Option Nat) : Prop :=
  match v with
  | .op k ver off => okL h (.load m) [.op k ver off]
  | _ => False
theorem rvsOk_cell {n : Nat} {m : Option Nat} {l : List RV} {t : List AV} {h : List AObj} : rvsOk t h (.cell n m :: l) = (cellOk (getA n t) h m ∧ rvsOk t h l) := rfl
theorem rvsVal_cell {n : Nat} {m : Option Nat} {l : List RV} {t : List AV} {h : List AObj} : rvsVal t h (.cell n m :: l) = valL h (.load m) [getA n t] :: rvsVal t h l := rfl
theorem cellOk_op {k ver off : Nat} {h : List AObj} {m : Option Nat} : cellOk (.op k ver off) h m = okL h (.load m) [.op k ver off] := rfl
attribute [go_sem] rvsOk_cell rvsVal_cell cellOk_op
theorem atomsEq_nil : atomsEq [] [] [] = some true := rfl
theorem atomsEq_int {ks : List AK} {k : IntKind} {a c : Int} {l m : List AV} : atomsEq (.int :: ks) (.int k a :: l) (.int k c :: m) = (atomsEq ks l m).map (fun y => decide (a = c) && y) := by
  simp only [atomsEq, atomEq, if_true]
  cases atomsEq ks l m <;> rfl
theorem atomsEq_bool {ks : List AK} {a c : Bool} {l m : List AV} : atomsEq (.bool :: ks) (.bool a :: l) (.bool c :: m) = (atomsEq ks l m).map (fun y => (a == c) && y) := by
  simp only [atomsEq, atomEq]
  cases atomsEq ks l m <;> rfl
theorem atomsEq_str {ks : List AK} {a c : List UInt8} {l m : List AV} : atomsEq (.str :: ks) (.str a :: l) (.str c :: m) = (atomsEq ks l m).map (fun y => decide (a = c) && y) := by
  simp only [atomsEq, atomEq]
  cases atomsEq ks l m <;> rfl
attribute [go_sem] atomsEq_nil atomsEq_int atomsEq_bool atomsEq_str Option.map_some Bool.true_bne Bool.false_bne Bool.bne_false
theorem or_nand {a b : Bool} : (a || !a && b) = (a || b) := by cases a <;> simp
theorem beq_f {a : Bool} : (a == false) = !a := by cases a <;> rfl
attribute [go_sem] or_nand beq_f Bool.not_eq_true' Bool.or_eq_true decide_eq_false_iff_not Bool.or_eq_false_iff Bool.not_eq_false' Bool.and_eq_false_imp Bool.true_or Bool.or_true Bool.false_or Bool.true_and Bool.not_true Bool.not_false decide_not Bool.not_not
end AF
end

section
namespace AF
open Go
theorem fnQ_eff {rs : List RV} {h0 h' tl : List AObj} {K : AV → List AObj → Prop} {t : List AV} {r : AV} (hok : rvsOk t (h' ++ tl) rs) (hl : h'.length = h0.length) (hlow : ∀ o ∈ h', o ∈ h0 ∨ lowO h0.length o) (hK : K r h')
    (hv : VLe (frz (fun k => decide (h0.length ≤ k)) (h' ++ tl) 8 (retA (rvsVal t (h' ++ tl) rs))) r) : fnQ rs h0 K .ret t (h' ++ tl) :=
  ⟨r, h', hK, hok, ⟨tl, rfl⟩, hl, hlow, VOut.of 8 hv⟩
theorem fnQ_effn {rs : List RV} {h0 h' tl : List AObj} {K : AV → List AObj → Prop} {t : List AV} {r : AV} (hok : rvsOk t (h' ++ tl) rs) (hl : h'.length = h0.length) (hlow : ∀ o ∈ h', o ∈ h0 ∨ lowO h0.length o) (hK : K r h')
    (hv : VLe (frz (fun k => decide (h0.length ≤ k)) (h' ++ tl) 8 (retA (rvsVal t (h' ++ tl) rs))) r) : fnQ rs h0 K .normal t (h' ++ tl) :=
  ⟨r, h', hK, hok, ⟨tl, rfl⟩, hl, hlow, VOut.of 8 hv⟩
section
variable {k v : Nat} {h l : List AObj} {o o' : AObj} {ty : TypeId} {cs : List AV}
theorem getO_left (hk : k < h.length) : getO k (h ++ l) = getO k h := by unfold getO; rw [List.getElem?_append_left hk]
theorem setO_left (hk : k < h.length) : setO k (h ++ l) o = setO k h o ++ l := by unfold setO; rw [List.set_append_left _ _ hk]
theorem len_setO : (setO k h o).length = h.length := by unfold setO; simp
theorem getO_setO (hk : k < h.length) : getO k (setO k h o) = some o := by unfold getO setO; rw [List.getElem?_set_self hk]
theorem setO_setO : setO k (setO k h o) o' = setO k h o' := by unfold setO; rw [List.set_set]
theorem cellsOf_of (e : getO k h = some (.mem v ty cs)) : cellsOf h k v = some cs := by unfold cellsOf; rw [e]; simp
theorem getO_lt (e : getO k h = some o) : k < h.length := by unfold getO at e; exact (List.getElem?_eq_some_iff.1 e).1
theorem mem_setO {x : AObj} (hx : x ∈ setO k h o) : x ∈ h ∨ x = o := by
  unfold setO at hx
  exact List.mem_or_eq_of_mem_set hx
end
section
variable {k v w n : Nat} {h l : List AObj} {o o' : AObj} {ty : TypeId} {cs : List AV}
theorem getO_seta : getO (h.length + n) (setO k h o ++ l) = l[n]? := by
  have := @getO_app (setO k h o) l n
  rwa [len_setO] at this
theorem getO_seta0 : getO h.length (setO k h o ++ l) = l[0]? := by
  have := @getO_app0 (setO k h o) l
  rwa [len_setO] at this
theorem setO_seta : setO (h.length + n) (setO k h o ++ l) o' = setO k h o ++ l.set n o' := by
  have := @setO_app (setO k h o) l n o'
  rwa [len_setO] at this
theorem setO_seta0 : setO h.length (setO k h o ++ l) o' = setO k h o ++ l.set 0 o' := by
  have := @setO_app0 (setO k h o) l o'
  rwa [len_setO] at this
theorem cellsOf_seta : cellsOf (setO k h o ++ l) (h.length + n) v = cellsOf l n v := by unfold cellsOf; rw [getO_seta]; rfl
theorem cellsOf_seta0 : cellsOf (setO k h o ++ l) h.length v = cellsOf l 0 v := by unfold cellsOf; rw [getO_seta0]; rfl
theorem site_seta : site (setO k h o ++ l) (h.length + n) = site l n := by unfold site; rw [getO_seta]; rfl
theorem site_seta0 : site (setO k h o ++ l) h.length = site l 0 := by unfold site; rw [getO_seta0]; rfl
theorem liveS_seta : liveS (setO k h o ++ l) (h.length + n) v = liveS l n v := by unfold liveS; rw [getO_seta]; rfl
theorem liveS_seta0 : liveS (setO k h o ++ l) h.length v = liveS l 0 v := by unfold liveS; rw [getO_seta0]; rfl
end
attribute [go_sem] getO_seta getO_seta0 setO_seta setO_seta0 cellsOf_seta cellsOf_seta0 site_seta site_seta0 liveS_seta liveS_seta0
theorem setO_same {k : Nat} {h : List AObj} {o : AObj} (e : getO k h = some o) : setO k h o = h := by
  unfold getO at e; unfold setO
  obtain ⟨h1, h2⟩ := List.getElem?_eq_some_iff.1 e
  rw [← h2]; exact List.set_getElem_self h1
theorem retA_nil : retA [] = .tup [] := rfl
attribute [go_sem] retA_nil
end AF
end

section
namespace AF
open Go
def ipOf (c : Option (List AV)) (g : AV → AV) (off : Nat) : AV :=
  match c with
  | some cs => .ip ((cs.drop off).map g)
  | none => .undef
def slOf (o : Option AObj) (ver sz off len : Nat) (g : AV → AV) : AV :=
  match o with
  | some (.mem ve _ cs) => if ve = ver ∧ off + len * sz ≤ cs.length then .sl len (fun i => ((cs.drop (off + i * sz)).take sz).map g) else .undef
  | some (.emp ve) => if ve = ver then .nl else .undef
  | _ => .undef
section
variable {fz : Nat → Bool} {h : List AObj} {n k ver sz off len : Nat}
theorem rei_op : rei fz h (n + 1) (.op k ver off) = if fz k = true then ipOf (cellsOf h k ver) (rei fz h n) off else .undef := rfl
theorem rei_osl : rei fz h (n + 1) (.osl k ver sz off len) = if fz k = true then slOf (getO k h) ver sz off len (rei fz h n) else .undef := rfl
theorem frz_op : frz fz h (n + 1) (.op k ver off) = if fz k = true then rei fz h (n + 1) (.op k ver off) else .op k ver off := rfl
theorem frz_osl : frz fz h (n + 1) (.osl k ver sz off len) = if fz k = true then rei fz h (n + 1) (.osl k ver sz off len) else .osl k ver sz off len := rfl
theorem ipOf_some {cs : List AV} {g : AV → AV} : ipOf (some cs) g off = .ip ((cs.drop off).map g) := rfl
theorem slOf_mem {cs : List AV} {g : AV → AV} {ve : Nat} {ty : TypeId} : slOf (some (.mem ve ty cs)) ver sz off len g = if ve = ver ∧ off + len * sz ≤ cs.length then .sl len (fun i => ((cs.drop (off + i * sz)).take sz).map g) else .undef := rfl
theorem slOf_emp {g : AV → AV} {ve : Nat} : slOf (some (.emp ve)) ver sz off len g = if ve = ver then .nl else .undef := rfl
theorem rei_int {k : IntKind} {a : Int} : rei fz h (n + 1) (.int k a) = .int k a := rfl
theorem rei_bool {a : Bool} : rei fz h (n + 1) (.bool a) = .bool a := rfl
theorem rei_str {a : List UInt8} : rei fz h (n + 1) (.str a) = .str a := rfl
theorem rei_sl {m : Nat} {f : Nat → List AV} : rei fz h (n + 1) (.sl m f) = .sl m f := rfl
theorem rei_nl : rei fz h (n + 1) .nl = .nl := rfl
theorem rei_ip {cs : List AV} : rei fz h (n + 1) (.ip cs) = .ip cs := rfl
theorem rei_agg {cs : List AV} : rei fz h (n + 1) (.agg cs) = .agg (cs.map (rei fz h n)) := rfl
theorem rei_tup {cs : List AV} : rei fz h (n + 1) (.tup cs) = .tup (cs.map (rei fz h n)) := rfl
theorem rei_fn {f : Fn} {a b : List AV} : rei fz h (n + 1) (.fn f a b) = .fn f (a.map (rei fz h n)) (b.map (rei fz h n)) := rfl
theorem rei_nilp : rei fz h (n + 1) .nilp = .nilp := rfl
theorem rei_undef : rei fz h (n + 1) .undef = .undef := rfl
end
attribute [go_sem] rei_op rei_osl frz_op frz_osl ipOf_some slOf_mem slOf_emp rei_int rei_bool rei_str rei_sl rei_nl rei_ip rei_agg rei_tup rei_fn rei_nilp rei_undef Nat.le_add_right Nat.le_refl Nat.mul_one Nat.one_mul
theorem wg_callv {P : Program} {b : Nat} {r : List RO} {K : Nx} {t : List AV} {h : List AObj} {d : Option Nat} {xs : List X} {j : Nat} {u : Bool} : opsA P b (⟨d, some (j, u), .callv, xs⟩ :: r) K t h =
    (guardOk (getA j t) = true ∧ (guardA (getA j t) u = true → flags (evs t xs) ∧ callV P (strips (evs t xs)) d (opsA P b r K) t h) ∧ (guardA (getA j t) u = false → opsA P b r K (putA t d .undef) h)) := by simp only [opsA, stepO, stepB, R.kd]
theorem callV_yld {P : Program} {k : Nat} {args : List AV} {d : Option Nat} {nx : Nx} {t : List AV} {h : List AObj} : callV P (.yld k :: args) d nx t h = ((∃ s ts L, getO k h = some (.lp s ts L)) ∧ AYield P k args h fun v h' => nx (putA t d v) h') := (rfl)
theorem valP_not_undef : valP (.un .not) [.undef] = .bool true := rfl
theorem pickV_bub {g q : Bool} : pickV (.bool false) (.gd g .undef) (.bool q) = .bool q := rfl
attribute [go_sem] wg_callv callV_yld valP_not_undef pickV_bub true_implies false_implies Bool.false_eq_true Bool.true_eq_false
end AF
end

section
namespace AF
open Go
theorem opsA_mono {P : Program} {b : Nat} {l : List RO} : ∀ {nx nx' : Nx} {t : List AV} {h : List AObj}, (∀ t h, nx t h → nx' t h) → opsA P b l nx t h → opsA P b l nx' t h := by
  induction l with
  | nil => intro nx nx' t h hn H; exact hn _ _ H
  | cons o l ih => intro nx nx' t h hn H; exact stepO_mono (fun t h H => ih hn H) H
theorem rangeEnd_mono {h0 : List AObj} {t : List AV} {Q Q' : Ex → Nx} {h : List AObj} (hq : ∀ e t h, Q e t h → Q' e t h) (H : rangeEnd h0 t Q h) : rangeEnd h0 t Q' h := by
  obtain ⟨hh, s, ts, L, h1, h2, h3, h4⟩ := H
  refine ⟨hh, s, ts, L, h1, h2, h3, ?_⟩
  cases s with
  | ready => exact hq _ _ _ h4
  | ret => exact hq _ _ _ h4
  | exit id => exact hq _ _ _ h4
  | busy => exact h4
theorem codeA_mono {P : Program} {b : Nat} {x : C} : ∀ {Q Q' : Ex → Nx} {t : List AV} {h : List AObj}, (∀ e t h, Q e t h → Q' e t h) → codeA P b x Q t h → codeA P b x Q' t h := by
  induction x with
  | skip => intro Q Q' t h hq H; exact hq _ _ _ H
  | ops l => intro Q Q' t h hq H; exact opsA_mono (fun t h H => hq _ _ _ H) H
  | seq x y ihx ihy =>
    intro Q Q' t h hq H
    refine ihx (fun e t h H => ?_) H
    cases e with
    | normal => exact ihy hq H
    | exit id => exact hq _ _ _ H
    | ret => exact hq _ _ _ H
  | cond c x y ihx ihy =>
    intro Q Q' t h hq H
    simp only [codeA, condA] at *
    split at H
    · exact ⟨fun e => ihx hq (H.1 e), fun e => ihy hq (H.2 e)⟩
    · exact ⟨ihx hq H.1, ihy hq H.2⟩
    · exact H.elim
  | block id x ih =>
    intro Q Q' t h hq H
    refine ih (fun e t h H => ?_) H
    cases e with
    | normal => exact hq _ _ _ H
    | ret => exact hq _ _ _ H
    | exit i =>
      simp only [Ex.inBlock] at *
      split
      · rename_i e; rw [if_pos e] at H; exact hq _ _ _ H
      · rename_i e; rw [if_neg e] at H; exact hq _ _ _ H
  | loop x ih =>
    intro Q Q' t h hq H
    obtain ⟨I, h1, h2⟩ := H
    refine ⟨I, h1, fun n t' h' hi => ih (fun e t h H => ?_) (h2 n t' h' hi)⟩
    cases e with
    | normal => exact H
    | exit id => exact hq _ _ _ H
    | ret => exact hq _ _ _ H
  | range u ps x y ihx ihy =>
    intro Q Q' t h hq H L hy
    have := H L hy
    split at this
    · exact this.le (VLes.refl _) (fun v h' hr => ⟨v, VLe.refl _, rangeEnd_mono hq hr⟩)
    · exact this
  | exit id => intro Q Q' t h hq H; exact hq _ _ _ H
  | ret => intro Q Q' t h hq H; exact hq _ _ _ H
  | wk =>
    intro Q Q' t h hq H
    obtain ⟨t', h', h1, h2⟩ := H
    exact ⟨t', h', h1, hq _ _ _ h2⟩
  | draw d =>
    intro Q Q' t h hq H
    obtain ⟨M, h1, h2⟩ := H
    exact ⟨M, h1, fun t' h' hm => hq _ _ _ (h2 t' h' hm)⟩
  | bad => intro Q Q' t h hq H; exact H
def slcOf (o : Option AObj) (ver sz off n : Nat) : Option (Nat × List AV) :=
  match o with
  | some (.mem v _ cs) => if v = ver ∧ off + n * sz ≤ cs.length then some (n, (cs.drop off).take (n * sz)) else none
  | some (.emp v) => if v = ver ∧ n = 0 then some (0, []) else none
  | _ => none
theorem sliceCells_osl {h : List AObj} {k ver sz off n : Nat} : sliceCells h (.osl k ver sz off n) = slcOf (getO k h) ver sz off n := rfl
theorem slcOf_mem {v ver sz off n : Nat} {ty : TypeId} {cs : List AV} : slcOf (some (.mem v ty cs)) ver sz off n = if v = ver ∧ off + n * sz ≤ cs.length then some (n, (cs.drop off).take (n * sz)) else none := rfl
theorem slcOf_emp {v ver sz off n : Nat} : slcOf (some (.emp v)) ver sz off n = if v = ver ∧ n = 0 then some (0, []) else none := rfl
theorem apartS_osl {k v z p n k' v' z' p' n' : Nat} : apartS (.osl k v z p n) (.osl k' v' z' p' n') = (k != k') := rfl
theorem apartS_sl {k v z p n m : Nat} {f : Nat → List AV} : apartS (.osl k v z p n) (.sl m f) = true := rfl
theorem apartS_nl {k v z p n : Nat} : apartS (.osl k v z p n) .nl = true := rfl
attribute [go_sem] Int.toNat_zero decide_true decide_false beq_self_eq_true
attribute [go_sem] sliceCells_osl slcOf_mem slcOf_emp apartS_osl apartS_sl apartS_nl
theorem valL_idx_nl {g : List AObj} {z : Nat} {i : AV} : valL g (.idxA z) [.nl, i] = .undef := rfl
theorem valL_load_undef {g : List AObj} {n : Option Nat} : valL g (.load n) [.undef] = .undef := rfl
theorem valL_fld_undef {g : List AObj} {n : Nat} : valL g (.fldA n) [.undef] = .undef := rfl
theorem binV_undef {op : BinOp} {y : AV} : binV op .undef y = .undef := rfl
theorem pickV_tbu {p g : Bool} : pickV (.bool true) (.bool p) (.gd g .undef) = .bool p := rfl
theorem pickV_fub {p g : Bool} : pickV (.bool false) (.gd g .undef) (.bool p) = .bool p := rfl
attribute [go_sem] valL_idx_nl valL_load_undef valL_fld_undef binV_undef pickV_tbu pickV_fub
theorem c_range {P : Program} {b : Nat} {u : X} {ps : List Nat} {x y : C} {Q : Ex → Nx} {t : List AV} {h : List AObj} : codeA P b (.range u ps x y) Q t h = rangeA P (ev t u) ps (codeA P b x) (codeA P b y) Q t h := (rfl)
attribute [go_sem] c_range
end AF
end

section
namespace AF
open Go

theorem HR.move {w : World} {σ : List OB} {h : List AObj} (H : HR w σ h) {k j vj : Nat} {ty : TypeId} {cs : List AV} (hj : getO j h = some (.mem vj ty cs)) (hk : site h k = true) (hne : k ≠ j) :
    ∃ σ', HR w σ' (setO k (setO j h (.emp (vj + 1))) (.mem (verOf (getO k h) + 1) ty cs)) ∧ Ext w σ w σ' ∧
      ∀ sz off len x, VR w σ (.osl j vj sz off len) x → VR w σ' (.osl k (verOf (getO k h) + 1) sz off len) x := by
  obtain ⟨ok, hok, hver⟩ := site_spec H hk
  have hjl : j < σ.length := by rw [H.len]; exact getO_lt hj
  have hkl : k < σ.length := (List.getElem?_eq_some_iff.1 hok).1
  obtain ⟨oj, hoj⟩ : ∃ oj, σ[j]? = some oj := ⟨_, List.getElem?_eq_getElem hjl⟩
  have hobj := H.obj j _ oj hj hoj
  obtain ⟨m1, m2, b, arr, m3, m4, m5, m6, m7, m8⟩ := hobj
  rw [hver]
  let oj' : OB := { oj with blk := none, ver := oj.ver + 1 }
  let ok' : OB := { oj with ver := ok.ver + 1 }
  let σ' := (σ.set j oj').set k ok'
  have gk : σ'[k]? = some ok' := by simp [σ', hkl]
  have gj : σ'[j]? = some oj' := by simp only [σ']; rw [List.getElem?_set_ne hne]; simp [hjl]
  have go : ∀ i, i ≠ k → i ≠ j → σ'[i]? = σ[i]? := by
    intro i h1 h2
    simp only [σ']
    rw [List.getElem?_set_ne (fun e => h1 e.symm), List.getElem?_set_ne (fun e => h2 e.symm)]
  have blk : ∀ (i : Nat) (o : OB) (b : Nat), σ'[i]? = some o → o.blk = some b → (i = k ∧ oj.blk = some b) ∨ (i ≠ k ∧ i ≠ j ∧ σ[i]? = some o) := by
    intro i o b h1 h2
    by_cases e1 : i = k
    · subst e1; rw [gk] at h1; cases h1; exact .inl ⟨rfl, h2⟩
    · by_cases e2 : i = j
      · subst e2; rw [gj] at h1; cases h1; cases h2
      · rw [go i e1 e2] at h1; exact .inr ⟨e1, e2, h1⟩
  have hext : Ext w σ w σ' := by
    refine ⟨rfl, rfl, rfl, Nat.le_refl _, fun _ _ _ => rfl, ?_, ?_, fun b r h => ⟨r, h⟩⟩
    · rintro b ⟨i, o, h1, h2⟩
      rcases blk i o b h1 h2 with ⟨_, h3⟩ | ⟨_, _, h3⟩
      · exact .inl ⟨j, oj, hoj, h3⟩
      · exact .inl ⟨i, o, h3, h2⟩
    · intro i o h1
      by_cases e1 : i = k
      · subst e1; rw [hok] at h1; cases h1; exact ⟨ok', gk, by simp [ok'], by simp [ok']⟩
      · by_cases e2 : i = j
        · subst e2; rw [hoj] at h1; cases h1; exact ⟨oj', gj, by simp [oj'], by simp [oj']⟩
        · exact ⟨o, by rw [go i e1 e2]; exact h1, Nat.le_refl _, fun _ => rfl⟩
  refine ⟨σ', ⟨by simp [σ', setO, H.len], ?_, ?_, ?_⟩, hext, ?_⟩
  · intro i i' o o' b h1 h2 h3 h4
    rcases blk i o b h1 h3 with ⟨rfl, g1⟩ | ⟨g0, g1, g2⟩ <;> rcases blk i' o' b h2 h4 with ⟨rfl, g1'⟩ | ⟨g0', g1', g2'⟩
    · rfl
    · exact absurd (H.inj i' j o' oj b g2' hoj h4 g1) g1'
    · exact absurd (H.inj i j o oj b g2 hoj h3 g1') g1
    · exact H.inj i i' o o' b g2 g2' h3 h4
  · intro i o b h1 h2
    rcases blk i o b h1 h2 with ⟨_, g1⟩ | ⟨_, _, g2⟩
    · exact H.lt j oj b hoj g1
    · exact H.lt i o b g2 h2
  · intro i a o ha ho
    by_cases e1 : i = k
    · subst e1
      have hkh : i < (setO j h (.emp (vj + 1))).length := by rw [len_setO, ← H.len]; exact hkl
      have := getO_setO (o := .mem (ok.ver + 1) ty cs) hkh
      unfold getO at this
      rw [this] at ha
      cases ha
      rw [gk] at ho
      cases ho
      exact ⟨rfl, m2, b, arr, m3, m4, m5, m6, m7, fun i c x hc hx => (m8 i c x hc hx).ext hext⟩
    · by_cases e2 : i = j
      · subst e2
        have hjh : i < h.length := by rw [← H.len]; exact hjl
        simp only [setO] at ha
        rw [List.getElem?_set_ne hne, List.getElem?_set_self hjh] at ha
        cases ha
        rw [gj] at ho
        cases ho
        exact ⟨by simp [oj', m1], rfl⟩
      · rw [go i e1 e2] at ho
        simp only [setO] at ha
        rw [List.getElem?_set_ne (fun e => e1 e.symm), List.getElem?_set_ne (fun e => e2 e.symm)] at ha
        exact (H.obj i a o ha ho).ext hext (fun _ _ => rfl)
  · intro sz off len x hx
    cases hx with
    | imm h => cases h
    | osl o ho hs hle hh =>
      rw [hoj] at ho
      cases ho
      refine .osl ok' gk hs (Nat.le_refl _) (fun _ => ?_)
      exact hh m1

def fnM (rs : List RV) (h0 : List AObj) (k : Nat) (K : AV → List AObj → Prop) : Ex → Nx
  | .exit _, _, _ => False
  | _, t, hh => ∃ (j vj sz off len : Nat) (ty : TypeId) (cs : List AV) (tl : List AObj), rvsOk t hh rs ∧ retA (rvsVal t hh rs) = .osl j vj sz off len ∧ hh = h0 ++ tl ∧ h0.length ≤ j ∧ getO j hh = some (.mem vj ty cs) ∧
      (∀ c ∈ cs, lowV h0.length c = true) ∧ site h0 k = true ∧ K (.osl k (verOf (getO k h0) + 1) sz off len) (setO k h0 (.mem (verOf (getO k h0) + 1) ty cs))

theorem acallsM_of {P : Program} {f nt ns : Nat} {rs : List RV} {c : C} (hf : FnIs P f nt ns rs c) {args : List AV} {h : List AObj} {K : AV → List AObj → Prop} (k : Nat) (ha : args.length ≤ nt)
    (hw : codeA P h.length c (fnM rs h k K) (args ++ List.replicate (nt - args.length) .undef) (h ++ List.replicate ns (.emp 0))) : ACallsQ P f args h K := by
  obtain ⟨fn, body, js, imp, wks, h1, h2, h3, rfl, rfl, h6, h7⟩ := hf
  refine ⟨by simp [okF, h1, h2, h3], fun w σ xs H hv => ?_⟩
  refine callsIn_of_wp_marks h1 h2 trivial ?_
  obtain ⟨p1, p2⟩ := H.pushN js.length
  have hsr : SR w.heap.size w (σ ++ List.replicate js.length ⟨none, 0, 0, 0⟩) (args ++ List.replicate (fn.ntmps - args.length) .undef) (h ++ List.replicate js.length (.emp 0))
      { tmps := xs.toArray ++ Array.replicate (fn.ntmps - xs.toArray.size) Go.undef, defers := [] } := by
    refine ⟨p1, by simp [hv.1], fun i c x hc hx => ?_, ⟨[], rfl, .nil, Nat.le_refl _, by simp⟩⟩
    rw [List.getElem?_append] at hc
    simp only [Array.getElem?_append] at hx
    have hz : xs.toArray.size = args.length := by simp [hv.1]
    split at hc
    · rename_i hi
      rw [if_pos (by omega)] at hx
      exact (hv.2 i c x hc (by simpa using hx)).ext p2
    · rw [List.getElem?_replicate] at hc
      split at hc
      · cases hc; exact .imm .undef
      · cases hc
  refine wpIn_mono (cv_sound (b := h.length) h7 w.heap.size none _ w _ _ _ _ hw (by simp) hsr) ?_
  rintro e a' w' ⟨z, σ', t', hh, he, g1, g2, g3⟩
  have key : (∃ (j vj sz off len : Nat) (ty : TypeId) (cs : List AV) (tl : List AObj), rvsOk t' hh rs ∧ retA (rvsVal t' hh rs) = .osl j vj sz off len ∧ hh = h ++ tl ∧ h.length ≤ j ∧ getO j hh = some (.mem vj ty cs) ∧
      (∀ c ∈ cs, lowV h.length c = true) ∧ site h k = true ∧ K (.osl k (verOf (getO k h) + 1) sz off len) (setO k h (.mem (verOf (getO k h) + 1) ty cs))) →
      LeavesInM Fence.wide 0 P fn a'.tmps (fun e w' => ∃ v σ' r h', K r h' ∧ e = .returned v ∧ HR w' σ' h' ∧ VR w' σ' r v ∧ Ext w σ w' σ') a'.defers .returning w' := by
    rintro ⟨j, vj, sz, off, len, ty, cs, tl, k1, k2, rfl, k3, k4, k5, k6, hK⟩
    obtain ⟨ms, d1, d2, d3, d4⟩ := g1.df
    rw [d1]
    refine leaves_marks (N := w.heap.size) ms w' d2 (fun r hr => ⟨(d4 r hr).1, (d4 r hr).2.2.2⟩) (fun w1 e1 => ?_)
    have H1 := g1.hr.dt e1
    obtain ⟨v, v1, v2⟩ := results_vr (P := P) H1 g1.sz (fun i c x hc hx => (g1.tm i c x hc hx).dt e1) h6 k1
    rw [k2] at v2
    have ee : Ext w σ w1 σ' := (p2.trans g2).dt e1
    have hkl : k < h.length := by
      have := k6
      unfold site at this
      split at this
      · rename_i hx; exact getO_lt hx
      · rename_i hx; exact getO_lt hx
      · rename_i hx; exact getO_lt hx
      · cases this
    have hkt : site (h ++ tl) k = true := by unfold site at k6 ⊢; rw [getO_left hkl]; exact k6
    obtain ⟨σ2, q1, q2, q3⟩ := H1.move k4 hkt (by omega)
    have q3' := q3 _ _ _ _ v2
    rw [getO_left hkl] at q1 q3'
    have eh : setO k (setO j (h ++ tl) (.emp (vj + 1))) (.mem (verOf (getO k h) + 1) ty cs) = setO k h (.mem (verOf (getO k h) + 1) ty cs) ++ setO (j - h.length) tl (.emp (vj + 1)) := by
      unfold setO
      rw [List.set_append_right _ _ k3, List.set_append_left _ _ hkl]
    rw [eh] at q1
    obtain ⟨m1, m2⟩ := HR.trunc H (ee.trans q2) q1 len_setO (fun o ho => by
      rcases mem_setO ho with h1 | rfl
      · exact .inl h1
      · exact .inr k5)
    refine ⟨v, v1, v, _, _, _, hK, rfl, m1, ?_, m2⟩
    cases q3' with
    | imm h => cases h
    | osl o ho hs hle hh =>
      refine .osl o ?_ hs hle hh
      rw [List.getElem?_take, if_pos hkl]
      exact ho
  cases e with
  | normal => cases he; exact key g3
  | ret => cases he; exact key g3
  | exit id => cases he; exact g3.elim
  | goto l => cases he
  | panic c => cases he
  | outgrown => cases he
theorem acallsM {P : Program} {f nt ns : Nat} {rs : List RV} {c : C} (hf : FnIs P f nt ns rs c) {args : List AV} {h : List AObj} {r : AV} {h' : List AObj} (k : Nat) (ha : args.length ≤ nt)
    (hw : codeA P h.length c (fnM rs h k fun r1 h1 => r1 = r ∧ h1 = h') (args ++ List.replicate (nt - args.length) .undef) (h ++ List.replicate ns (.emp 0))) : ACalls P f args h r h' := (acallsM_of hf k ha hw).calls
end AF
end

section
namespace AF
open Go
section
variable {P : Program} {b : Nat} {r : List RO} {K : Nx} {t : List AV} {h : List AObj} {d : Option Nat} {xs : List X} {j : Nat} {u : Bool}
theorem wg_bslc {i z n : Nat} {ty : TypeId} {zs : List AV} {ps : List (Nat × Nat)} : opsA P b (⟨d, some (j, u), .bslc i z n ty zs ps, xs⟩ :: r) K t h =
    (guardOk (getA j t) = true ∧ (guardA (getA j t) u = true → flags (evs t xs) ∧ effE b h (.bslc i z n ty zs ps) (strips (evs t xs)) t d (opsA P b r K)) ∧ (guardA (getA j t) u = false → opsA P b r K (putA t d .undef) h)) := by simp only [opsA, stepO, stepB, R.kd]
theorem wg_box {i : Nat} {ty : TypeId} : opsA P b (⟨d, some (j, u), .box i ty, xs⟩ :: r) K t h =
    (guardOk (getA j t) = true ∧ (guardA (getA j t) u = true → flags (evs t xs) ∧ effE b h (.box i ty) (strips (evs t xs)) t d (opsA P b r K)) ∧ (guardA (getA j t) u = false → opsA P b r K (putA t d .undef) h)) := by simp only [opsA, stepO, stepB, R.kd]
theorem wg_app {i z m : Nat} {ty : TypeId} : opsA P b (⟨d, some (j, u), .app i z ty m, xs⟩ :: r) K t h =
    (guardOk (getA j t) = true ∧ (guardA (getA j t) u = true → flags (evs t xs) ∧ effE b h (.app i z ty m) (strips (evs t xs)) t d (opsA P b r K)) ∧ (guardA (getA j t) u = false → opsA P b r K (putA t d .undef) h)) := by simp only [opsA, stepO, stepB, R.kd]
end
attribute [go_sem] wg_bslc wg_box wg_app
end AF
end

section
namespace AF
open Go
def cellsIn (o : Option AObj) (ver : Nat) : Option (List AV) :=
  match o with
  | some (.mem v _ cs) => if v = ver then some cs else none
  | _ => none
def liveIn (o : Option AObj) (ver : Nat) : Bool :=
  match o with
  | some (.mem v _ _) => v == ver
  | some (.emp v) => v == ver
  | _ => false
section
variable {h l : List AObj} {i j k ver v : Nat} {o o' o'' : AObj} {ty : TypeId} {cs : List AV}
theorem cellsOf_def : cellsOf h k ver = cellsIn (getO k h) ver := rfl
theorem liveS_def : liveS h k ver = liveIn (getO k h) ver := rfl
theorem cellsIn_mem : cellsIn (some (.mem v ty cs)) ver = if v = ver then some cs else none := rfl
theorem liveIn_mem : liveIn (some (.mem v ty cs)) ver = (v == ver) := rfl
theorem liveIn_emp : liveIn (some (.emp v)) ver = (v == ver) := rfl
theorem getO_setO_ne (hne : k ≠ j) : getO k (setO j h o) = getO k h := by unfold getO setO; rw [List.getElem?_set_ne (fun e => hne e.symm)]
theorem getO_L1 (hk : k < h.length) : getO k (setO j h o ++ l) = getO k (setO j h o) := getO_left (by rw [len_setO]; exact hk)
theorem getO_L2 (hk : k < h.length) : getO k (setO i (setO j h o) o' ++ l) = getO k (setO i (setO j h o) o') := getO_left (by rw [len_setO, len_setO]; exact hk)
theorem setO_L1 (hk : k < h.length) : setO k (setO j h o ++ l) o' = setO k (setO j h o) o' ++ l := setO_left (by rw [len_setO]; exact hk)
theorem setO_L2 (hk : k < h.length) : setO k (setO i (setO j h o) o' ++ l) o'' = setO k (setO i (setO j h o) o') o'' ++ l := setO_left (by rw [len_setO, len_setO]; exact hk)
theorem setO_comm (hne : i ≠ j) : setO i (setO j h o) o' = setO j (setO i h o') o := by unfold setO; rw [List.set_comm _ _ (fun e => hne e.symm)]
end
end AF
end

section
namespace AF
open Go

theorem mapM_some {α β : Type} {f : α → Option β} : ∀ {l : List α} {ys : List β}, l.mapM f = some ys → ys.length = l.length ∧ ∀ (i : Nat) x y, l[i]? = some x → ys[i]? = some y → f x = some y := by
  intro l
  induction l with
  | nil => intro ys h; simp at h; subst h; simp
  | cons a l ih =>
    intro ys h
    rw [List.mapM_cons] at h
    cases ha : f a with
    | none => simp [ha] at h
    | some b =>
      cases hl : l.mapM f with
      | none => simp [ha, hl] at h
      | some zs =>
        simp [ha, hl] at h
        subst h
        obtain ⟨h1, h2⟩ := ih hl
        refine ⟨by simp [h1], fun i x y hx hy => ?_⟩
        cases i with
        | zero => simp at hx hy; subst hx hy; exact ha
        | succ i => exact h2 i x y (by simpa using hx) (by simpa using hy)

inductive FK where
  | bool
  | int (k : IntKind)
  | str
  deriving DecidableEq
def fkOk : FK → AV → Prop
  | .bool, a => ∃ b, a = .bool b
  | .int k, a => ∃ n, a = .int k n ∧ (Lit.int k n).wf = true
  | .str, a => ∃ s : List UInt8, a = .str s ∧ s.length ≤ maxLen
def fksOk : List FK → List AV → Prop
  | [], [] => True
  | k :: ks, a :: as => fkOk k a ∧ fksOk ks as
  | _, _ => False
theorem fksOk_len : ∀ {ks : List FK} {as : List AV}, fksOk ks as → as.length = ks.length := by
  intro ks
  induction ks with
  | nil => intro as h; cases as <;> simp_all [fksOk]
  | cons k ks ih => intro as h; cases as with
    | nil => simp [fksOk] at h
    | cons a as => simp [ih h.2]
def fkOf (P : Program) (t : TypeId) : Option FK :=
  match P.underlying t with
  | some .bool => some .bool
  | some (.int k) => some (.int k)
  | some .string => some .str
  | _ => none
def fksOf (P : Program) : Nat → List Field → Option (List FK)
  | _, [] => some []
  | n, f :: r => match fkOf P f.type, fksOf P (n + 1) r with
    | some k, some l => if f.offset = n ∧ P.cellsOf f.type = 1 then some (k :: l) else none
    | _, _ => none
def flatK (P : Program) (t : TypeId) : Option (List FK) :=
  match P.underlying t with
  | some (.struct fs) => match fksOf P 0 fs.toList with
    | some l => if P.cellsOf t = l.length then some l else none
    | none => none
  | _ => (fkOf P t).bind fun k => if P.cellsOf t = 1 then some [k] else none

section
variable {H : Type} {enc : TypeId × Value → H} {P : Program} {w : World} {sp : Nat → Bool} {held : Bool} {ow : Nat → Prop}

theorem fk_trod {t : TypeId} {k : FK} {fuel : Nat} {cs : List Value} {d : DataW H} {ps : List MemPlace} (hk : fkOf P t = some k) (h : DataW.trod enc P w 0 sp held fuel t cs = some (d, ps)) :
    ∃ a v, cs = [v] ∧ fkOk k a ∧ VI w ow a v ∧ v.oneCell' = true := by
  unfold fkOf at hk
  split at hk
  · rename_i ht
    cases hk
    obtain ⟨b, rfl, _⟩ := DataW.trod_bool ht h
    exact ⟨.bool b, _, rfl, ⟨b, rfl⟩, .bool, rfl⟩
  · rename_i k ht
    cases hk
    obtain ⟨n, rfl, _, hw⟩ := DataW.trod_int ht h
    exact ⟨.int k n, _, rfl, ⟨n, rfl, hw⟩, .int, rfl⟩
  · rename_i ht
    cases hk
    obtain ⟨s, rfl, _, hw⟩ := DataW.trod_string ht h
    have hsz : s.data.toList.length ≤ maxLen := by rw [Array.length_toList]; exact hw
    exact ⟨.str s.data.toList, _, rfl, ⟨_, rfl, hsz⟩, by have := @VI.str w ow s.data.toList; rw [Array.toArray_toList] at this; exact this, rfl⟩
  · cases hk

theorem fks_fields {n : Nat} {fs : List Field} {ks : List FK} (hk : fksOf P n fs = some ks) : fs.length = ks.length ∧ ∀ (i : Nat) f k, fs[i]? = some f → ks[i]? = some k → f.offset = n + i ∧ P.cellsOf f.type = 1 ∧ fkOf P f.type = some k := by
  induction fs generalizing n ks with
  | nil => cases hk; simp
  | cons f fs ih =>
    simp only [fksOf] at hk
    split at hk
    · rename_i k l h1 h2
      split at hk
      · rename_i h3
        cases hk
        obtain ⟨g1, g2⟩ := ih h2
        refine ⟨by simp [g1], fun i x y hx hy => ?_⟩
        cases i with
        | zero => simp at hx hy; subst hx hy; exact ⟨by omega, h3.2, h1⟩
        | succ i =>
          have := g2 i x y (by simpa using hx) (by simpa using hy)
          exact ⟨by omega, this.2⟩
      · cases hk
    · cases hk

theorem fksOk_of {ks : List FK} {as : List AV} (hl : as.length = ks.length) (h : ∀ (i : Nat) k a, ks[i]? = some k → as[i]? = some a → fkOk k a) : fksOk ks as := by
  induction ks generalizing as with
  | nil => cases as with
    | nil => trivial
    | cons a as => simp at hl
  | cons k ks ih => cases as with
    | nil => simp at hl
    | cons a as => exact ⟨h 0 k a rfl rfl, ih (by simpa using hl) (fun i k a h1 h2 => h (i + 1) k a (by simpa using h1) (by simpa using h2))⟩

theorem flat_trod {t : TypeId} {ks : List FK} {fuel : Nat} {cs : List Value} {d : DataW H} {ps : List MemPlace} (hk : flatK P t = some ks) (h : DataW.trod enc P w 0 sp held fuel t cs = some (d, ps)) :
    ks.length = P.cellsOf t ∧ ∃ as : List AV, fksOk ks as ∧ cs.length = as.length ∧ (∀ (i : Nat) v, cs[i]? = some v → v.oneCell' = true) ∧ ∀ (i : Nat) c v, as[i]? = some c → cs[i]? = some v → VI w ow c v := by
  unfold flatK at hk
  split at hk
  · rename_i fs ht
    split at hk
    · rename_i l hl
      split at hk
      · rename_i hc
        cases hk
        refine ⟨hc.symm, ?_⟩
        obtain ⟨g1, g2⟩ := fks_fields hl
        cases fuel with
        | zero => simp [DataW.trod] at h
        | succ fuel =>
          simp only [DataW.trod, ht] at h
          split at h
          · rename_i hcl
            rw [Option.map_eq_some_iff] at h
            obtain ⟨xs, hm, _⟩ := h
            obtain ⟨m1, m2⟩ := mapM_some hm
            have key : ∀ i, i < ks.length → ∃ a v k, ks[i]? = some k ∧ cs[i]? = some v ∧ fkOk k a ∧ VI w ow a v ∧ v.oneCell' = true := by
              intro i hi
              have hfi : i < fs.toList.length := by omega
              have hxi : i < xs.length := by omega
              have e1 : fs.toList[i]? = some fs.toList[i] := List.getElem?_eq_getElem hfi
              have e2 : ks[i]? = some ks[i] := List.getElem?_eq_getElem hi
              have e3 : xs[i]? = some xs[i] := List.getElem?_eq_getElem hxi
              obtain ⟨q1, q2, q3⟩ := g2 i _ _ e1 e2
              have q4 := m2 i _ _ e1 e3
              rw [q1, q2, Nat.zero_add] at q4
              obtain ⟨a, v, r1, r2, r3, r4⟩ := fk_trod (ow := ow) q3 (show DataW.trod enc P w 0 sp held fuel fs.toList[i].type ((cs.drop i).take 1) = some (xs[i].1, xs[i].2) from q4)
              have : cs[i]? = some v := by
                have := congrArg (fun l => l[0]?) r1
                simpa [List.getElem?_take, List.getElem?_drop] using this
              exact ⟨a, v, _, e2, this, r2, r3, r4⟩
            have hcs : cs.length = ks.length := by omega
            have ex : ∃ g : Nat → AV, ∀ i, i < ks.length → ∃ v k, ks[i]? = some k ∧ cs[i]? = some v ∧ fkOk k (g i) ∧ VI w ow (g i) v ∧ v.oneCell' = true := by
              refine ⟨fun i => if hi : i < ks.length then (key i hi).choose else .undef, fun i hi => ?_⟩
              simp only [dif_pos hi]
              obtain ⟨v, k, hh⟩ := (key i hi).choose_spec
              exact ⟨v, k, hh⟩
            obtain ⟨g, hg⟩ := ex
            refine ⟨(List.range ks.length).map g, fksOk_of (by simp) (fun i k a h1 h2 => ?_), by simp [hcs], fun i v hv => ?_, fun i c v hc hv => ?_⟩
            · have hi : i < ks.length := (List.getElem?_eq_some_iff.1 h1).1
              obtain ⟨v, k', q1, q2, q3, _⟩ := hg i hi
              simp [hi] at h2
              rw [h1] at q1
              cases q1
              rw [← h2]; exact q3
            · have hi : i < ks.length := by have := (List.getElem?_eq_some_iff.1 hv).1; omega
              obtain ⟨v', k', q1, q2, q3, q4, q5⟩ := hg i hi
              rw [hv] at q2; cases q2; exact q5
            · have hi : i < ks.length := by have := (List.getElem?_eq_some_iff.1 hv).1; omega
              obtain ⟨v', k', q1, q2, q3, q4, q5⟩ := hg i hi
              simp [hi] at hc
              rw [hv] at q2; cases q2; rw [← hc]; exact q4
          · cases h
      · cases hk
    · cases hk
  · rw [Option.bind_eq_some_iff] at hk
    obtain ⟨k, hk1, hk2⟩ := hk
    split at hk2
    · rename_i hc
      cases hk2
      obtain ⟨a, v, rfl, r2, r3, r4⟩ := fk_trod (ow := ow) hk1 h
      refine ⟨hc.symm, [a], ⟨r2, trivial⟩, rfl, fun i x hx => ?_, fun i c x hc hx => ?_⟩
      · cases i <;> simp at hx; subst hx; exact r4
      · cases i <;> simp at hx hc; subst hx hc; exact r3
    · cases hk2

theorem slice_trod {t e : TypeId} {ks : List FK} {v : Value} {d : DataW H} {ps : List MemPlace} (ht : P.underlying t = some (.slice e)) (hk : flatK P e = some ks) (h0 : 0 < ks.length)
    {base : Nat} (hval : Value.okWide P w .any base t v) (how : ∀ b, ¬ ow b) (h : DataW.Trod enc P w 0 (fun _ => true) held t v d ps) :
    ∃ (n : Nat) (f : Nat → List AV), n ≤ maxLen ∧ VI w ow (.sl n f) v ∧ ∀ i, i < n → fksOk ks (f i) := by
  have hc : Cell.ok P w .any base t v := by
    unfold Value.okWide at hval
    rw [ht] at hval
    simp only at hval
    unfold Cell.okWide at hval
    rw [ht] at hval
    simpa using hval
  obtain ⟨fuel, h⟩ := h
  cases fuel with
  | zero => simp [DataW.trod] at h
  | succ fuel =>
    unfold Cell.ok at hc
    rw [ht] at hc
    split at hc <;> first | (rename_i g _; cases g; done) | skip
    all_goals first | (rename_i g; cases g; done) | skip
    · exact ⟨0, fun _ => [], Nat.zero_le _, .nilsl, fun i hi => absurd hi (Nat.not_lt_zero _)⟩
    · rename_i e' a len cap he
      cases he
      obtain ⟨c1, c2, c3, c4, row, cells, c5, c6⟩ := hc
      obtain ⟨b, off, spot⟩ := a
      simp only at c4
      subst c4
      have hadd : ∀ n, (⟨b, off, none⟩ : Addr).add n = ⟨b, off + n, none⟩ := by
        intro n; unfold Addr.add; split
        · rename_i h; subst h; rfl
        · rfl
      have hadd2 : ∀ n m, (⟨b, off + n, none⟩ : Addr).add m = ⟨b, off + n + m, none⟩ := by
        intro n m; unfold Addr.add; split
        · rename_i h; subst h; rfl
        · rfl
      have hlt : b < w.heap.size := by
        unfold World.shape? at c5
        split at c5
        · rename_i hx; exact (Array.getElem?_eq_some_iff.1 hx).1
        · cases c5
      simp only [DataW.trod, ht, Value.cells, hadd] at h
      split at h
      · rename_i hcc
        rw [Option.bind_eq_some_iff] at h
        obtain ⟨elems, hm, _⟩ := h
        obtain ⟨m1, m2⟩ := mapM_some hm
        simp only [List.length_range] at m1
        have key : ∀ i, i < len → ∃ (as : List AV) (cs : List Value), fksOk ks as ∧ cs.length = as.length ∧ cs.length = ks.length ∧ (∀ (j : Nat) v, cs[j]? = some v → w.cell? ⟨b, off + i * ks.length + j, none⟩ = some v) ∧
            (∀ (j : Nat) v, cs[j]? = some v → v.oneCell' = true) ∧ ∀ (j : Nat) c v, as[j]? = some c → cs[j]? = some v → VI w ow c v := by
          intro i hi
          have e1 : (List.range len)[i]? = some i := by simp [hi]
          have e2 : elems[i]? = some elems[i] := List.getElem?_eq_getElem (by omega)
          have h3 := m2 i _ _ e1 e2
          rw [Option.bind_eq_some_iff] at h3
          obtain ⟨cs, h3, h4⟩ := h3
          obtain ⟨f1, as, f2, f3, f4, f5⟩ := flat_trod (ow := ow) hk (show DataW.trod enc P w 0 (fun _ => true) held fuel e cs = some (elems[i].1, elems[i].2) from h4)
          unfold World.cells? at h3
          rw [if_pos (Nat.zero_le _)] at h3
          obtain ⟨n1, n2⟩ := mapM_some h3
          simp only [List.length_range] at n1
          refine ⟨as, cs, f2, f3, by omega, fun j v hj => ?_, f4, f5⟩
          have hjl : j < P.cellsOf e := by have := (List.getElem?_eq_some_iff.1 hj).1; omega
          have := n2 j j v (by simp [hjl]) hj
          rw [hadd2] at this
          rw [f1]
          exact this
        have ex : ∃ g : Nat → List AV × List Value, ∀ i, i < len → fksOk ks (g i).1 ∧ (g i).2.length = (g i).1.length ∧ (g i).2.length = ks.length ∧ (∀ (j : Nat) v, (g i).2[j]? = some v → w.cell? ⟨b, off + i * ks.length + j, none⟩ = some v) ∧
            (∀ (j : Nat) v, (g i).2[j]? = some v → v.oneCell' = true) ∧ ∀ (j : Nat) c v, (g i).1[j]? = some c → (g i).2[j]? = some v → VI w ow c v := by
          refine ⟨fun i => if hi : i < len then ((key i hi).choose, (key i hi).choose_spec.choose) else ([], []), fun i hi => ?_⟩
          simp only [dif_pos hi]
          exact (key i hi).choose_spec.choose_spec
        obtain ⟨g, hg⟩ := ex
        refine ⟨len, fun i => (g i).1, Nat.le_trans c1 hcc.2.2, .sl ks.length b off cap (fun i j => (g i).2.getD j Go.undef) c1 hcc.2.2 (fun _ => how b) hlt (fun i hi => ?_) (fun i j hi hj => ?_) (fun i j hi hj => ?_) (fun i j c hi hc => ?_), fun i hi => (hg i hi).1⟩
        · obtain ⟨_, q2, q3, _⟩ := hg i hi; omega
        · obtain ⟨_, q2, q3, q4, _⟩ := hg i hi
          have e : (g i).2[j]? = some (g i).2[j] := List.getElem?_eq_getElem (by omega)
          rw [q4 j _ e, List.getD_eq_getElem?_getD, e]; rfl
        · obtain ⟨_, q2, q3, q4, q5, _⟩ := hg i hi
          have e : (g i).2[j]? = some (g i).2[j] := List.getElem?_eq_getElem (by omega)
          rw [List.getD_eq_getElem?_getD, e]; exact q5 j _ e
        · obtain ⟨_, q2, q3, q4, q5, q6⟩ := hg i hi
          have hj := (List.getElem?_eq_some_iff.1 hc).1
          have e : (g i).2[j]? = some (g i).2[j] := List.getElem?_eq_getElem (by omega)
          rw [List.getD_eq_getElem?_getD, e]; exact q6 j c _ hc e
      · cases h
    · rename_i hno1 hno2 _ _ _
      exact hc.elim
end
theorem HR.nil (w : World) : HR w [] [] := ⟨rfl, by simp, by simp, by simp⟩
theorem own_nil (b : Nat) : ¬ own [] b := fun ⟨k, o, h, _⟩ => by simp at h
theorem VRs.nil' {w : World} {σ : List OB} : VRs w σ [] [] := ⟨rfl, by simp⟩
theorem VRs.cons' {w : World} {σ : List OB} {a : AV} {v : Value} {as : List AV} {vs : List Value} (h : VR w σ a v) (h' : VRs w σ as vs) : VRs w σ (a :: as) (v :: vs) := by
  refine ⟨by simp [h'.1], fun i c x hc hx => ?_⟩
  cases i with
  | zero => simp at hc hx; subst hc hx; exact h
  | succ i => exact h'.2 i c x (by simpa using hc) (by simpa using hx)
end AF
end

section
namespace AF
open Go Go.ChangeShapes Go.WideShapes Go.ChangeAt Go.RowKit

section
variable {H : Type} {enc : TypeId × Value → H} {P : Program} {W W' : World}

theorem trodAll_stay (hl : laidOutB P = true) (hb : Below W.heap.size W W') : ∀ {ts : List TypeId} {vs : List Value} {ds : List (DataW H)} {ps : List MemPlace}, (∀ t ∈ ts, P.readableRec t = true ∧ t < P.types.size) →
    (∀ x ∈ ps, x.block < W.heap.size) → DataW.TrodAll enc P W 0 (fun _ => true) true ts vs ds ps → DataW.TrodAll enc P W' 0 (fun b => decide (b < W.heap.size)) true ts vs ds ps := by
  intro ts
  induction ts with
  | nil =>
    intro vs ds ps _ _ h
    match vs, ds, h with
    | [], [], h => exact h
  | cons t ts ih =>
    intro vs ds ps ht hp h
    match vs, ds, h with
    | v :: vs, d :: ds, ⟨p, q, h1, h2, e⟩ =>
      subst e
      refine ⟨p, q, ?_, ?_, rfl⟩
      · exact Below.trod hl (ht t (by simp)).1 (ht t (by simp)).2 h1 hb (fun x hx => hp x (by simp [hx]))
      · exact ih (fun u hu => ht u (by simp [hu])) (fun x hx => hp x (by simp [hx])) h2

theorem law_post {f : Func} {s : ChangeSpec} {args : Array Value} {ds : List (DataW H)} {before : List MemPlace} {tb : TypeId} (hl : laidOutB P = true) (hv : s.vars = []) (hfn : s.fn H ds = { results := [.lit (.bool true)], args := ds })
    (hrt : f.resultTypes = #[tb]) (htb : P.underlying tb = some .bool) (hro : ∀ t ∈ f.params.toList, P.readableRec t = true ∧ t < P.types.size)
    (hW : DataW.Whole enc P f.params.toList s.vars false W args.toList ds [] before) (hA : DataW.TrodAll enc P W 0 (fun _ => true) true f.params.toList args.toList ds before) (hb : Below W.heap.size W W') :
    s.post enc P f false true false false W args (.bool true) W' := by
  have hlt : ∀ x ∈ before, x.block < W.heap.size := fun x hx => hW.lt x hx
  refine ⟨ds, [], before, [], before, [], hW, ?_, ?_, ?_, ?_, fun h => by cases h⟩
  · rw [List.append_nil, hfn, hrt]
    exact ⟨[], [], shut_bool htb true, rfl, rfl⟩
  · rw [List.append_nil, hfn]
    exact trodAll_stay hl hb hro hlt hA
  · rw [List.append_nil, hfn, hv]
    rfl
  · exact World.keptBut_mono (fun x hx => ⟨hx, .inr (.inl hx)⟩) (hb.frame (· ∈ before))

end
end AF
end

section
namespace AF
open Go
section
variable {H : Type} {enc : TypeId × Value → H} {P : Program} {w : World} {held : Bool} {ow : Nat → Prop}
structure Known (w : World) (ow : Nat → Prop) (as : List AV) (cs : List Value) : Prop where
  len : cs.length = as.length
  one : ∀ (i : Nat) v, cs[i]? = some v → v.oneCell' = true
  vi : ∀ (i : Nat) c v, as[i]? = some c → cs[i]? = some v → VI w ow c v
theorem Known.append {as bs : List AV} {cs ds : List Value} (h : Known w ow as cs) (h' : Known w ow bs ds) : Known w ow (as ++ bs) (cs ++ ds) := by
  have hl := h.len
  refine ⟨by simp [hl, h'.len], fun i v hv => ?_, fun i c v hc hv => ?_⟩
  · rw [List.getElem?_append] at hv
    split at hv
    · exact h.one i v hv
    · exact h'.one _ v hv
  · rw [List.getElem?_append] at hc hv
    split at hv
    · rename_i hi
      rw [if_pos (by omega)] at hc
      exact h.vi i c v hc hv
    · rename_i hi
      rw [if_neg (by omega), ← hl] at hc
      exact h'.vi _ c v hc hv
end
end AF
end

section
namespace AF
open Go
def ownO (v : Nat) (ty : TypeId) (cs : List AV) : AObj := if cs = [] then .emp v else .mem v ty cs
section
variable {h l : List AObj} {k v w n c : Nat} {ty : TypeId} {cs ms : List AV} {a : AV} {o : AObj}
theorem ownO_ne (h : cs ≠ []) : ownO v ty cs = .mem v ty cs := if_neg h
theorem verOf_own : verOf (some (ownO v ty cs)) = v := by unfold ownO; split <;> rfl
theorem site_own0 : site (ownO v ty cs :: l) 0 = true := by unfold ownO; split <;> rfl
theorem liveS_own0 : liveS (ownO v ty cs :: l) 0 w = (v == w) := by unfold ownO; split <;> rfl
theorem tyOk_own : tyOk (some (ownO v ty cs)) ty = true := by
  unfold ownO
  split
  · rfl
  · simp [tyOk]
theorem cells_own0 : ((cellsOf (ownO v ty cs :: l) 0 v).getD []) = cs := by
  unfold ownO
  split
  · rename_i e; rw [e]; rfl
  · rw [cellsOf_0, if_pos rfl]; rfl
theorem cellsS_own0 : ((cellsOf (ownO v ty cs :: l) 0 v).isSome = true) = (cs ≠ []) := by
  unfold ownO
  split
  · rename_i e; rw [e]; simp [cellsOf, getO]
  · rename_i e; rw [cellsOf_0, if_pos rfl]; simp [e]
theorem appO_own {b : AV} : appO (some (ownO v ty cs)) ty w c (n + 1) (b :: ms) = ownO (w + 1) ty (cs.take c ++ b :: ms) := by
  rw [show ownO (w + 1) ty (cs.take c ++ b :: ms) = .mem (w + 1) ty (cs.take c ++ b :: ms) from ownO_ne (by simp)]
  unfold ownO
  split
  · rename_i e
    rw [e]
    simp [appO]
  · rfl
theorem appO_own1 {b : AV} : appO (some (ownO v ty cs)) ty w c 1 (b :: ms) = ownO (w + 1) ty (cs.take c ++ b :: ms) := appO_own (n := 0)
end
attribute [go_sem] verOf_own site_own0 liveS_own0 tyOk_own cells_own0 cellsS_own0 appO_own1
end AF
end

section
namespace AF
open Go
def LowI (h hh : List AObj) : Prop := hh.length = h.length ∧ ∀ o ∈ hh, o ∈ h ∨ (lowO h.length o ∧ lowO (h.length + 1) o)
theorem LowI.refl (h : List AObj) : LowI h h := ⟨rfl, fun _ ho => .inl ho⟩
theorem getO_i {hh tl : List AObj} {o : AObj} {k : Nat} (h : hh.length = k) : getO k (hh ++ o :: tl) = some o := by subst h; exact getO_app0
theorem setO_i {hh tl : List AObj} {o o' : AObj} {k : Nat} (h : hh.length = k) : setO k (hh ++ o :: tl) o' = hh ++ o' :: tl := by subst h; exact setO_app0
def Iter (P : Program) (f : FuncId) (cap : List AV) (xs : List (List AV)) : Prop :=
  ∀ (h : List AObj) (ts : List AV) (L : LInfo) (S : Nat → List AObj → Prop) (E : LS → List AObj → Prop),
    (∀ i hh, S i hh → LowI h hh) → (∀ s hh, E s hh → LowI h hh) →
    (∀ i hh tl, (hi : i < xs.length) → S i hh → AYield P h.length (xs[i]) (hh ++ .lp .ready ts L :: tl) (fun r h' => ∃ hh', (r = .bool true ∧ S (i + 1) hh' ∧ h' = hh' ++ .lp .ready ts L :: tl) ∨ (∃ s, r = .bool false ∧ E s hh' ∧ h' = hh' ++ .lp s ts L :: tl))) →
    S 0 h → (∀ c ∈ ts, lowV (h.length + 1) c = true) →
    ACallsQ P f (.yld h.length :: cap) (h ++ [.lp .ready ts L]) (fun _ h' => ∃ hh, (S xs.length hh ∧ h' = hh ++ [.lp .ready ts L]) ∨ ∃ s, E s hh ∧ h' = hh ++ [.lp s ts L])

theorem range_iter {P : Program} {f : FuncId} {cap : List AV} {xs : List (List AV)} (hf : Iter P f cap xs) {ps : List Nat} {b : Nat} {x y : C} {Q : Ex → Nx} {ts : List AV} {h : List AObj} (hps : ∀ a ∈ xs, a.length = ps.length)
    (S : Nat → List AObj → Prop) (E : Ex → List AObj → Prop) (hS : ∀ i hh, S i hh → LowI h hh) (hE : ∀ s hh, E s hh → LowI h hh)
    (start : S 0 h) (hts : ∀ c ∈ ts, lowV (h.length + 1) c = true)
    (body : ∀ i hh tl L, (hi : i < xs.length) → S i hh → hh.length = h.length →
      codeA P b x (fun e t2 h2 => e = .normal ∧ h2 = hh ++ .lp .ready ts L :: tl ∧
        codeA P b y (fun e t3 h3 => ∃ hh', h3 = hh' ++ .lp .busy ts L :: tl ∧ hh'.length = h.length ∧ match e with
          | .normal => S (i + 1) hh'
          | .ret => E .ret hh'
          | .exit id => E (.exit id) hh') t2 (hh ++ .lp .busy ts L :: tl)) (setsA ts ps (xs[i])) (hh ++ .lp .ready ts L :: tl))
    (done : ∀ hh, S xs.length hh → Q .normal ts hh) (doneE : ∀ e hh, E e hh → match e with
      | .normal => False
      | e => Q e ts hh) :
    rangeA P (.fn (.func f) [] cap) ps (codeA P b x) (codeA P b y) Q ts h := by
  intro L hy
  show ACallsQ _ _ _ _ _
  have key := hf h ts L S (fun s hh => match s with
    | .ret => E .ret hh
    | .exit id => E (.exit id) hh
    | _ => False) hS
    (by
      intro s hh hs
      cases s with
      | ret => exact hE _ _ hs
      | exit id => exact hE _ _ hs
      | ready => exact hs.elim
      | busy => exact hs.elim)
    (by
      intro i hh tl hi i4
      have hlen := (hS _ _ i4).1
      refine hy h.length ts _ _ _ (getO_i hlen) (hps _ (List.getElem_mem hi)) ?_
      have hb := body i hh tl L hi i4 hlen
      refine codeA_mono ?_ hb
      rintro e t2 h2 ⟨rfl, rfl, h3⟩
      refine ⟨rfl, ⟨ts, getO_i hlen⟩, fun ts' hts' => ?_⟩
      rw [getO_i hlen] at hts'
      cases hts'
      rw [setO_i hlen]
      refine codeA_mono ?_ h3
      rintro e t3 h3' ⟨hh', rfl, g1, g2⟩
      refine ⟨ts, getO_i g1, ?_⟩
      cases e with
      | normal => exact ⟨hh', .inl ⟨rfl, g2, setO_i g1⟩⟩
      | ret => exact ⟨hh', .inr ⟨.ret, rfl, g2, setO_i g1⟩⟩
      | exit id => exact ⟨hh', .inr ⟨.exit id, rfl, g2, setO_i g1⟩⟩)
    start hts
  refine key.le (VLes.refl _) ?_
  rintro v h' ⟨hh, ⟨g1, rfl⟩ | ⟨s, g1, rfl⟩⟩
  · have hl := hS _ _ g1
    exact ⟨v, VLe.refl _, hh, .ready, ts, L, rfl, hl.1, fun o ho => (hl.2 o ho).imp (fun h => h) And.left, done hh g1⟩
  · cases s with
    | ready => exact g1.elim
    | busy => exact g1.elim
    | ret =>
      have hl := hE _ _ g1
      exact ⟨v, VLe.refl _, hh, .ret, ts, L, rfl, hl.1, fun o ho => (hl.2 o ho).imp (fun h => h) And.left, doneE _ _ g1⟩
    | exit id =>
      have hl := hE _ _ g1
      exact ⟨v, VLe.refl _, hh, .exit id, ts, L, rfl, hl.1, fun o ho => (hl.2 o ho).imp (fun h => h) And.left, doneE _ _ g1⟩
end AF
end

section
namespace AF
open Go
section
variable {P : Program} {b : Nat} {r : List RO} {K : Nx} {t : List AV} {h : List AObj} {xs : List X}
theorem w_b2s {d : Nat} : opsA P b (⟨some d, none, .b2s, xs⟩ :: r) K t h = (flags (evs t xs) ∧ okL h .b2s (strips (evs t xs)) ∧ opsA P b r K (setA d t (valL h .b2s (strips (evs t xs)))) h) := by simp only [opsA, stepO, stepA, R.kd, putA]
theorem wg_b2s {d j : Nat} {u : Bool} : opsA P b (⟨some d, some (j, u), .b2s, xs⟩ :: r) K t h = (guardOk (getA j t) = true ∧ (guardA (getA j t) u = true → flags (evs t xs) ∧ okL h .b2s (strips (evs t xs))) ∧ opsA P b r K (setA d t (.gd (guardA (getA j t) u) (valL h .b2s (strips (evs t xs))))) h) := by simp only [opsA, stepO, stepB, R.kd, putA]
theorem w_s2b {d : Option Nat} : opsA P b (⟨d, none, .s2b, xs⟩ :: r) K t h = (flags (evs t xs) ∧ effE b h .s2b (strips (evs t xs)) t d (opsA P b r K)) := by simp only [opsA, stepO, stepA, R.kd]
theorem e_s2b {nx : List AV → List AObj → Prop} {d : Option Nat} {s : List UInt8} : effE b h .s2b [.str s] t d nx = ((s.length : Int) ≤ 140737488355328 ∧ nx (putA t d (.sl s.length fun i => [.int .u8 ((s.getD i 0).toNat : Int)])) h) := (rfl)
end
theorem w_s2bo {P : Program} {b : Nat} {r : List RO} {K : Nx} {t : List AV} {h : List AObj} {xs : List X} {d : Option Nat} {j : Nat} {ty : TypeId} : opsA P b (⟨d, none, .s2bo j ty, xs⟩ :: r) K t h = (flags (evs t xs) ∧ effE b h (.s2bo j ty) (strips (evs t xs)) t d (opsA P b r K)) := by simp only [opsA, stepO, stepA, R.kd]
theorem e_s2bo {b : Nat} {t : List AV} {h : List AObj} {nx : List AV → List AObj → Prop} {d : Option Nat} {s : List UInt8} {j : Nat} {ty : TypeId} : effE b h (.s2bo j ty) [.str s] t d nx = ((site h (b + j) = true ∧ (s.length : Int) ≤ 140737488355328) ∧ nx (putA t d (.osl (b + j) (verOf (getO (b + j) h) + 1) 1 0 s.length)) (setO (b + j) h (.mem (verOf (getO (b + j) h) + 1) (ty + markTy) (bytesA s)))) := (rfl)
attribute [go_sem] w_s2bo e_s2bo
theorem byteOf_u8 (c : UInt8) : byteOf (.int .u8 (c.toNat : Int)) = c := by simp [byteOf]
theorem isByte_u8 (c : UInt8) : isByte (.int .u8 (c.toNat : Int)) := by
  have := c.toNat_lt
  exact ⟨by omega, by omega⟩
theorem byteOf_bytesA (s : List UInt8) : (bytesA s).map byteOf = s := by
  induction s with
  | nil => rfl
  | cons c s ih => show byteOf _ :: List.map byteOf (bytesA s) = _; rw [ih, byteOf_u8]
theorem bytesA_len (s : List UInt8) : (bytesA s).length = s.length := by simp [bytesA]
theorem valL_b2s_sl {g : List AObj} {s : List UInt8} : valL g .b2s [.sl s.length fun i => [.int .u8 ((s.getD i 0).toNat : Int)]] = .str s := by
  show AV.str ((List.range s.length).map fun i => byteOf (.int .u8 ((s.getD i 0).toNat : Int))) = _
  congr 1
  apply List.ext_getElem
  · simp
  · intro i h1 h2
    simp only [List.getElem_map, List.getElem_range, byteOf_u8]
    rw [List.getD_eq_getElem?_getD, List.getElem?_eq_getElem h2]; rfl
theorem okL_b2s_sl {g : List AObj} {s : List UInt8} : okL g .b2s [.sl s.length fun i => [.int .u8 ((s.getD i 0).toNat : Int)]] = True := eq_true (fun i _ => isByte_u8 _)
theorem valL_b2s_nl {g : List AObj} : valL g .b2s [.nl] = .str [] := rfl
theorem okL_b2s_nl {g : List AObj} : okL g .b2s [.nl] = True := rfl
theorem valL_b2s_osl {g : List AObj} {k v z p n : Nat} : valL g .b2s [.osl k v z p n] = .str (((((cellsOf g k v).getD []).drop p).take n).map byteOf) := rfl
theorem okL_b2s_osl {g : List AObj} {k v z p n : Nat} : okL g .b2s [.osl k v z p n] = (liveS g k v = true ∧ z = 1 ∧ p + n ≤ ((cellsOf g k v).getD []).length ∧ ∀ c ∈ ((((cellsOf g k v).getD []).drop p).take n), isByte c) := rfl
theorem pickV_f {x : AV} {q : Bool} : pickV (.bool false) x (.bool q) = .bool q := by
  unfold pickV
  simp only [AV.strip, boolOf]
  split
  · rename_i p' q' h1 h2
    cases h2
    simp
  · simp
theorem pickV_t {y : AV} {p : Bool} : pickV (.bool true) (.bool p) y = .bool p := by
  unfold pickV
  simp only [AV.strip, boolOf]
  split
  · rename_i p' q' h1 h2
    cases h1
    simp
  · simp
attribute [go_sem] pickV_f pickV_t
theorem callV_pure {P : Program} {f : Nat} {first cap args : List AV} {d : Option Nat} {nx : Nx} {t : List AV} {h : List AObj} {v : AV} (hc : ACalls P f (first ++ args ++ cap) h v h) (hn : nx (putA t d v) h) : callV P (.fn (.func f) first cap :: args) d nx t h := ⟨v, h, hc, hn⟩
attribute [go_sem] w_b2s wg_b2s w_s2b e_s2b valL_b2s_sl okL_b2s_sl valL_b2s_nl okL_b2s_nl valL_b2s_osl okL_b2s_osl
end AF
end

section
namespace AF
open Go
section
variable {P : Program} {b : Nat} {r : List RO} {K : Nx} {t : List AV} {h : List AObj} {xs : List X}
theorem w_cap {d : Nat} : opsA P b (⟨some d, none, .cap, xs⟩ :: r) K t h = (flags (evs t xs) ∧ okL h .cap (strips (evs t xs)) ∧ opsA P b r K (setA d t (valL h .cap (strips (evs t xs)))) h) := by simp only [opsA, stepO, stepA, R.kd, putA]
theorem w_appz {d : Option Nat} {j z m : Nat} {ty : TypeId} {zs : List AV} : opsA P b (⟨d, none, .appz j z ty zs m, xs⟩ :: r) K t h = (flags (evs t xs) ∧ effE b h (.appz j z ty zs m) (strips (evs t xs)) t d (opsA P b r K)) := by simp only [opsA, stepO, stepA, R.kd]
theorem e_appz {nx : List AV → List AObj → Prop} {d : Option Nat} {j sz : Nat} {ty : TypeId} {z : List AV} {bytes : Nat} {n : Int} : effE b h (.appz j sz ty z bytes) [.nl, .int .i64 n] t d nx = ((site h (b + j) = true ∧ z.length = sz ∧ 0 < n ∧ n * (bytes : Int) ≤ 140737488355328 ∧ n ≤ 140737488355328) ∧
      nx (putA t d (.osl (b + j) (verOf (getO (b + j) h) + 1) sz 0 n.toNat)) (setO (b + j) h (.mem (verOf (getO (b + j) h) + 1) ty (madeA z n.toNat)))) := (rfl)
end
theorem valL_capnl {g : List AObj} : valL g .cap [.nl] = .int .i64 0 := rfl
theorem okL_capnl {g : List AObj} : okL g .cap [.nl] = True := rfl
theorem valL_slcnl {g : List AObj} {z : Nat} {lo hi : Bool} {bs : List AV} : valL g (.slc z lo hi) (.nl :: bs) = .nl := rfl
theorem okL_slcnl_h {g : List AObj} {z : Nat} {k : IntKind} {c : Int} : okL g (.slc z false true) [.nl, .int k c] = (c = 0) := by
  simp [okL, loB, hiB, intC]
  omega
theorem okL_slcnl_lh {g : List AObj} {z : Nat} {k m : IntKind} {a c : Int} : okL g (.slc z true true) [.nl, .int m a, .int k c] = (a = 0 ∧ c = 0) := by
  simp [okL, loB, hiB, intC]
  omega
theorem okL_slcnl_l {g : List AObj} {z : Nat} {m : IntKind} {a : Int} : okL g (.slc z true false) [.nl, .int m a] = (a = 0) := by
  simp [okL, loB, hiB, intC]
  omega
attribute [go_sem] w_cap w_appz e_appz valL_capnl okL_capnl valL_slcnl okL_slcnl_h okL_slcnl_lh okL_slcnl_l
end AF
end

section
namespace AF
open Go
section
variable {P : Program} {b : Nat} {K : Nx} {t : List AV} {h : List AObj}
theorem t_nil : runT P b .nil K t h = K t h := (rfl)
theorem t_one {o : RO} {r : DT} : runT P b (.one o r) K t h = opsA P b [o] (runT P b r K) t h := (rfl)
theorem t_two {x y : DT} : runT P b (.two x y) K t h = (runT P b x K t h ∧ runT P b y K t h) := (rfl)
theorem t_univ {r : DT} {d : Option Nat} {xs : List X} : runT P b (.uni ⟨d, none, .callv, xs⟩ r) K t h = callVU P (evs t xs) d (runT P b r K) t h := (rfl)
theorem callVU_of {f : Nat} {first cap args : List AV} {d : Option Nat} {nx : Nx} {v : AV} (hc : ∀ h0, ACalls P f (first ++ strips args ++ cap) h0 v h0) (hf : flags (.fn (.func f) first cap :: args)) (hn : nx (putA t d v) h) : callVU P (.fn (.func f) first cap :: args) d nx t h := ⟨hf, v, hc, hn⟩
theorem t_uni {r : DT} {d : Option Nat} {f : Nat} {p : Bool} {xs : List X} : runT P b (.uni ⟨d, none, .call f p, xs⟩ r) K t h = callU P f (evs t xs) d (runT P b r K) t h := (rfl)
theorem tg_uni {r : DT} {d : Option Nat} {f : Nat} {p : Bool} {xs : List X} {j : Nat} {u : Bool} : runT P b (.uni ⟨d, some (j, u), .call f p, xs⟩ r) K t h = (guardOk (getA j t) = true ∧ callUG P f (guardA (getA j t) u) (evs t xs) d (runT P b r K) t h) := (rfl)
theorem draw_of {d : DT} {Q : Ex → Nx} (T : List AV) (H : List AObj) (h1 : runT P b d (fun t' h' => t' = T ∧ h' = H) t h) (h2 : Q .normal T H) : codeA P b (.draw d) Q t h :=
  ⟨_, h1, fun t' h' ⟨e1, e2⟩ => by subst e1; subst e2; exact h2⟩
theorem callU_of {f : Nat} {vs : List AV} {d : Option Nat} {nx : Nx} {r : AV} (hc : ∀ h0, ACalls P f (strips vs) h0 r h0) (hf : flags vs) (hn : nx (putA t d r) h) : callU P f vs d nx t h := ⟨hf, r, hc, hn⟩
end
attribute [go_sem] t_univ t_nil t_one t_two t_uni tg_uni
end AF
end

section
namespace AF
open Go
section
variable {P : Program} {b : Nat} {r : List RO} {K : Nx} {t : List AV} {h l : List AObj} {xs : List X} {ks : AK} {ok : Bool} {z : AV} {d : Option Nat} {nx : List AV → List AObj → Prop}
theorem w_mlk {d : Nat} : opsA P b (⟨some d, none, .mlk ks ok z, xs⟩ :: r) K t h = (flags (evs t xs) ∧ okL h (.mlk ks ok z) (strips (evs t xs)) ∧ opsA P b r K (setA d t (valL h (.mlk ks ok z) (strips (evs t xs)))) h) := by simp only [opsA, stepO, stepA, R.kd, putA]
theorem wg_mlk {d j : Nat} {u : Bool} : opsA P b (⟨some d, some (j, u), .mlk ks ok z, xs⟩ :: r) K t h = (guardOk (getA j t) = true ∧ (guardA (getA j t) u = true → flags (evs t xs) ∧ okL h (.mlk ks ok z) (strips (evs t xs))) ∧ opsA P b r K (setA d t (.gd (guardA (getA j t) u) (valL h (.mlk ks ok z) (strips (evs t xs))))) h) := by simp only [opsA, stepO, stepB, R.kd, putA]
theorem w_mkmap {j : Nat} : opsA P b (⟨d, none, .mkmap j, xs⟩ :: r) K t h = (flags (evs t xs) ∧ effE b h (.mkmap j) (strips (evs t xs)) t d (opsA P b r K)) := by simp only [opsA, stepO, stepA, R.kd]
theorem w_mupd : opsA P b (⟨d, none, .mupd ks, xs⟩ :: r) K t h = (flags (evs t xs) ∧ effE b h (.mupd ks) (strips (evs t xs)) t d (opsA P b r K)) := by simp only [opsA, stepO, stepA, R.kd]
theorem e_mkmap {j : Nat} : effE b h (.mkmap j) [] t d nx = (site h (b + j) = true ∧ nx (putA t d (.mp (b + j) (verOf (getO (b + j) h) + 1))) (setO (b + j) h (.map (verOf (getO (b + j) h) + 1) []))) := (rfl)
theorem e_mupd {k ver : Nat} {x v : AV} : effE b h (.mupd ks) [.mp k ver, x, v] t d nx = (((mapOf h k ver).isSome = true ∧ okK ks x ∧ (mfind ks x ((mapOf h k ver).getD []) 0).isSome = true) ∧
    nx (putA t d (.tup [])) (setO k h (.map ver (mset ks x v ((mapOf h k ver).getD []))))) := (rfl)
end
section
variable {h l : List AObj} {ks : AK} {ok : Bool} {z x : AV} {k ver n v w : Nat} {es : List (AV × AV)} {o : AObj}
theorem valL_mlk_t : valL h (.mlk ks true z) [.mp k ver, x] = .tup [(mget ks x z ((mapOf h k ver).getD [])).1, .bool (mget ks x z ((mapOf h k ver).getD [])).2] := rfl
theorem valL_mlk_f : valL h (.mlk ks false z) [.mp k ver, x] = (mget ks x z ((mapOf h k ver).getD [])).1 := rfl
theorem okL_mlk : okL h (.mlk ks ok z) [.mp k ver, x] = ((mapOf h k ver).isSome = true ∧ okK ks x ∧ (mfind ks x ((mapOf h k ver).getD []) 0).isSome = true) := rfl
theorem mapOf_app : mapOf (h ++ l) (h.length + n) v = mapOf l n v := by unfold mapOf; rw [getO_app]; rfl
theorem mapOf_app0 : mapOf (h ++ l) h.length v = mapOf l 0 v := by unfold mapOf; rw [getO_app0]; rfl
theorem mapOf_0 : mapOf (.map w es :: l) 0 v = if w = v then some es else none := rfl
theorem mapOf_s : mapOf (o :: l) (n + 1) v = mapOf l n v := rfl
theorem site_0_map : site (.map v es :: l) 0 = true := rfl
theorem verOf_map : verOf (some (.map v es)) = v := rfl
theorem strip_mp : (AV.mp k v).strip = AV.mp k v := rfl
theorem flag_mp : (AV.mp k v).flag = true := rfl
theorem solid_mp : (AV.mp k v).solid = true := rfl
theorem cells_mp : (AV.mp k v).cells = [AV.mp k v] := rfl
theorem okK_str {s : List UInt8} : okK .str (.str s) = True := rfl
theorem okK_int {q : IntKind} {i : Int} : okK .int (.int q i) = True := rfl
theorem okK_bool {q : Bool} : okK .bool (.bool q) = True := rfl
theorem frz_mp {fz : Nat → Bool} : frz fz h (n + 1) (.mp k v) = if fz k then .undef else .mp k v := rfl
end
attribute [go_sem] w_mlk wg_mlk w_mkmap w_mupd e_mkmap e_mupd valL_mlk_t valL_mlk_f okL_mlk mapOf_app mapOf_app0 mapOf_0 mapOf_s site_0_map verOf_map strip_mp flag_mp solid_mp cells_mp okK_str okK_int okK_bool frz_mp
def smap (m : List (List UInt8 × Int)) : List (AV × AV) := m.map fun p => (.str p.1, .int .i64 p.2)
theorem mfind_smap (s : List UInt8) : ∀ (m : List (List UInt8 × Int)) (i : Nat), (m.lookup s = none ∧ mfind .str (.str s) (smap m) i = some none) ∨ ∃ n v, m.lookup s = some v ∧ mfind .str (.str s) (smap m) i = some (some (i + n, .int .i64 v)) := by
  intro m
  induction m with
  | nil => intro i; exact .inl ⟨rfl, rfl⟩
  | cons p m ih =>
    intro i
    obtain ⟨k, v⟩ := p
    have e : mfind .str (.str s) (smap ((k, v) :: m)) i = match some (decide (s = k)) with
      | some true => some (some (i, AV.int .i64 v))
      | some false => mfind .str (.str s) (smap m) (i + 1)
      | none => none := rfl
    by_cases h : s = k
    · subst h
      rw [e, decide_eq_true rfl]
      exact .inr ⟨0, v, by simp, rfl⟩
    · rw [e, decide_eq_false h]
      have hl : ((k, v) :: m).lookup s = m.lookup s := by
        rw [List.lookup_cons, show (s == k) = false from beq_eq_false_iff_ne.2 h]
      rcases ih (i + 1) with ⟨h1, h2⟩ | ⟨n, u, h1, h2⟩
      · exact .inl ⟨by rw [hl]; exact h1, h2⟩
      · exact .inr ⟨n + 1, u, by rw [hl]; exact h1, by rw [show i + (n + 1) = i + 1 + n by omega]; exact h2⟩
theorem mget_smap_none {s : List UInt8} {m : List (List UInt8 × Int)} {z : AV} (h : m.lookup s = none) : mget .str (.str s) z (smap m) = (z, false) := by
  unfold mget
  rcases mfind_smap s m 0 with ⟨_, h2⟩ | ⟨n, u, h1, _⟩
  · rw [h2]
  · rw [h] at h1; cases h1
theorem mget_smap_some {s : List UInt8} {m : List (List UInt8 × Int)} {z : AV} {v : Int} (h : m.lookup s = some v) : mget .str (.str s) z (smap m) = (.int .i64 v, true) := by
  unfold mget
  rcases mfind_smap s m 0 with ⟨h1, _⟩ | ⟨n, u, h1, h2⟩
  · rw [h] at h1; cases h1
  · rw [h] at h1; cases h1; rw [h2]
theorem mset_smap {s : List UInt8} {m : List (List UInt8 × Int)} {v : Int} (h : m.lookup s = none) : mset .str (.str s) (.int .i64 v) (smap m) = smap (m ++ [(s, v)]) := by
  unfold mset
  rcases mfind_smap s m 0 with ⟨_, h2⟩ | ⟨n, u, h1, _⟩
  · rw [h2]; simp [smap]
  · rw [h] at h1; cases h1
theorem mfind_smap_ok {s : List UInt8} {m : List (List UInt8 × Int)} : (mfind .str (.str s) (smap m) 0).isSome = true := by
  rcases mfind_smap s m 0 with ⟨_, h2⟩ | ⟨n, u, _, h2⟩ <;> rw [h2] <;> rfl
end AF
end

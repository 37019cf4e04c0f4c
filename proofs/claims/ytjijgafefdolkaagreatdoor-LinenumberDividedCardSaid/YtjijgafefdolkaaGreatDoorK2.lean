import Derived.Test.YtjijgafefdolkaaGreatDoorK0
import Derived.Test.YtjijgafefdolkaaGreatDoorK1
import Derived.Below
import Derived.ChangeSame
import Derived.ChangeShapes
import Derived.CallsIn
import Derived.Carry
import Derived.RowKit
import Derived.WalkKit
import Derived.ProofKit
set_option linter.all false
set_option linter.unusedSimpArgs false
set_option linter.unusedVariables false
set_option linter.unusedSectionVars false
section
namespace AF
open Go
set_option maxRecDepth 4000
def qyX (k : IntKind) (a c : Int) : Int := k.wrap (a * 2 ^ (min c.toNat k.bits))
def qxm (k : IntKind) (a c : Int) : Int := a.fdiv (2 ^ (min c.toNat k.bits))
def qwh (k : IntKind) (a c : Int) : Int := k.wrap (BitVec.ofInt k.bits a &&& BitVec.ofInt k.bits c).toNat
def orK (k : IntKind) (a c : Int) : Int := k.wrap (BitVec.ofInt k.bits a ||| BitVec.ofInt k.bits c).toNat
def qzt (k : IntKind) (a c : Int) : Int := k.wrap (BitVec.ofInt k.bits a ^^^ BitVec.ofInt k.bits c).toNat
def qq8 (k : IntKind) (a c : Int) : Int := k.wrap (BitVec.ofInt k.bits a &&& ~~~ BitVec.ofInt k.bits c).toNat
theorem quO {a0 : AV} {r : List AV} : qW 0 (a0 :: r) = a0 := rfl
theorem qvr {a0 v : AV} {r : List AV} : zF 0 (a0 :: r) v = v :: r := rfl
theorem quP {a0 a1 : AV} {r : List AV} : qW 1 (a0 :: a1 :: r) = a1 := rfl
theorem qvs {a0 a1 v : AV} {r : List AV} : zF 1 (a0 :: a1 :: r) v = a0 :: v :: r := rfl
theorem quQ {a0 a1 a2 : AV} {r : List AV} : qW 2 (a0 :: a1 :: a2 :: r) = a2 := rfl
theorem qvt {a0 a1 a2 v : AV} {r : List AV} : zF 2 (a0 :: a1 :: a2 :: r) v = a0 :: a1 :: v :: r := rfl
theorem quR {a0 a1 a2 a3 : AV} {r : List AV} : qW 3 (a0 :: a1 :: a2 :: a3 :: r) = a3 := rfl
theorem qvu {a0 a1 a2 a3 v : AV} {r : List AV} : zF 3 (a0 :: a1 :: a2 :: a3 :: r) v = a0 :: a1 :: a2 :: v :: r := rfl
theorem quS {a0 a1 a2 a3 a4 : AV} {r : List AV} : qW 4 (a0 :: a1 :: a2 :: a3 :: a4 :: r) = a4 := rfl
theorem qvv {a0 a1 a2 a3 a4 v : AV} {r : List AV} : zF 4 (a0 :: a1 :: a2 :: a3 :: a4 :: r) v = a0 :: a1 :: a2 :: a3 :: v :: r := rfl
theorem quT {a0 a1 a2 a3 a4 a5 : AV} {r : List AV} : qW 5 (a0 :: a1 :: a2 :: a3 :: a4 :: a5 :: r) = a5 := rfl
theorem qvw {a0 a1 a2 a3 a4 a5 v : AV} {r : List AV} : zF 5 (a0 :: a1 :: a2 :: a3 :: a4 :: a5 :: r) v = a0 :: a1 :: a2 :: a3 :: a4 :: v :: r := rfl
theorem quU {a0 a1 a2 a3 a4 a5 a6 : AV} {r : List AV} : qW 6 (a0 :: a1 :: a2 :: a3 :: a4 :: a5 :: a6 :: r) = a6 := rfl
theorem qvx {a0 a1 a2 a3 a4 a5 a6 v : AV} {r : List AV} : zF 6 (a0 :: a1 :: a2 :: a3 :: a4 :: a5 :: a6 :: r) v = a0 :: a1 :: a2 :: a3 :: a4 :: a5 :: v :: r := rfl
theorem quV {a0 a1 a2 a3 a4 a5 a6 a7 : AV} {r : List AV} : qW 7 (a0 :: a1 :: a2 :: a3 :: a4 :: a5 :: a6 :: a7 :: r) = a7 := rfl
theorem qvy {a0 a1 a2 a3 a4 a5 a6 a7 v : AV} {r : List AV} : zF 7 (a0 :: a1 :: a2 :: a3 :: a4 :: a5 :: a6 :: a7 :: r) v = a0 :: a1 :: a2 :: a3 :: a4 :: a5 :: a6 :: v :: r := rfl
theorem qrW {n : Nat} {a0 a1 a2 a3 a4 a5 a6 a7 : AV} {r : List AV} : qW (n + 8) (a0 :: a1 :: a2 :: a3 :: a4 :: a5 :: a6 :: a7 :: r) = qW n r := rfl
theorem qsA {n : Nat} {a0 a1 a2 a3 a4 a5 a6 a7 v : AV} {r : List AV} : zF (n + 8) (a0 :: a1 :: a2 :: a3 :: a4 :: a5 :: a6 :: a7 :: r) v = a0 :: a1 :: a2 :: a3 :: a4 :: a5 :: a6 :: a7 :: zF n r v := rfl
theorem qo8 {n : Nat} {a0 a1 a2 a3 a4 a5 a6 a7 a8 a9 a10 a11 a12 a13 a14 a15 a16 a17 a18 a19 a20 a21 a22 a23 a24 a25 a26 a27 a28 a29 a30 a31 : AV} {r : List AV} : qW (n + 32) (a0 :: a1 :: a2 :: a3 :: a4 :: a5 :: a6 :: a7 :: a8 :: a9 :: a10 :: a11 :: a12 :: a13 :: a14 :: a15 :: a16 :: a17 :: a18 :: a19 :: a20 :: a21 :: a22 :: a23 :: a24 :: a25 :: a26 :: a27 :: a28 :: a29 :: a30 :: a31 :: r) = qW n r := rfl
theorem qpS {n : Nat} {a0 a1 a2 a3 a4 a5 a6 a7 a8 a9 a10 a11 a12 a13 a14 a15 a16 a17 a18 a19 a20 a21 a22 a23 a24 a25 a26 a27 a28 a29 a30 a31 v : AV} {r : List AV} : zF (n + 32) (a0 :: a1 :: a2 :: a3 :: a4 :: a5 :: a6 :: a7 :: a8 :: a9 :: a10 :: a11 :: a12 :: a13 :: a14 :: a15 :: a16 :: a17 :: a18 :: a19 :: a20 :: a21 :: a22 :: a23 :: a24 :: a25 :: a26 :: a27 :: a28 :: a29 :: a30 :: a31 :: r) v = a0 :: a1 :: a2 :: a3 :: a4 :: a5 :: a6 :: a7 :: a8 :: a9 :: a10 :: a11 :: a12 :: a13 :: a14 :: a15 :: a16 :: a17 :: a18 :: a19 :: a20 :: a21 :: a22 :: a23 :: a24 :: a25 :: a26 :: a27 :: a28 :: a29 :: a30 :: a31 :: zF n r v := rfl
theorem qyO {t : List AV} {n : Nat} : ev t (.t n) = qW n t := rfl
theorem qyN {t : List AV} {v : AV} : ev t (.c v) = v := rfl
theorem qjk {b : Bool} : (AV.bool b).strip = (AV.bool b) := rfl
theorem qlv {b : Bool} : (AV.bool b).flag = true := rfl
theorem qi8 {b : Bool} : (AV.bool b).solid = true := rfl
theorem qh9 {b : Bool} : (AV.bool b).cells = [(AV.bool b)] := rfl
theorem qno {k : IntKind} {n : Int} : (AV.int k n).strip = (AV.int k n) := rfl
theorem qoV {k : IntKind} {n : Int} : (AV.int k n).flag = true := rfl
theorem qnb {k : IntKind} {n : Int} : (AV.int k n).solid = true := rfl
theorem qkV {k : IntKind} {n : Int} : (AV.int k n).cells = [(AV.int k n)] := rfl
theorem qnq {s : List UInt8} : (AV.str s).strip = (AV.str s) := rfl
theorem qoX {s : List UInt8} : (AV.str s).flag = true := rfl
theorem qnd {s : List UInt8} : (AV.str s).solid = true := rfl
theorem qkY {s : List UInt8} : (AV.str s).cells = [(AV.str s)] := rfl
theorem qqg {n : Nat} {f : Nat → List AV} : (AV.sl n f).strip = (AV.sl n f) := rfl
theorem qrO {n : Nat} {f : Nat → List AV} : (AV.sl n f).flag = true := rfl
theorem qp2 {n : Nat} {f : Nat → List AV} : (AV.sl n f).solid = true := rfl
theorem qox {n : Nat} {f : Nat → List AV} : (AV.sl n f).cells = [(AV.sl n f)] := rfl
theorem qnp {k v s p l : Nat} : (AV.osl k v s p l).strip = (AV.osl k v s p l) := rfl
theorem qoW {k v s p l : Nat} : (AV.osl k v s p l).flag = true := rfl
theorem qnc {k v s p l : Nat} : (AV.osl k v s p l).solid = true := rfl
theorem qkW {k v s p l : Nat} : (AV.osl k v s p l).cells = [(AV.osl k v s p l)] := rfl
theorem qnm {c : List AV} : (AV.agg c).strip = (AV.agg c) := rfl
theorem qoT {c : List AV} : (AV.agg c).flag = true := rfl
theorem qm9 {c : List AV} : (AV.agg c).solid = true := rfl
theorem qnr {c : List AV} : (AV.tup c).strip = (AV.tup c) := rfl
theorem qoY {c : List AV} : (AV.tup c).flag = true := rfl
theorem qkZ {c : List AV} : (AV.tup c).cells = [(AV.tup c)] := rfl
theorem qqd {c : List AV} : (AV.ip c).strip = (AV.ip c) := rfl
theorem qrL {c : List AV} : (AV.ip c).flag = true := rfl
theorem qpZ {c : List AV} : (AV.ip c).solid = true := rfl
theorem qou {c : List AV} : (AV.ip c).cells = [(AV.ip c)] := rfl
theorem qqf {k v p : Nat} : (AV.op k v p).strip = (AV.op k v p) := rfl
theorem qrN {k v p : Nat} : (AV.op k v p).flag = true := rfl
theorem qp1 {k v p : Nat} : (AV.op k v p).solid = true := rfl
theorem qow {k v p : Nat} : (AV.op k v p).cells = [(AV.op k v p)] := rfl
theorem qjl  : AV.nilp.strip = AV.nilp := rfl
theorem qlw  : AV.nilp.flag = true := rfl
theorem qi9  : AV.nilp.solid = true := rfl
theorem qia  : AV.nilp.cells = [AV.nilp] := rfl
theorem qqe  : AV.nl.strip = AV.nl := rfl
theorem qrM  : AV.nl.flag = true := rfl
theorem qp0  : AV.nl.solid = true := rfl
theorem qov  : AV.nl.cells = [AV.nl] := rfl
theorem qqb {f : Fn} {a c : List AV} : (AV.fn f a c).strip = (AV.fn f a c) := rfl
theorem qrJ {f : Fn} {a c : List AV} : (AV.fn f a c).flag = true := rfl
theorem qpY {f : Fn} {a c : List AV} : (AV.fn f a c).solid = true := rfl
theorem qot {f : Fn} {a c : List AV} : (AV.fn f a c).cells = [(AV.fn f a c)] := rfl
theorem qns {k : Nat} : (AV.yld k).strip = (AV.yld k) := rfl
theorem qoZ {k : Nat} : (AV.yld k).flag = true := rfl
theorem qne {k : Nat} : (AV.yld k).solid = true := rfl
theorem qk0 {k : Nat} : (AV.yld k).cells = [(AV.yld k)] := rfl
theorem qgZ  : AV.nilfn.strip = AV.nilfn := rfl
theorem qit  : AV.nilfn.flag = true := rfl
theorem qgR  : AV.nilfn.solid = true := rfl
theorem qgq  : AV.nilfn.cells = [AV.nilfn] := rfl
theorem qnn  : AV.ifc.strip = AV.ifc := rfl
theorem qoU  : AV.ifc.flag = true := rfl
theorem qna  : AV.ifc.solid = true := rfl
theorem qkU  : AV.ifc.cells = [AV.ifc] := rfl
theorem qg0  : AV.nilif.strip = AV.nilif := rfl
theorem qiu  : AV.nilif.flag = true := rfl
theorem qgS  : AV.nilif.solid = true := rfl
theorem qgr  : AV.nilif.cells = [AV.nilif] := rfl
theorem qg2 : AV.undef.strip = AV.undef := rfl
theorem qiw : AV.undef.flag = true := rfl
theorem qkT {c : List AV} : (AV.agg c).cells = c := rfl
theorem qqc {g : Bool} {v : AV} : (AV.gd g v).strip = v := rfl
theorem qrK {g : Bool} {v : AV} : (AV.gd g v).flag = g := rfl
theorem qzq {P : Program} {b : Nat} {r : List RO} {K : Nx} {t : List AV} {h : List AObj} {d : Nat}  {x : X} : opsA P b (⟨some d, none, .mv, [x]⟩ :: r) K t h = ((ev t x).flag = true ∧ opsA P b r K (zF d t ((ev t x).strip)) h) := by simp only [opsA, stepO, stepA, R.kd, evs, flags, strips, qY, okP, okL, zu, valL, and_true, true_and, and_assoc]
theorem qxK {P : Program} {b : Nat} {r : List RO} {K : Nx} {t : List AV} {h : List AObj} {d : Nat}  {x : X} {j : Nat} {u : Bool} : opsA P b (⟨some d, some (j, u), .mv, [x]⟩ :: r) K t h = (qO (qW j t) = true ∧ (qG (qW j t) u = true → (ev t x).flag = true) ∧ opsA P b r K (zF d t (.gd (qG (qW j t) u) ((ev t x).strip))) h) := by simp only [opsA, stepO, zY, R.kd, evs, flags, strips, qY, okP, okL, zu, valL, and_true, true_and, and_assoc]
theorem qxA {P : Program} {b : Nat} {r : List RO} {K : Nx} {t : List AV} {h : List AObj} {d : Nat} {q : BinOp} {x y : X} : opsA P b (⟨some d, none, .bin q, [x, y]⟩ :: r) K t h = ((ev t x).flag = true ∧ (ev t y).flag = true ∧ qaX q (ev t x).strip (ev t y).strip ∧ opsA P b r K (zF d t (qbb q (ev t x).strip (ev t y).strip)) h) := by simp only [opsA, stepO, stepA, R.kd, evs, flags, strips, qY, okP, okL, zu, valL, and_true, true_and, and_assoc]
theorem qvY {P : Program} {b : Nat} {r : List RO} {K : Nx} {t : List AV} {h : List AObj} {d : Nat} {q : BinOp} {x y : X} {j : Nat} {u : Bool} : opsA P b (⟨some d, some (j, u), .bin q, [x, y]⟩ :: r) K t h = (qO (qW j t) = true ∧ (qG (qW j t) u = true → (ev t x).flag = true ∧ (ev t y).flag = true ∧ qaX q (ev t x).strip (ev t y).strip) ∧ opsA P b r K (zF d t (.gd (qG (qW j t) u) (qbb q (ev t x).strip (ev t y).strip))) h) := by simp only [opsA, stepO, zY, R.kd, evs, flags, strips, qY, okP, okL, zu, valL, and_true, true_and, and_assoc]
theorem qvI {P : Program} {b : Nat} {r : List RO} {K : Nx} {t : List AV} {h : List AObj} {d : Nat} {n : Bool} {xs : List X} : opsA P b (⟨some d, none, .bool n, xs⟩ :: r) K t h = (flags (evs t xs) ∧ okP (.bool n) (strips (evs t xs)) ∧ opsA P b r K (zF d t (zu (.bool n) (strips (evs t xs)))) h) := by simp only [opsA, stepO, stepA, R.kd, qY]
theorem qsU {P : Program} {b : Nat} {r : List RO} {K : Nx} {t : List AV} {h : List AObj} {d : Nat} {n : Bool} {xs : List X} {j : Nat} {u : Bool} : opsA P b (⟨some d, some (j, u), .bool n, xs⟩ :: r) K t h = (qO (qW j t) = true ∧ (qG (qW j t) u = true → flags (evs t xs) ∧ okP (.bool n) (strips (evs t xs))) ∧ opsA P b r K (zF d t (.gd (qG (qW j t) u) (zu (.bool n) (strips (evs t xs))))) h) := by simp only [opsA, stepO, zY, R.kd, qY]
theorem qzr {P : Program} {b : Nat} {r : List RO} {K : Nx} {t : List AV} {h : List AObj} {d : Nat} {q : UnOp} {xs : List X} : opsA P b (⟨some d, none, .un q, xs⟩ :: r) K t h = (flags (evs t xs) ∧ okP (.un q) (strips (evs t xs)) ∧ opsA P b r K (zF d t (zu (.un q) (strips (evs t xs)))) h) := by simp only [opsA, stepO, stepA, R.kd, qY]
theorem qxL {P : Program} {b : Nat} {r : List RO} {K : Nx} {t : List AV} {h : List AObj} {d : Nat} {q : UnOp} {xs : List X} {j : Nat} {u : Bool} : opsA P b (⟨some d, some (j, u), .un q, xs⟩ :: r) K t h = (qO (qW j t) = true ∧ (qG (qW j t) u = true → flags (evs t xs) ∧ okP (.un q) (strips (evs t xs))) ∧ opsA P b r K (zF d t (.gd (qG (qW j t) u) (zu (.un q) (strips (evs t xs))))) h) := by simp only [opsA, stepO, zY, R.kd, qY]
theorem qvL {P : Program} {b : Nat} {r : List RO} {K : Nx} {t : List AV} {h : List AObj} {d : Nat} {k : IntKind} {xs : List X} : opsA P b (⟨some d, none, .conv k, xs⟩ :: r) K t h = (flags (evs t xs) ∧ okP (.conv k) (strips (evs t xs)) ∧ opsA P b r K (zF d t (zu (.conv k) (strips (evs t xs)))) h) := by simp only [opsA, stepO, stepA, R.kd, qY]
theorem qsW {P : Program} {b : Nat} {r : List RO} {K : Nx} {t : List AV} {h : List AObj} {d : Nat} {k : IntKind} {xs : List X} {j : Nat} {u : Bool} : opsA P b (⟨some d, some (j, u), .conv k, xs⟩ :: r) K t h = (qO (qW j t) = true ∧ (qG (qW j t) u = true → flags (evs t xs) ∧ okP (.conv k) (strips (evs t xs))) ∧ opsA P b r K (zF d t (.gd (qG (qW j t) u) (zu (.conv k) (strips (evs t xs))))) h) := by simp only [opsA, stepO, zY, R.kd, qY]
theorem qsQ {P : Program} {b : Nat} {r : List RO} {K : Nx} {t : List AV} {h : List AObj} {d : Nat} {k : NK} {n : Bool} {xs : List X} : opsA P b (⟨some d, none, .isnil k n, xs⟩ :: r) K t h = (flags (evs t xs) ∧ okP (.isnil k n) (strips (evs t xs)) ∧ opsA P b r K (zF d t (zu (.isnil k n) (strips (evs t xs)))) h) := by simp only [opsA, stepO, stepA, R.kd, qY]
theorem qqy {P : Program} {b : Nat} {r : List RO} {K : Nx} {t : List AV} {h : List AObj} {d : Nat} {k : NK} {n : Bool} {xs : List X} {j : Nat} {u : Bool} : opsA P b (⟨some d, some (j, u), .isnil k n, xs⟩ :: r) K t h = (qO (qW j t) = true ∧ (qG (qW j t) u = true → flags (evs t xs) ∧ okP (.isnil k n) (strips (evs t xs))) ∧ opsA P b r K (zF d t (.gd (qG (qW j t) u) (zu (.isnil k n) (strips (evs t xs))))) h) := by simp only [opsA, stepO, zY, R.kd, qY]
theorem qxx {P : Program} {b : Nat} {r : List RO} {K : Nx} {t : List AV} {h : List AObj} {d : Nat} {ks : List AK} {n : Bool} {xs : List X} : opsA P b (⟨some d, none, .aeq ks n, xs⟩ :: r) K t h = (flags (evs t xs) ∧ okP (.aeq ks n) (strips (evs t xs)) ∧ opsA P b r K (zF d t (zu (.aeq ks n) (strips (evs t xs)))) h) := by simp only [opsA, stepO, stepA, R.kd, qY]
theorem qvW {P : Program} {b : Nat} {r : List RO} {K : Nx} {t : List AV} {h : List AObj} {d : Nat} {ks : List AK} {n : Bool} {xs : List X} {j : Nat} {u : Bool} : opsA P b (⟨some d, some (j, u), .aeq ks n, xs⟩ :: r) K t h = (qO (qW j t) = true ∧ (qG (qW j t) u = true → flags (evs t xs) ∧ okP (.aeq ks n) (strips (evs t xs))) ∧ opsA P b r K (zF d t (.gd (qG (qW j t) u) (zu (.aeq ks n) (strips (evs t xs))))) h) := by simp only [opsA, stepO, zY, R.kd, qY]
theorem qxE {P : Program} {b : Nat} {r : List RO} {K : Nx} {t : List AV} {h : List AObj} {d : Nat} {p : Nat} {n : Option Nat} {xs : List X} : opsA P b (⟨some d, none, .fld p n, xs⟩ :: r) K t h = (flags (evs t xs) ∧ okP (.fld p n) (strips (evs t xs)) ∧ opsA P b r K (zF d t (zu (.fld p n) (strips (evs t xs)))) h) := by simp only [opsA, stepO, stepA, R.kd, qY]
theorem qv0 {P : Program} {b : Nat} {r : List RO} {K : Nx} {t : List AV} {h : List AObj} {d : Nat} {p : Nat} {n : Option Nat} {xs : List X} {j : Nat} {u : Bool} : opsA P b (⟨some d, some (j, u), .fld p n, xs⟩ :: r) K t h = (qO (qW j t) = true ∧ (qG (qW j t) u = true → flags (evs t xs) ∧ okP (.fld p n) (strips (evs t xs))) ∧ opsA P b r K (zF d t (.gd (qG (qW j t) u) (zu (.fld p n) (strips (evs t xs))))) h) := by simp only [opsA, stepO, zY, R.kd, qY]
theorem qxD {P : Program} {b : Nat} {r : List RO} {K : Nx} {t : List AV} {h : List AObj} {d : Nat} {i : Nat} {xs : List X} : opsA P b (⟨some d, none, .ext i, xs⟩ :: r) K t h = (flags (evs t xs) ∧ okP (.ext i) (strips (evs t xs)) ∧ opsA P b r K (zF d t (zu (.ext i) (strips (evs t xs)))) h) := by simp only [opsA, stepO, stepA, R.kd, qY]
theorem qvZ {P : Program} {b : Nat} {r : List RO} {K : Nx} {t : List AV} {h : List AObj} {d : Nat} {i : Nat} {xs : List X} {j : Nat} {u : Bool} : opsA P b (⟨some d, some (j, u), .ext i, xs⟩ :: r) K t h = (qO (qW j t) = true ∧ (qG (qW j t) u = true → flags (evs t xs) ∧ okP (.ext i) (strips (evs t xs))) ∧ opsA P b r K (zF d t (.gd (qG (qW j t) u) (zu (.ext i) (strips (evs t xs))))) h) := by simp only [opsA, stepO, zY, R.kd, qY]
theorem qsO {P : Program} {b : Nat} {r : List RO} {K : Nx} {t : List AV} {h : List AObj} {d : Nat} {z : List AV} {ps : List (Nat × Nat)} {xs : List X} : opsA P b (⟨some d, none, .build z ps, xs⟩ :: r) K t h = (flags (evs t xs) ∧ okP (.build z ps) (strips (evs t xs)) ∧ opsA P b r K (zF d t (zu (.build z ps) (strips (evs t xs)))) h) := by simp only [opsA, stepO, stepA, R.kd, qY]
theorem qqw {P : Program} {b : Nat} {r : List RO} {K : Nx} {t : List AV} {h : List AObj} {d : Nat} {z : List AV} {ps : List (Nat × Nat)} {xs : List X} {j : Nat} {u : Bool} : opsA P b (⟨some d, some (j, u), .build z ps, xs⟩ :: r) K t h = (qO (qW j t) = true ∧ (qG (qW j t) u = true → flags (evs t xs) ∧ okP (.build z ps) (strips (evs t xs))) ∧ opsA P b r K (zF d t (.gd (qG (qW j t) u) (zu (.build z ps) (strips (evs t xs))))) h) := by simp only [opsA, stepO, zY, R.kd, qY]
theorem qvP {P : Program} {b : Nat} {r : List RO} {K : Nx} {t : List AV} {h : List AObj} {d : Nat} {f : Fn} {n : Nat} {xs : List X} : opsA P b (⟨some d, none, .mkfn f n, xs⟩ :: r) K t h = (flags (evs t xs) ∧ okP (.mkfn f n) (strips (evs t xs)) ∧ opsA P b r K (zF d t (zu (.mkfn f n) (strips (evs t xs)))) h) := by simp only [opsA, stepO, stepA, R.kd, qY]
theorem qs0 {P : Program} {b : Nat} {r : List RO} {K : Nx} {t : List AV} {h : List AObj} {d : Nat} {f : Fn} {n : Nat} {xs : List X} {j : Nat} {u : Bool} : opsA P b (⟨some d, some (j, u), .mkfn f n, xs⟩ :: r) K t h = (qO (qW j t) = true ∧ (qG (qW j t) u = true → flags (evs t xs) ∧ okP (.mkfn f n) (strips (evs t xs))) ∧ opsA P b r K (zF d t (.gd (qG (qW j t) u) (zu (.mkfn f n) (strips (evs t xs))))) h) := by simp only [opsA, stepO, zY, R.kd, qY]
theorem qvT {P : Program} {b : Nat} {r : List RO} {K : Nx} {t : List AV} {h : List AObj} {d : Nat}  {xs : List X} : opsA P b (⟨some d, none, .slen, xs⟩ :: r) K t h = (flags (evs t xs) ∧ okP (.slen) (strips (evs t xs)) ∧ opsA P b r K (zF d t (zu (.slen) (strips (evs t xs)))) h) := by simp only [opsA, stepO, stepA, R.kd, qY]
theorem qs3 {P : Program} {b : Nat} {r : List RO} {K : Nx} {t : List AV} {h : List AObj} {d : Nat}  {xs : List X} {j : Nat} {u : Bool} : opsA P b (⟨some d, some (j, u), .slen, xs⟩ :: r) K t h = (qO (qW j t) = true ∧ (qG (qW j t) u = true → flags (evs t xs) ∧ okP (.slen) (strips (evs t xs))) ∧ opsA P b r K (zF d t (.gd (qG (qW j t) u) (zu (.slen) (strips (evs t xs))))) h) := by simp only [opsA, stepO, zY, R.kd, qY]
theorem qvS {P : Program} {b : Nat} {r : List RO} {K : Nx} {t : List AV} {h : List AObj} {d : Nat}  {xs : List X} : opsA P b (⟨some d, none, .sidx, xs⟩ :: r) K t h = (flags (evs t xs) ∧ okP (.sidx) (strips (evs t xs)) ∧ opsA P b r K (zF d t (zu (.sidx) (strips (evs t xs)))) h) := by simp only [opsA, stepO, stepA, R.kd, qY]
theorem qs2 {P : Program} {b : Nat} {r : List RO} {K : Nx} {t : List AV} {h : List AObj} {d : Nat}  {xs : List X} {j : Nat} {u : Bool} : opsA P b (⟨some d, some (j, u), .sidx, xs⟩ :: r) K t h = (qO (qW j t) = true ∧ (qG (qW j t) u = true → flags (evs t xs) ∧ okP (.sidx) (strips (evs t xs))) ∧ opsA P b r K (zF d t (.gd (qG (qW j t) u) (zu (.sidx) (strips (evs t xs))))) h) := by simp only [opsA, stepO, zY, R.kd, qY]
theorem qvU {P : Program} {b : Nat} {r : List RO} {K : Nx} {t : List AV} {h : List AObj} {d : Nat} {lo hi : Bool} {xs : List X} : opsA P b (⟨some d, none, .sslc lo hi, xs⟩ :: r) K t h = (flags (evs t xs) ∧ okP (.sslc lo hi) (strips (evs t xs)) ∧ opsA P b r K (zF d t (zu (.sslc lo hi) (strips (evs t xs)))) h) := by simp only [opsA, stepO, stepA, R.kd, qY]
theorem qs4 {P : Program} {b : Nat} {r : List RO} {K : Nx} {t : List AV} {h : List AObj} {d : Nat} {lo hi : Bool} {xs : List X} {j : Nat} {u : Bool} : opsA P b (⟨some d, some (j, u), .sslc lo hi, xs⟩ :: r) K t h = (qO (qW j t) = true ∧ (qG (qW j t) u = true → flags (evs t xs) ∧ okP (.sslc lo hi) (strips (evs t xs))) ∧ opsA P b r K (zF d t (.gd (qG (qW j t) u) (zu (.sslc lo hi) (strips (evs t xs))))) h) := by simp only [opsA, stepO, zY, R.kd, qY]
theorem qzp {P : Program} {b : Nat} {r : List RO} {K : Nx} {t : List AV} {h : List AObj} {d : Nat} {m : Bool} {xs : List X} : opsA P b (⟨some d, none, .mm m, xs⟩ :: r) K t h = (flags (evs t xs) ∧ okP (.mm m) (strips (evs t xs)) ∧ opsA P b r K (zF d t (zu (.mm m) (strips (evs t xs)))) h) := by simp only [opsA, stepO, stepA, R.kd, qY]
theorem qxJ {P : Program} {b : Nat} {r : List RO} {K : Nx} {t : List AV} {h : List AObj} {d : Nat} {m : Bool} {xs : List X} {j : Nat} {u : Bool} : opsA P b (⟨some d, some (j, u), .mm m, xs⟩ :: r) K t h = (qO (qW j t) = true ∧ (qG (qW j t) u = true → flags (evs t xs) ∧ okP (.mm m) (strips (evs t xs))) ∧ opsA P b r K (zF d t (.gd (qG (qW j t) u) (zu (.mm m) (strips (evs t xs))))) h) := by simp only [opsA, stepO, zY, R.kd, qY]
theorem qxF {P : Program} {b : Nat} {r : List RO} {K : Nx} {t : List AV} {h : List AObj} {d : Nat}  {xs : List X} : opsA P b (⟨some d, none, .len, xs⟩ :: r) K t h = (flags (evs t xs) ∧ okL h (.len) (strips (evs t xs)) ∧ opsA P b r K (zF d t (valL h (.len) (strips (evs t xs)))) h) := by simp only [opsA, stepO, stepA, R.kd, qY]
theorem qv1 {P : Program} {b : Nat} {r : List RO} {K : Nx} {t : List AV} {h : List AObj} {d : Nat}  {xs : List X} {j : Nat} {u : Bool} : opsA P b (⟨some d, some (j, u), .len, xs⟩ :: r) K t h = (qO (qW j t) = true ∧ (qG (qW j t) u = true → flags (evs t xs) ∧ okL h (.len) (strips (evs t xs))) ∧ opsA P b r K (zF d t (.gd (qG (qW j t) u) (valL h (.len) (strips (evs t xs))))) h) := by simp only [opsA, stepO, zY, R.kd, qY]
theorem qvN {P : Program} {b : Nat} {r : List RO} {K : Nx} {t : List AV} {h : List AObj} {d : Nat} {z : Nat} {xs : List X} : opsA P b (⟨some d, none, .idxA z, xs⟩ :: r) K t h = (flags (evs t xs) ∧ okL h (.idxA z) (strips (evs t xs)) ∧ opsA P b r K (zF d t (valL h (.idxA z) (strips (evs t xs)))) h) := by simp only [opsA, stepO, stepA, R.kd, qY]
theorem qsY {P : Program} {b : Nat} {r : List RO} {K : Nx} {t : List AV} {h : List AObj} {d : Nat} {z : Nat} {xs : List X} {j : Nat} {u : Bool} : opsA P b (⟨some d, some (j, u), .idxA z, xs⟩ :: r) K t h = (qO (qW j t) = true ∧ (qG (qW j t) u = true → flags (evs t xs) ∧ okL h (.idxA z) (strips (evs t xs))) ∧ opsA P b r K (zF d t (.gd (qG (qW j t) u) (valL h (.idxA z) (strips (evs t xs))))) h) := by simp only [opsA, stepO, zY, R.kd, qY]
theorem qqt {P : Program} {b : Nat} {r : List RO} {K : Nx} {t : List AV} {h : List AObj} {d : Nat} {m z : Nat} {xs : List X} : opsA P b (⟨some d, none, .idxArr m z, xs⟩ :: r) K t h = (flags (evs t xs) ∧ okL h (.idxArr m z) (strips (evs t xs)) ∧ opsA P b r K (zF d t (valL h (.idxArr m z) (strips (evs t xs)))) h) := by simp only [opsA, stepO, stepA, R.kd, qY]
theorem qnU {P : Program} {b : Nat} {r : List RO} {K : Nx} {t : List AV} {h : List AObj} {d : Nat} {m z : Nat} {xs : List X} {j : Nat} {u : Bool} : opsA P b (⟨some d, some (j, u), .idxArr m z, xs⟩ :: r) K t h = (qO (qW j t) = true ∧ (qG (qW j t) u = true → flags (evs t xs) ∧ okL h (.idxArr m z) (strips (evs t xs))) ∧ opsA P b r K (zF d t (.gd (qG (qW j t) u) (valL h (.idxArr m z) (strips (evs t xs))))) h) := by simp only [opsA, stepO, zY, R.kd, qY]
theorem qvM {P : Program} {b : Nat} {r : List RO} {K : Nx} {t : List AV} {h : List AObj} {d : Nat} {p : Nat} {xs : List X} : opsA P b (⟨some d, none, .fldA p, xs⟩ :: r) K t h = (flags (evs t xs) ∧ okL h (.fldA p) (strips (evs t xs)) ∧ opsA P b r K (zF d t (valL h (.fldA p) (strips (evs t xs)))) h) := by simp only [opsA, stepO, stepA, R.kd, qY]
theorem qsX {P : Program} {b : Nat} {r : List RO} {K : Nx} {t : List AV} {h : List AObj} {d : Nat} {p : Nat} {xs : List X} {j : Nat} {u : Bool} : opsA P b (⟨some d, some (j, u), .fldA p, xs⟩ :: r) K t h = (qO (qW j t) = true ∧ (qG (qW j t) u = true → flags (evs t xs) ∧ okL h (.fldA p) (strips (evs t xs))) ∧ opsA P b r K (zF d t (.gd (qG (qW j t) u) (valL h (.fldA p) (strips (evs t xs))))) h) := by simp only [opsA, stepO, zY, R.kd, qY]
theorem qvO {P : Program} {b : Nat} {r : List RO} {K : Nx} {t : List AV} {h : List AObj} {d : Nat} {n : Option Nat} {xs : List X} : opsA P b (⟨some d, none, .load n, xs⟩ :: r) K t h = (flags (evs t xs) ∧ okL h (.load n) (strips (evs t xs)) ∧ opsA P b r K (zF d t (valL h (.load n) (strips (evs t xs)))) h) := by simp only [opsA, stepO, stepA, R.kd, qY]
theorem qsZ {P : Program} {b : Nat} {r : List RO} {K : Nx} {t : List AV} {h : List AObj} {d : Nat} {n : Option Nat} {xs : List X} {j : Nat} {u : Bool} : opsA P b (⟨some d, some (j, u), .load n, xs⟩ :: r) K t h = (qO (qW j t) = true ∧ (qG (qW j t) u = true → flags (evs t xs) ∧ okL h (.load n) (strips (evs t xs))) ∧ opsA P b r K (zF d t (.gd (qG (qW j t) u) (valL h (.load n) (strips (evs t xs))))) h) := by simp only [opsA, stepO, zY, R.kd, qY]
theorem qqu {P : Program} {b : Nat} {r : List RO} {K : Nx} {t : List AV} {h : List AObj} {d : Nat}  {xs : List X} : opsA P b (⟨some d, none, .nilchk, xs⟩ :: r) K t h = (flags (evs t xs) ∧ okL h (.nilchk) (strips (evs t xs)) ∧ opsA P b r K (zF d t (valL h (.nilchk) (strips (evs t xs)))) h) := by simp only [opsA, stepO, stepA, R.kd, qY]
theorem qnV {P : Program} {b : Nat} {r : List RO} {K : Nx} {t : List AV} {h : List AObj} {d : Nat}  {xs : List X} {j : Nat} {u : Bool} : opsA P b (⟨some d, some (j, u), .nilchk, xs⟩ :: r) K t h = (qO (qW j t) = true ∧ (qG (qW j t) u = true → flags (evs t xs) ∧ okL h (.nilchk) (strips (evs t xs))) ∧ opsA P b r K (zF d t (.gd (qG (qW j t) u) (valL h (.nilchk) (strips (evs t xs))))) h) := by simp only [opsA, stepO, zY, R.kd, qY]
theorem qxI {P : Program} {b : Nat} {r : List RO} {K : Nx} {t : List AV} {h : List AObj} {d : Nat} {z : Nat} {lo hi : Bool} {xs : List X} : opsA P b (⟨some d, none, .slc z lo hi, xs⟩ :: r) K t h = (flags (evs t xs) ∧ okL h (.slc z lo hi) (strips (evs t xs)) ∧ opsA P b r K (zF d t (valL h (.slc z lo hi) (strips (evs t xs)))) h) := by simp only [opsA, stepO, stepA, R.kd, qY]
theorem qv2 {P : Program} {b : Nat} {r : List RO} {K : Nx} {t : List AV} {h : List AObj} {d : Nat} {z : Nat} {lo hi : Bool} {xs : List X} {j : Nat} {u : Bool} : opsA P b (⟨some d, some (j, u), .slc z lo hi, xs⟩ :: r) K t h = (qO (qW j t) = true ∧ (qG (qW j t) u = true → flags (evs t xs) ∧ okL h (.slc z lo hi) (strips (evs t xs))) ∧ opsA P b r K (zF d t (.gd (qG (qW j t) u) (valL h (.slc z lo hi) (strips (evs t xs))))) h) := by simp only [opsA, stepO, zY, R.kd, qY]
theorem qvR {P : Program} {b : Nat} {r : List RO} {K : Nx} {t : List AV} {h : List AObj} {d : Nat} {c x y : X} : opsA P b (⟨some d, none, .pick, [c, x, y]⟩ :: r) K t h = (qao (ev t c) (ev t x) (ev t y) ∧ opsA P b r K (zF d t (jM (ev t c) (ev t x) (ev t y))) h) := by simp only [opsA, stepO, stepA, R.kd, qY, evs]
theorem qs1 {P : Program} {b : Nat} {r : List RO} {K : Nx} {t : List AV} {h : List AObj} {d : Nat} {c x y : X} {j : Nat} {u : Bool} : opsA P b (⟨some d, some (j, u), .pick, [c, x, y]⟩ :: r) K t h = (qO (qW j t) = true ∧ (qG (qW j t) u = true → qao (ev t c) (ev t x) (ev t y)) ∧ opsA P b r K (zF d t (.gd (qG (qW j t) u) (jM (ev t c) (ev t x) (ev t y)))) h) := by simp only [opsA, stepO, zY, R.kd, qY, evs]
theorem qvQ {P : Program} {b : Nat} {r : List RO} {K : Nx} {t : List AV} {h : List AObj} {d : Option Nat} {j z : Nat} {ty : TypeId} {xs : List X} : opsA P b (⟨d, none, .nilo j z ty, xs⟩ :: r) K t h = (flags (evs t xs) ∧ effE b h (.nilo j z ty) (strips (evs t xs)) t d (opsA P b r K)) := by simp only [opsA, stepO, stepA, R.kd]
theorem qsN {P : Program} {b : Nat} {r : List RO} {K : Nx} {t : List AV} {h : List AObj} {d : Option Nat} {j : Nat} {ty : TypeId} {z : List AV} {xs : List X} : opsA P b (⟨d, none, .alloc j ty z, xs⟩ :: r) K t h = (flags (evs t xs) ∧ effE b h (.alloc j ty z) (strips (evs t xs)) t d (opsA P b r K)) := by simp only [opsA, stepO, stepA, R.kd]
theorem qxB {P : Program} {b : Nat} {r : List RO} {K : Nx} {t : List AV} {h : List AObj} {d : Option Nat} {j : Nat} {ty : TypeId} {xs : List X} : opsA P b (⟨d, none, .box j ty, xs⟩ :: r) K t h = (flags (evs t xs) ∧ effE b h (.box j ty) (strips (evs t xs)) t d (opsA P b r K)) := by simp only [opsA, stepO, stepA, R.kd]
theorem qsS {P : Program} {b : Nat} {r : List RO} {K : Nx} {t : List AV} {h : List AObj} {d : Option Nat} {n : Nat} {xs : List X} : opsA P b (⟨d, none, .store n, xs⟩ :: r) K t h = (flags (evs t xs) ∧ effE b h (.store n) (strips (evs t xs)) t d (opsA P b r K)) := by simp only [opsA, stepO, stepA, R.kd]
theorem qsR {P : Program} {b : Nat} {r : List RO} {K : Nx} {t : List AV} {h : List AObj} {d : Option Nat} {j z m : Nat} {ty : TypeId} {zs : List AV} {xs : List X} : opsA P b (⟨d, none, .mkslc j z ty zs m, xs⟩ :: r) K t h = (flags (evs t xs) ∧ effE b h (.mkslc j z ty zs m) (strips (evs t xs)) t d (opsA P b r K)) := by simp only [opsA, stepO, stepA, R.kd]
theorem qvJ {P : Program} {b : Nat} {r : List RO} {K : Nx} {t : List AV} {h : List AObj} {d : Option Nat} {j z n : Nat} {ty : TypeId} {zs : List AV} {ps : List (Nat × Nat)} {xs : List X} : opsA P b (⟨d, none, .bslc j z n ty zs ps, xs⟩ :: r) K t h = (flags (evs t xs) ∧ effE b h (.bslc j z n ty zs ps) (strips (evs t xs)) t d (opsA P b r K)) := by simp only [opsA, stepO, stepA, R.kd]
theorem qxy {P : Program} {b : Nat} {r : List RO} {K : Nx} {t : List AV} {h : List AObj} {d : Option Nat} {j z m : Nat} {ty : TypeId} {xs : List X} : opsA P b (⟨d, none, .app j z ty m, xs⟩ :: r) K t h = (flags (evs t xs) ∧ effE b h (.app j z ty m) (strips (evs t xs)) t d (opsA P b r K)) := by simp only [opsA, stepO, stepA, R.kd]
theorem qvG {P : Program} {b : Nat} {r : List RO} {K : Nx} {t : List AV} {h : List AObj} {d : Option Nat} {j : Nat} {ty : TypeId} {xs : List X} : opsA P b (⟨d, none, .apps j ty, xs⟩ :: r) K t h = (flags (evs t xs) ∧ effE b h (.apps j ty) (strips (evs t xs)) t d (opsA P b r K)) := by simp only [opsA, stepO, stepA, R.kd]
theorem qvK {P : Program} {b : Nat} {r : List RO} {K : Nx} {t : List AV} {h : List AObj} {d : Option Nat} {f : Nat} {p : Bool} {xs : List X} : opsA P b (⟨d, none, .call f p, xs⟩ :: r) K t h = qop P f p (evs t xs) d (opsA P b r K) t h := by simp only [opsA, stepO, stepA, R.kd]
theorem qsV {P : Program} {b : Nat} {r : List RO} {K : Nx} {t : List AV} {h : List AObj} {d : Option Nat} {f : Nat} {p : Bool} {xs : List X} {j : Nat} {u : Bool} : opsA P b (⟨d, some (j, u), .call f p, xs⟩ :: r) K t h = (qO (qW j t) = true ∧ qoq P f p (qG (qW j t) u) (evs t xs) d (opsA P b r K) t h) := by simp only [opsA, stepO, zY, R.kd]
theorem qsP {P : Program} {b : Nat} {r : List RO} {K : Nx} {t : List AV} {h : List AObj} {d : Option Nat} {xs : List X} : opsA P b (⟨d, none, .callv, xs⟩ :: r) K t h = (flags (evs t xs) ∧ qbM P (strips (evs t xs)) d (opsA P b r K) t h) := by simp only [opsA, stepO, stepA, R.kd]
theorem qxG {P : Program} {b : Nat} {K : Nx} {t : List AV} {h : List AObj} : opsA P b [] K t h = K t h := (rfl)
theorem qrH {t : List AV} : evs t [] = [] := rfl
theorem qoL {t : List AV} {x : X} {r : List X} : evs t (x :: r) = ev t x :: evs t r := rfl
theorem qjn : strips [] = [] := rfl
theorem qdm {x : AV} {r : List AV} : strips (x :: r) = x.strip :: strips r := rfl
theorem qly : flags [] = True := rfl
theorem qix {x : AV} {r : List AV} : flags (x :: r) = (x.flag = true ∧ flags r) := rfl
theorem qkg {k l : IntKind} {a c : Int} : qbb .add (.int k a) (.int l c) = .int k (k.wrap (a + c)) := rfl
theorem qjU {k l : IntKind} {a c : Int} : qaX .add (.int k a) (.int l c) = (k = l) := rfl
theorem qkt {k l : IntKind} {a c : Int} : qbb .sub (.int k a) (.int l c) = .int k (k.wrap (a - c)) := rfl
theorem qj7 {k l : IntKind} {a c : Int} : qaX .sub (.int k a) (.int l c) = (k = l) := rfl
theorem qkn {k l : IntKind} {a c : Int} : qbb .mul (.int k a) (.int l c) = .int k (k.wrap (a * c)) := rfl
theorem qj1 {k l : IntKind} {a c : Int} : qaX .mul (.int k a) (.int l c) = (k = l) := rfl
theorem qkp {k l : IntKind} {a c : Int} : qbb .quo (.int k a) (.int l c) = .int k (k.wrap (a.tdiv c)) := rfl
theorem qj3 {k l : IntKind} {a c : Int} : qaX .quo (.int k a) (.int l c) = (k = l ∧ c ≠ 0) := rfl
theorem qkq {k l : IntKind} {a c : Int} : qbb .rem (.int k a) (.int l c) = .int k (a.tmod c) := rfl
theorem qj4 {k l : IntKind} {a c : Int} : qaX .rem (.int k a) (.int l c) = (k = l ∧ c ≠ 0) := rfl
theorem qkr {k l : IntKind} {a c : Int} : qbb .shl (.int k a) (.int l c) = .int k (qyX k a c) := rfl
theorem qj5 {k l : IntKind} {a c : Int} : qaX .shl (.int k a) (.int l c) = (0 ≤ c) := rfl
theorem qks {k l : IntKind} {a c : Int} : qbb .shr (.int k a) (.int l c) = .int k (qxm k a c) := rfl
theorem qj6 {k l : IntKind} {a c : Int} : qaX .shr (.int k a) (.int l c) = (0 ≤ c) := rfl
theorem qki {k l : IntKind} {a c : Int} : qbb .eql (.int k a) (.int l c) = .bool (decide (a = c)) := rfl
theorem qjW {k l : IntKind} {a c : Int} : qaX .eql (.int k a) (.int l c) = (k = l) := rfl
theorem qko {k l : IntKind} {a c : Int} : qbb .neq (.int k a) (.int l c) = .bool (!decide (a = c)) := rfl
theorem qj2 {k l : IntKind} {a c : Int} : qaX .neq (.int k a) (.int l c) = (k = l) := rfl
theorem qkm {k l : IntKind} {a c : Int} : qbb .lss (.int k a) (.int l c) = .bool (decide (a < c)) := rfl
theorem qj0 {k l : IntKind} {a c : Int} : qaX .lss (.int k a) (.int l c) = (k = l) := rfl
theorem qkl {k l : IntKind} {a c : Int} : qbb .leq (.int k a) (.int l c) = .bool (decide (a ≤ c)) := rfl
theorem qjZ {k l : IntKind} {a c : Int} : qaX .leq (.int k a) (.int l c) = (k = l) := rfl
theorem qkk {k l : IntKind} {a c : Int} : qbb .gtr (.int k a) (.int l c) = .bool (decide (c < a)) := rfl
theorem qjY {k l : IntKind} {a c : Int} : qaX .gtr (.int k a) (.int l c) = (k = l) := rfl
theorem qkj {k l : IntKind} {a c : Int} : qbb .geq (.int k a) (.int l c) = .bool (decide (c ≤ a)) := rfl
theorem qjX {k l : IntKind} {a c : Int} : qaX .geq (.int k a) (.int l c) = (k = l) := rfl
theorem qkh {k l : IntKind} {a c : Int} : qbb .and (.int k a) (.int l c) = .int k (qwh k a c) := rfl
theorem qjV {k l : IntKind} {a c : Int} : qaX .and (.int k a) (.int l c) = (k = l) := rfl
theorem qok {k l : IntKind} {a c : Int} : qbb .or (.int k a) (.int l c) = .int k (orK k a c) := rfl
theorem qoj {k l : IntKind} {a c : Int} : qaX .or (.int k a) (.int l c) = (k = l) := rfl
theorem qku {k l : IntKind} {a c : Int} : qbb .xor (.int k a) (.int l c) = .int k (qzt k a c) := rfl
theorem qj8 {k l : IntKind} {a c : Int} : qaX .xor (.int k a) (.int l c) = (k = l) := rfl
theorem qe1 {k l : IntKind} {a c : Int} : qbb .andNot (.int k a) (.int l c) = .int k (qq8 k a c) := rfl
theorem qe0 {k l : IntKind} {a c : Int} : qaX .andNot (.int k a) (.int l c) = (k = l) := rfl
theorem qkv {s u : List UInt8} : qbb .add (.str s) (.str u) = .str (s ++ u) := rfl
theorem qj9 {s u : List UInt8} : qaX .add (.str s) (.str u) = (s.length + u.length ≤ 9223372036854775807) := rfl
theorem qkw {s u : List UInt8} : qbb .eql (.str s) (.str u) = .bool (decide (s = u)) := rfl
theorem qka {s u : List UInt8} : qaX .eql (.str s) (.str u) = True := rfl
theorem qkB {s u : List UInt8} : qbb .neq (.str s) (.str u) = .bool (!decide (s = u)) := rfl
theorem qkf {s u : List UInt8} : qaX .neq (.str s) (.str u) = True := rfl
theorem qkA {s u : List UInt8} : qbb .lss (.str s) (.str u) = .bool (Op.bytesLess s u) := rfl
theorem qke {s u : List UInt8} : qaX .lss (.str s) (.str u) = True := rfl
theorem qkz {s u : List UInt8} : qbb .leq (.str s) (.str u) = .bool (Op.bytesLess s u || decide (s = u)) := rfl
theorem qkd {s u : List UInt8} : qaX .leq (.str s) (.str u) = True := rfl
theorem qky {s u : List UInt8} : qbb .gtr (.str s) (.str u) = .bool (!(Op.bytesLess s u || decide (s = u))) := rfl
theorem qkc {s u : List UInt8} : qaX .gtr (.str s) (.str u) = True := rfl
theorem qkx {s u : List UInt8} : qbb .geq (.str s) (.str u) = .bool (!Op.bytesLess s u) := rfl
theorem qkb {s u : List UInt8} : qaX .geq (.str s) (.str u) = True := rfl
theorem qnG {n p q : Bool} : zu (.bool n) [.bool p, .bool q] = .bool (n != (p == q)) := rfl
theorem qpt {n p q : Bool} : okP (.bool n) [.bool p, .bool q] = True := rfl
theorem qqq {p : Bool} : zu (.un .not) [.bool p] = .bool (!p) := rfl
theorem qse {p : Bool} : okP (.un .not) [.bool p] = True := rfl
theorem qqp {k : IntKind} {n : Int} : zu (.un .neg) [.int k n] = .int k (k.wrap (0 - n)) := rfl
theorem qsd {k : IntKind} {n : Int} : okP (.un .neg) [.int k n] = True := rfl
theorem qnH {k l : IntKind} {n : Int} : zu (.conv k) [.int l n] = .int k (k.wrap n) := rfl
theorem qpu {k l : IntKind} {n : Int} : okP (.conv k) [.int l n] = True := rfl
theorem qdD {n : Bool} {x : AV} : zu (.isnil .ptr n) [x] = .bool (n != (zr .ptr x).getD false) := rfl
theorem qev {n : Bool} {x : AV} : okP (.isnil .ptr n) [x] = ((zr .ptr x).isSome = true) := rfl
theorem qdp {n : Bool} {x : AV} : zu (.isnil .func n) [x] = .bool (n != (zr .func x).getD false) := rfl
theorem qdy {n : Bool} {x : AV} : okP (.isnil .func n) [x] = ((zr .func x).isSome = true) := rfl
theorem qcv {n : Bool} {x : AV} : zu (.isnil .iface n) [x] = .bool (n != (zr .iface x).getD false) := rfl
theorem qda {n : Bool} {x : AV} : okP (.isnil .iface n) [x] = ((zr .iface x).isSome = true) := rfl
theorem qbH {n : Bool} {m : Nat} {f : Nat → List AV} : zu (.isnil .slice n) [.sl m f] = if m = 0 then .anyb else .bool (n != false) := rfl
theorem qfF {n : Bool} {m : Nat} {f : Nat → List AV} : okP (.isnil .slice n) [.sl m f] = True := rfl
theorem qeM {n : Bool} : zu (.isnil .slice n) [.nl] = .bool (n != true) := rfl
theorem qfE {n : Bool} : okP (.isnil .slice n) [.nl] = True := by simp [okP, zr]
theorem qif (A B : Nx) (t : List AV) (h : List AObj) : qgs .anyb A B t h = (A t h ∧ B t h) := rfl
theorem qjj : AV.strip .anyb = .anyb := rfl
theorem qlu : AV.flag .anyb = true := rfl
theorem qi7 : AV.solid .anyb = true := rfl
theorem qh8 : AV.cells .anyb = [.anyb] := rfl
theorem ql8 : zr .ptr .nilp = some true := rfl
theorem qiK : zr .func .nilfn = some true := rfl
theorem qiL : zr .iface .nilif = some true := rfl
theorem qr4 : zr .slice .nl = some true := rfl
theorem qr3 {c : List AV} : zr .ptr (.ip c) = some false := rfl
theorem qr2 {f : Fn} {a c : List AV} : zr .func (.fn f a c) = some false := rfl
theorem qpi : zr .iface .ifc = some false := rfl
theorem qqm {ks : List AK} {n : Bool} {x y : List AV} : zu (.aeq ks n) [.agg x, .agg y] = .bool (n != (zo ks x y).getD false) := rfl
theorem qr8 {ks : List AK} {n : Bool} {x y : List AV} : okP (.aeq ks n) [.agg x, .agg y] = ((zo ks x y).isSome = true) := rfl
theorem qqo {p : Nat} {n : Option Nat} {c : List AV} : zu (.fld p n) [.agg c] = cut c p n := rfl
theorem qsa {p : Nat} {n : Option Nat} {c : List AV} : okP (.fld p n) [.agg c] = qdu c p n := rfl
theorem qrr {p : Nat} {c : List AV} : qdu c p none = (p < c.length) := rfl
theorem qrs {p n : Nat} {c : List AV} : qdu c p (some n) = (p + n ≤ c.length) := rfl
theorem qqn {i : Nat} {c : List AV} : zu (.ext i) [.tup c] = (c[i]?).getD .undef := rfl
theorem qr9 {i : Nat} {c : List AV} : okP (.ext i) [.tup c] = (i < c.length) := rfl
theorem qjC {z : List AV} {ps : List (Nat × Nat)} {vs : List AV} : zu (.build z ps) vs = .agg (qaj z ps vs) := by cases vs <;> rfl
theorem qmo {z : List AV} {ps : List (Nat × Nat)} {vs : List AV} : okP (.build z ps) vs = qab z.length ps vs := by cases vs <;> rfl
theorem qio {n : Nat} : qab n [] [] = True := rfl
theorem qgw {m p n : Nat} {ps : List (Nat × Nat)} {v : AV} {vs : List AV} : qab m ((p, n) :: ps) (v :: vs) = (v.solid = true ∧ v.cells.length = n ∧ p + n ≤ m ∧ qab m ps vs) := rfl
theorem qlm {z : List AV} {ps : List (Nat × Nat)} : qaj z ps [] = z := by cases ps <;> rfl
theorem qin {z : List AV} {p n : Nat} {ps : List (Nat × Nat)} {v : AV} {vs : List AV} : qaj z ((p, n) :: ps) (v :: vs) = qaj (z.take p ++ v.cells ++ z.drop (p + n)) ps vs := rfl
theorem qnM {f : Fn} {n : Nat} {vs : List AV} : zu (.mkfn f n) vs = .fn f (vs.take n) (vs.drop n) := by cases vs <;> rfl
theorem qpv {f : Fn} {n : Nat} {vs : List AV} : okP (.mkfn f n) vs = (n ≤ vs.length) := by cases vs <;> rfl
theorem qnN {s : List UInt8} {k : IntKind} {i : Int} : zu .sidx [.str s, .int k i] = .int .u8 ((s[i.toNat]?).getD 0).toNat := rfl
theorem qpw {s : List UInt8} {k : IntKind} {i : Int} : okP .sidx [.str s, .int k i] = (0 ≤ i ∧ i < s.length) := rfl
theorem qjD {s : List UInt8} {k m : IntKind} {a c : Int} : zu (.sslc true true) [.str s, .int k a, .int m c] = .str ((s.drop (a : Int).toNat).take ((c : Int).toNat - (a : Int).toNat)) := by simp [zu, loB, hiB]
theorem qmp {s : List UInt8} {k m : IntKind} {a c : Int} : okP (.sslc true true) [.str s, .int k a, .int m c] = (0 ≤ (a : Int) ∧ (a : Int) ≤ c ∧ c ≤ (s.length : Int)) := by simp [okP, loB, hiB, qaK]
theorem qjB {g : List AObj} {z n : Nat} {f : Nat → List AV} {k m : IntKind} {a c : Int} : valL g (.slc z true true) [.sl n f, .int k a, .int m c] = .sl ((c : Int).toNat - (a : Int).toNat) (fun i => f ((a : Int).toNat + i)) := by simp [valL, loB, hiB]
theorem qmn {g : List AObj} {z n : Nat} {f : Nat → List AV} {k m : IntKind} {a c : Int} : okL g (.slc z true true) [.sl n f, .int k a, .int m c] = ((0 ≤ (a : Int) ∧ (a : Int) ≤ c ∧ c ≤ (n : Int)) ∧ (0 < n → (f 0).length = z)) := by simp [okL, loB, hiB, qaK, and_assoc]
theorem qjz {g : List AObj} {z w v y p n : Nat} {k m : IntKind} {a c : Int} : valL g (.slc z true true) [.osl w v y p n, .int k a, .int m c] = .osl w v y (p + (a : Int).toNat * y) ((c : Int).toNat - (a : Int).toNat) := by simp [valL, loB, hiB]
theorem qmm {g : List AObj} {z w v y p n : Nat} {k m : IntKind} {a c : Int} : okL g (.slc z true true) [.osl w v y p n, .int k a, .int m c] = ((0 ≤ (a : Int) ∧ (a : Int) ≤ c ∧ c ≤ (n : Int)) ∧ y = z ∧ zn g w v = true ∧ ((a : Int) = 0 ∨ (a : Int) < n)) := by simp [okL, loB, hiB, qaK, and_assoc]
theorem qnQ {s : List UInt8} {k : IntKind} {a : Int} : zu (.sslc true false) [.str s, .int k a] = .str ((s.drop (a : Int).toNat).take (((s.length : Int) : Int).toNat - (a : Int).toNat)) := by simp [zu, loB, hiB]
theorem qpz {s : List UInt8} {k : IntKind} {a : Int} : okP (.sslc true false) [.str s, .int k a] = (0 ≤ (a : Int) ∧ (a : Int) ≤ (s.length : Int) ∧ (s.length : Int) ≤ (s.length : Int)) := by simp [okP, loB, hiB, qaK]
theorem qnF {g : List AObj} {z n : Nat} {f : Nat → List AV} {k : IntKind} {a : Int} : valL g (.slc z true false) [.sl n f, .int k a] = .sl (((n : Int) : Int).toNat - (a : Int).toNat) (fun i => f ((a : Int).toNat + i)) := by simp [valL, loB, hiB]
theorem qps {g : List AObj} {z n : Nat} {f : Nat → List AV} {k : IntKind} {a : Int} : okL g (.slc z true false) [.sl n f, .int k a] = ((0 ≤ (a : Int) ∧ (a : Int) ≤ (n : Int) ∧ (n : Int) ≤ (n : Int)) ∧ (0 < n → (f 0).length = z)) := by simp [okL, loB, hiB, qaK, and_assoc]
theorem qnD {g : List AObj} {z w v y p n : Nat} {k : IntKind} {a : Int} : valL g (.slc z true false) [.osl w v y p n, .int k a] = .osl w v y (p + (a : Int).toNat * y) (((n : Int) : Int).toNat - (a : Int).toNat) := by simp [valL, loB, hiB]
theorem qpq {g : List AObj} {z w v y p n : Nat} {k : IntKind} {a : Int} : okL g (.slc z true false) [.osl w v y p n, .int k a] = ((0 ≤ (a : Int) ∧ (a : Int) ≤ (n : Int) ∧ (n : Int) ≤ (n : Int)) ∧ y = z ∧ zn g w v = true ∧ ((a : Int) = 0 ∨ (a : Int) < n)) := by simp [okL, loB, hiB, qaK, and_assoc]
theorem qnP {s : List UInt8} {k : IntKind} {c : Int} : zu (.sslc false true) [.str s, .int k c] = .str ((s.drop (0 : Int).toNat).take ((c : Int).toNat - (0 : Int).toNat)) := by simp [zu, loB, hiB]
theorem qpy {s : List UInt8} {k : IntKind} {c : Int} : okP (.sslc false true) [.str s, .int k c] = (0 ≤ (0 : Int) ∧ (0 : Int) ≤ c ∧ c ≤ (s.length : Int)) := by simp [okP, loB, hiB, qaK]
theorem qnE {g : List AObj} {z n : Nat} {f : Nat → List AV} {k : IntKind} {c : Int} : valL g (.slc z false true) [.sl n f, .int k c] = .sl ((c : Int).toNat - (0 : Int).toNat) (fun i => f ((0 : Int).toNat + i)) := by simp [valL, loB, hiB]
theorem qpr {g : List AObj} {z n : Nat} {f : Nat → List AV} {k : IntKind} {c : Int} : okL g (.slc z false true) [.sl n f, .int k c] = ((0 ≤ (0 : Int) ∧ (0 : Int) ≤ c ∧ c ≤ (n : Int)) ∧ (0 < n → (f 0).length = z)) := by simp [okL, loB, hiB, qaK, and_assoc]
theorem qnC {g : List AObj} {z w v y p n : Nat} {k : IntKind} {c : Int} : valL g (.slc z false true) [.osl w v y p n, .int k c] = .osl w v y (p + (0 : Int).toNat * y) ((c : Int).toNat - (0 : Int).toNat) := by simp [valL, loB, hiB]
theorem qpp {g : List AObj} {z w v y p n : Nat} {k : IntKind} {c : Int} : okL g (.slc z false true) [.osl w v y p n, .int k c] = ((0 ≤ (0 : Int) ∧ (0 : Int) ≤ c ∧ c ≤ (n : Int)) ∧ y = z ∧ zn g w v = true ∧ ((0 : Int) = 0 ∨ (0 : Int) < n)) := by simp [okL, loB, hiB, qaK, and_assoc]
theorem qqr {s : List UInt8}  : zu (.sslc false false) [.str s] = .str ((s.drop (0 : Int).toNat).take (((s.length : Int) : Int).toNat - (0 : Int).toNat)) := by simp [zu, loB, hiB]
theorem qsf {s : List UInt8}  : okP (.sslc false false) [.str s] = (0 ≤ (0 : Int) ∧ (0 : Int) ≤ (s.length : Int) ∧ (s.length : Int) ≤ (s.length : Int)) := by simp [okP, loB, hiB, qaK]
theorem qql {g : List AObj} {z n : Nat} {f : Nat → List AV}  : valL g (.slc z false false) [.sl n f] = .sl (((n : Int) : Int).toNat - (0 : Int).toNat) (fun i => f ((0 : Int).toNat + i)) := by simp [valL, loB, hiB]
theorem qr7 {g : List AObj} {z n : Nat} {f : Nat → List AV}  : okL g (.slc z false false) [.sl n f] = ((0 ≤ (0 : Int) ∧ (0 : Int) ≤ (n : Int) ∧ (n : Int) ≤ (n : Int)) ∧ (0 < n → (f 0).length = z)) := by simp [okL, loB, hiB, qaK, and_assoc]
theorem qqk {g : List AObj} {z w v y p n : Nat}  : valL g (.slc z false false) [.osl w v y p n] = .osl w v y (p + (0 : Int).toNat * y) (((n : Int) : Int).toNat - (0 : Int).toNat) := by simp [valL, loB, hiB]
theorem qr6 {g : List AObj} {z w v y p n : Nat}  : okL g (.slc z false false) [.osl w v y p n] = ((0 ≤ (0 : Int) ∧ (0 : Int) ≤ (n : Int) ∧ (n : Int) ≤ (n : Int)) ∧ y = z ∧ zn g w v = true ∧ ((0 : Int) = 0 ∨ (0 : Int) < n)) := by simp [okL, loB, hiB, qaK, and_assoc]
theorem qnI {k l : IntKind} {a c : Int} : zu (.mm true) [.int k a, .int l c] = .int k (max a c) := rfl
theorem qnK {k l : IntKind} {a c : Int} : zu (.mm false) [.int k a, .int l c] = .int k (min a c) := rfl
theorem qnJ {k l m : IntKind} {a c e : Int} : zu (.mm true) [.int k a, .int l c, .int m e] = .int k (max (max a c) e) := rfl
theorem qnL {k l m : IntKind} {a c e : Int} : zu (.mm false) [.int k a, .int l c, .int m e] = .int k (min (min a c) e) := rfl
theorem qsb {x : Bool} {k l : IntKind} {a c : Int} : okP (.mm x) [.int k a, .int l c] = True := by simp [okP, qaK]
theorem qsc {x : Bool} {k l m : IntKind} {a c e : Int} : okP (.mm x) [.int k a, .int l c, .int m e] = True := by simp [okP, qaK]
theorem qjy {g : List AObj} {n : Nat} {f : Nat → List AV} : valL g .len [.sl n f] = .int .i64 n := rfl
theorem qml {g : List AObj} {n : Nat} {f : Nat → List AV} : okL g .len [.sl n f] = True := rfl
theorem qjx {g : List AObj} : valL g .len [.nl] = .int .i64 0 := rfl
theorem qmk {g : List AObj} : okL g .len [.nl] = True := rfl
theorem qnO {s : List UInt8} : zu .slen [.str s] = .int .i64 s.length := rfl
theorem qpx {s : List UInt8} : okP .slen [.str s] = True := rfl
theorem qg9 {g : List AObj} {k v z p n : Nat} : valL g .len [.osl k v z p n] = .int .i64 n := rfl
theorem qiQ {g : List AObj} {k v z p n : Nat} : okL g .len [.osl k v z p n] = (zn g k v = true) := rfl
theorem qjw {g : List AObj} {z n : Nat} {f : Nat → List AV} {k : IntKind} {i : Int} : valL g (.idxA z) [.sl n f, .int k i] = .ip (f i.toNat) := rfl
theorem qmj {g : List AObj} {z n : Nat} {f : Nat → List AV} {k : IntKind} {i : Int} : okL g (.idxA z) [.sl n f, .int k i] = ((0 ≤ i ∧ i < n) ∧ (f i.toNat).length = z) := rfl
theorem qg8 {g : List AObj} {z q v y p n : Nat} {k : IntKind} {i : Int} : valL g (.idxA z) [.osl q v y p n, .int k i] = .op q v (p + i.toNat * y) := rfl
theorem qiP {g : List AObj} {z q v y p n : Nat} {k : IntKind} {i : Int} : okL g (.idxA z) [.osl q v y p n, .int k i] = ((0 ≤ i ∧ i < n) ∧ y = z ∧ (cellsOf g q v).isSome = true) := rfl
theorem qjs {g : List AObj} {m z : Nat} {c : List AV} {k : IntKind} {i : Int} : valL g (.idxArr m z) [.ip c, .int k i] = .ip ((c.drop (i.toNat * z)).take z) := rfl
theorem qme {g : List AObj} {m z : Nat} {c : List AV} {k : IntKind} {i : Int} : okL g (.idxArr m z) [.ip c, .int k i] = ((0 ≤ i ∧ i < m) ∧ c.length = m * z) := rfl
theorem qjt {g : List AObj} {m z q v p : Nat} {k : IntKind} {i : Int} : valL g (.idxArr m z) [.op q v p, .int k i] = .op q v (p + i.toNat * z) := rfl
theorem qmf {g : List AObj} {m z q v p : Nat} {k : IntKind} {i : Int} : okL g (.idxArr m z) [.op q v p, .int k i] = ((0 ≤ i ∧ i < m) ∧ (cellsOf g q v).isSome = true) := rfl
theorem qju {g : List AObj} {p : Nat} {c : List AV} : valL g (.fldA p) [.ip c] = .ip (c.drop p) := rfl
theorem qmh {g : List AObj} {p : Nat} {c : List AV} : okL g (.fldA p) [.ip c] = (p < c.length) := rfl
theorem qjv {g : List AObj} {p q v o : Nat} : valL g (.fldA p) [.op q v o] = .op q v (o + p) := rfl
theorem qmi {g : List AObj} {p q v o : Nat} : okL g (.fldA p) [.op q v o] = ((cellsOf g q v).isSome = true) := rfl
theorem qnx {g : List AObj} {n : Option Nat} {c : List AV} : valL g (.load n) [.ip c] = cut c 0 n := rfl
theorem qpk {g : List AObj} {n : Option Nat} {c : List AV} : okL g (.load n) [.ip c] = qdu c 0 n := rfl
theorem qny {g : List AObj} {n : Option Nat} {q v p : Nat} : valL g (.load n) [.op q v p] = cut ((cellsOf g q v).getD []) p n := rfl
theorem qpl {g : List AObj} {n : Option Nat} {q v p : Nat} : okL g (.load n) [.op q v p] = ((cellsOf g q v).isSome = true ∧ qdu ((cellsOf g q v).getD []) p n) := rfl
theorem qnA {g : List AObj} {c : List AV} : valL g .nilchk [.ip c] = .ip c := rfl
theorem qpn {g : List AObj} {c : List AV} : okL g .nilchk [.ip c] = True := rfl
theorem qnB {g : List AObj} {q v p : Nat} : valL g .nilchk [.op q v p] = .op q v p := rfl
theorem qpo {g : List AObj} {q v p : Nat} : okL g .nilchk [.op q v p] = ((cellsOf g q v).isSome = true) := rfl
theorem qnz {g : List AObj} {f : Fn} {a c : List AV} : valL g .nilchk [.fn f a c] = .fn f a c := rfl
theorem qpm {g : List AObj} {f : Nat} {a c : List AV} : okL g .nilchk [.fn (.func f) a c] = True := rfl
theorem qoB {c : List AV} {p : Nat} : cut c p none = (c[p]?).getD .undef := rfl
theorem qoC {c : List AV} {p n : Nat} : cut c p (some n) = .agg ((c.drop p).take n) := rfl
theorem qo9 {b w : Bool} : qG (.bool b) w = (b == w) := rfl
theorem qlK {g b w : Bool} : qG (.gd g (.bool b)) w = (g && (b == w)) := rfl
theorem qlL {b : Bool} : qO (.bool b) = true := rfl
theorem qiy {g b : Bool} : qO (.gd g (.bool b)) = true := rfl
theorem qpC {c : Bool} {x y : AV} : qao (.bool c) x y = ((c = true → x.flag = true) ∧ (c = false → y.flag = true)) := rfl
theorem qmw {g c : Bool} {x y : AV} : qao (.gd g (.bool c)) x y = (g = true ∧ (c = true → x.flag = true) ∧ (c = false → y.flag = true)) := rfl
theorem qmx {c p q : Bool} : jM (.bool c) (.bool p) (.bool q) = .bool ((c && p) || (!c && q)) := rfl
theorem qmD {c p q gc : Bool} : jM (.gd gc (.bool c)) (.bool p) (.bool q) = .bool ((c && p) || (!c && q)) := rfl
theorem qmy {c p q gq : Bool} : jM (.bool c) (.bool p) (.gd gq (.bool q)) = .bool ((c && p) || (!c && q)) := rfl
theorem qmE {c p q gq gc : Bool} : jM (.gd gc (.bool c)) (.bool p) (.gd gq (.bool q)) = .bool ((c && p) || (!c && q)) := rfl
theorem qmz {c p q gp : Bool} : jM (.bool c) (.gd gp (.bool p)) (.bool q) = .bool ((c && p) || (!c && q)) := rfl
theorem qmF {c p q gp gc : Bool} : jM (.gd gc (.bool c)) (.gd gp (.bool p)) (.bool q) = .bool ((c && p) || (!c && q)) := rfl
theorem qmA {c p q gp gq : Bool} : jM (.bool c) (.gd gp (.bool p)) (.gd gq (.bool q)) = .bool ((c && p) || (!c && q)) := rfl
theorem qmG {c p q gp gq gc : Bool} : jM (.gd gc (.bool c)) (.gd gp (.bool p)) (.gd gq (.bool q)) = .bool ((c && p) || (!c && q)) := rfl
theorem qtN {P : Program} {b : Nat} {Q : Ex → Nx} {t : List AV} {h : List AObj} : zl P b .skip Q t h = Q .normal t h := (rfl)
theorem qwr {P : Program} {b : Nat} {Q : Ex → Nx} {t : List AV} {h : List AObj} {l : List RO} : zl P b (.ops l) Q t h = opsA P b l (Q .normal) t h := (rfl)
theorem qwt {P : Program} {b : Nat} {Q : Ex → Nx} {t : List AV} {h : List AObj} {x y : C} : zl P b (.seq x y) Q t h = zl P b x (Ex.andThen (zl P b y Q) Q) t h := (rfl)
theorem qtL {P : Program} {b : Nat} {Q : Ex → Nx} {t : List AV} {h : List AObj} {c : X} {x y : C} : zl P b (.cond c x y) Q t h = qgs (ev t c) (zl P b x Q) (zl P b y Q) t h := (rfl)
theorem qrk {P : Program} {b : Nat} {Q : Ex → Nx} {t : List AV} {h : List AObj} {i : Nat} {x : C} : zl P b (.block i x) Q t h = zl P b x (Ex.inBlock i Q) t h := (rfl)
theorem qtM {P : Program} {b : Nat} {Q : Ex → Nx} {t : List AV} {h : List AObj} {i : Nat} : zl P b (.exit i) Q t h = Q (.exit i) t h := (rfl)
theorem qws {P : Program} {b : Nat} {Q : Ex → Nx} {t : List AV} {h : List AObj} : zl P b .ret Q t h = Q .ret t h := (rfl)
theorem qyK {K : Nx} {Q : Ex → Nx} {t : List AV} {h : List AObj} : Ex.andThen K Q .normal t h = K t h := (rfl)
theorem qyJ {K : Nx} {Q : Ex → Nx} {t : List AV} {h : List AObj} {i : Nat} : Ex.andThen K Q (.exit i) t h = Q (.exit i) t h := (rfl)
theorem qyL {K : Nx} {Q : Ex → Nx} {t : List AV} {h : List AObj} : Ex.andThen K Q .ret t h = Q .ret t h := (rfl)
theorem qyU {i : Nat} {Q : Ex → Nx} {t : List AV} {h : List AObj} : Ex.inBlock i Q .normal t h = Q .normal t h := (rfl)
theorem qyV {i : Nat} {Q : Ex → Nx} {t : List AV} {h : List AObj} : Ex.inBlock i Q .ret t h = Q .ret t h := (rfl)
theorem qyT {i j : Nat} {Q : Ex → Nx} {t : List AV} {h : List AObj} : Ex.inBlock i Q (.exit j) t h = if j = i then Q .normal t h else Q (.exit j) t h := (rfl)
end AF
end
section
namespace AF
open Go
attribute [go_sem] quO qvr quP qvs quQ qvt quR qvu quS qvv quT qvw quU qvx quV qvy qrW qsA qo8 qpS qyO qyN qjk qlv qi8 qh9 qno qoV qnb qkV qnq qoX qnd qkY qqg qrO qp2 qox qnp qoW qnc qkW qnm qoT qm9 qnr qoY qkZ qqd qrL qpZ qou qqf qrN qp1 qow qjl qlw qi9 qia qqe qrM qp0 qov qqb qrJ qpY qot qns qoZ qne qk0 qgZ qit qgR qgq qnn qoU qna qkU qg0 qiu qgS qgr qg2 qiw qkT qqc qrK qzq qxK qxA qvY qvI qsU qzr qxL qvL qsW qsQ qqy qxx qvW qxE qv0 qxD qvZ qsO qqw qvP qs0 qvT qs3 qvS qs2 qvU qs4 qzp qxJ qxF qv1 qvN qsY qqt qnU qvM qsX qvO qsZ qqu qnV qxI qv2 qvR qs1 qvQ qsN qxB qsS qsR qvJ qxy qvG qvK qsV qsP qxG qrH qoL qjn qdm qly qix qkg qjU qkt qj7 qkn qj1 qkp qj3 qkq qj4 qkr qj5 qks qj6 qki qjW qko qj2 qkm qj0 qkl qjZ qkk qjY qkj qjX qkh qjV qok qoj qku qj8 qe1 qe0 qkv qj9 qkw qka qkB qkf qkA qke qkz qkd qky qkc qkx qkb qnG qpt qqq qse qqp qsd qnH qpu qdD qev qdp qdy qcv qda qbH qfF qeM qfE qif qjj qlu qi7 qh8 ql8 qiK qiL qr4 qr3 qr2 qpi qqm qr8 qqo qsa qrr qrs qqn qr9 qjC qmo qio qgw qlm qin qnM qpv qnN qpw qjD qmp qjB qmn qjz qmm qnQ qpz qnF qps qnD qpq qnP qpy qnE qpr qnC qpp qqr qsf qql qr7 qqk qr6 qnI qnK qnJ qnL qsb qsc qjy qml qjx qmk qnO qpx qg9 qiQ qjw qmj qg8 qiP qjs qme qjt qmf qju qmh qjv qmi qnx qpk qny qpl qnA qpn qnB qpo qnz qpm qoB qoC qo9 qlK qlL qiy qpC qmw qmx qmD qmy qmE qmz qmF qmA qmG qtN qwr qwt qtL qrk qtM qws qyK qyJ qyL qyU qyV qyT
attribute [go_sem] and_true true_and List.drop_zero List.drop_succ_cons List.getElem?_cons_zero List.getElem?_cons_succ Option.getD_some List.length_cons List.length_nil Int.toNat_natCast beq_true imp_self and_self implies_true Bool.and_true Bool.and_false Bool.or_false decide_eq_true_eq Bool.and_eq_true
theorem qmY (t : List AV) (h : List AObj) : j6 t h [] = True := rfl
theorem qmZ (n : Nat) (l : List RV) (t : List AV) (h : List AObj) : j6 t h (.tmp n :: l) = j6 t h l := by simp [j6, RV.ok]
theorem qi1 (t : List AV) (h : List AObj) : zU t h [] = [] := rfl
theorem qi2 (n : Nat) (l : List RV) (t : List AV) (h : List AObj) : zU t h (.tmp n :: l) = qW n t :: zU t h l := rfl
theorem qpO (v : AV) : qgM [v] = v := rfl
theorem qpP (v u : AV) (l : List AV) : qgM (v :: u :: l) = .tup (v :: u :: l) := rfl
theorem qig (c : Bool) (A B : Nx) (t : List AV) (h : List AObj) : qgs (.bool c) A B t h = ((c = true → A t h) ∧ (c = false → B t h)) := rfl
theorem qc {n : Int} (h0 : -9223372036854775808 ≤ n) (h1 : n ≤ 9223372036854775807) : IntKind.i64.wrap n = n := by
 have e1 : (2 : Int) ^ IntKind.bits IntKind.i64 = 18446744073709551616 := rfl
 have e2 : (2 : Int) ^ (IntKind.bits IntKind.i64 - 1) = 9223372036854775808 := rfl
 have e3 : IntKind.signed IntKind.i64 = true := rfl
 unfold IntKind.wrap
 rw [e1, e2, e3]
 simp only [Bool.true_and, decide_eq_true_eq]
 split <;> omega
theorem qlD {rs : List RV} {h0 : List AObj} {K : AV → List AObj → Prop} {t : List AV} {hh tl : List AObj} {r : AV} (e : hh = h0 ++ tl) (hok : j6 t hh rs) (hK : K r h0) (hv : VLe (frz (fun k => decide (h0.length ≤ k)) hh 8 (qgM (zU t hh rs))) r) :
  fnQ rs h0 K .ret t hh := by subst e; exact qo6 hok hK hv
theorem qJ {P : Program} {b : Nat} {x : C} {Q : Ex → Nx} {ι : Type} {t : List AV} {h : List AObj} (T : ι → List AV) (H : ι → List AObj) (inv : ι → Prop) (m : ι → Nat) (i0 : ι) (h0 : inv i0) (hw : Wk t h (T i0) (H i0))
  (round : ∀ i, inv i → ∀ K : Nx, (∀ t' h' j, inv j → m j < m i → Wk t' h' (T j) (H j) → K t' h') → zl P b x (Ex.andThen K Q) (T i) (H i)) : zl P b (.loop x) Q t h := by
 refine ⟨fun n t h => ∃ i, inv i ∧ m i = n ∧ t = T i ∧ h = H i, ⟨m i0, T i0, H i0, hw, i0, h0, rfl, rfl, rfl⟩, ?_⟩
 rintro n t' h' ⟨i, hi, rfl, rfl, rfl⟩
 exact round i hi _ (fun t'' h'' j hj hlt hw => ⟨m j, T j, H j, hlt, hw, j, hj, rfl, rfl, rfl⟩)
def qu (n : Nat) (l : List (Nat × AV)) : List AV := l.foldl (fun t p => zF p.1 t p.2) (List.replicate n .undef)
theorem jR.nil : jR [] [] := trivial
theorem qm (a : AV) : VLe a .undef = True := by simp [VLe.undef]
theorem qq (a : AV) : VLe a a = True := by simp [VLe.refl]
theorem qh {k : IntKind} {a b : Int} (h : a = b) : VLe (.int k a) (.int k b) := h ▸ VLe.refl _
theorem qr : jR [] [] = True := rfl
theorem qp {a b : AV} {l m : List AV} : jR (a :: l) (b :: m) = (VLe a b ∧ jR l m) := rfl
theorem qg {rs : List RV} {h : List AObj} {t : List AV} {r : AV} (hok : j6 t h rs) (hv : VLe (frz (fun k => decide (h.length ≤ k)) h 8 (qgM (zU t h rs))) r) : fnQ rs h (fun r1 h1 => r1 = r ∧ h1 = h) .ret t h :=
 qlD (tl := []) (by simp) hok ⟨rfl, rfl⟩ hv
theorem qe {rs : List RV} {h tl : List AObj} {t : List AV} {r : AV} (hok : j6 t (h ++ tl) rs) (hv : VLe (frz (fun k => decide (h.length ≤ k)) (h ++ tl) 8 (qgM (zU t (h ++ tl) rs))) r) : fnQ rs h (fun r1 h1 => r1 = r ∧ h1 = h) .ret t (h ++ tl) :=
 qlD rfl hok ⟨rfl, rfl⟩ hv
section
variable {fz : Nat → Bool} {h : List AObj} {n : Nat}
theorem frz_int {k : IntKind} {a : Int} : frz fz h (n + 1) (.int k a) = .int k a := rfl
theorem frz_bool {a : Bool} : frz fz h (n + 1) (.bool a) = .bool a := rfl
theorem frz_str {a : List UInt8} : frz fz h (n + 1) (.str a) = .str a := rfl
theorem frz_sl {m : Nat} {f : Nat → List AV} : frz fz h (n + 1) (.sl m f) = .sl m f := rfl
theorem frz_nl : frz fz h (n + 1) .nl = .nl := rfl
theorem frz_nilp : frz fz h (n + 1) .nilp = .nilp := rfl
theorem frz_nilfn : frz fz h (n + 1) .nilfn = .nilfn := rfl
theorem frz_ifc : frz fz h (n + 1) .ifc = .ifc := rfl
theorem frz_nilif : frz fz h (n + 1) .nilif = .nilif := rfl
theorem frz_undef : frz fz h (n + 1) .undef = .undef := rfl
theorem frz_ip {cs : List AV} : frz fz h (n + 1) (.ip cs) = .ip cs := rfl
theorem frz_agg {cs : List AV} : frz fz h (n + 1) (.agg cs) = .agg (cs.map (frz fz h n)) := rfl
theorem frz_tup {cs : List AV} : frz fz h (n + 1) (.tup cs) = .tup (cs.map (frz fz h n)) := rfl
theorem frz_fn {f : Fn} {a b : List AV} : frz fz h (n + 1) (.fn f a b) = .fn f (a.map (frz fz h n)) (b.map (frz fz h n)) := rfl
theorem frz_gd {g : Bool} {v : AV} : frz fz h (n + 1) (.gd g v) = .gd g (frz fz h n v) := rfl
end
attribute [go_sem] frz_int frz_bool frz_str frz_sl frz_nl frz_nilp frz_nilfn frz_ifc frz_nilif frz_undef frz_ip frz_agg frz_tup frz_fn frz_gd if_true if_false List.map_cons List.map_nil
attribute [go_sem] qig qmY qmZ qi1 qi2 qpO qpP
end AF
end
section
namespace AF
open Go
section
variable {h : List AObj} {l : List AObj} {n k v : Nat} {o : AObj} {ty : TypeId} {cs : List AV}
theorem getO_app0 : qK h.length (h ++ l) = l[0]? := by unfold qK; rw [List.getElem?_append_right (Nat.le_refl _), Nat.sub_self]
theorem getO_app : qK (h.length + n) (h ++ l) = l[n]? := by unfold qK; rw [List.getElem?_append_right (by omega), Nat.add_sub_cancel_left]
theorem setO_app0 : qN h.length (h ++ l) o = h ++ l.set 0 o := by unfold qN; rw [List.set_append_right _ _ (Nat.le_refl _), Nat.sub_self]
theorem setO_app : qN (h.length + n) (h ++ l) o = h ++ l.set n o := by unfold qN; rw [List.set_append_right _ _ (by omega), Nat.add_sub_cancel_left]
theorem verOf_mem : qz (some (.mem v ty cs)) = v := rfl
theorem verOf_emp : qz (some (.emp v)) = v := rfl
theorem tyOf_mem : qwe (some (.mem v ty cs)) = ty := rfl
theorem site_app : zc (h ++ l) (h.length + n) = zc l n := by unfold zc; rw [getO_app]; rfl
theorem site_app0 : zc (h ++ l) h.length = zc l 0 := by unfold zc; rw [getO_app0]; rfl
theorem site_0_mem {v : Nat} : zc (.mem v ty cs :: l) 0 = true := rfl
theorem site_0_emp {v : Nat} : zc (.emp v :: l) 0 = true := rfl
theorem site_s : zc (o :: l) (n + 1) = zc l n := rfl
theorem cellsOf_app : cellsOf (h ++ l) (h.length + n) v = cellsOf l n v := by unfold cellsOf; rw [getO_app]; rfl
theorem cellsOf_app0 : cellsOf (h ++ l) h.length v = cellsOf l 0 v := by unfold cellsOf; rw [getO_app0]; rfl
theorem cellsOf_0 {w : Nat} : cellsOf (.mem w ty cs :: l) 0 v = if w = v then some cs else none := rfl
theorem cellsOf_s : cellsOf (o :: l) (n + 1) v = cellsOf l n v := rfl
theorem liveS_app : zn (h ++ l) (h.length + n) v = zn l n v := by unfold zn; rw [getO_app]; rfl
theorem liveS_app0 : zn (h ++ l) h.length v = zn l 0 v := by unfold zn; rw [getO_app0]; rfl
theorem liveS_0_mem {w : Nat} : zn (.mem w ty cs :: l) 0 v = (w == v) := rfl
theorem liveS_0_emp {w : Nat} : zn (.emp w :: l) 0 v = (w == v) := rfl
theorem liveS_s : zn (o :: l) (n + 1) v = zn l n v := rfl
theorem tyOk_mem {t : TypeId} : qn7 (some (.mem v t cs)) ty = (t == ty) := rfl
theorem tyOk_emp : qn7 (some (.emp v)) ty = true := rfl
theorem b_add0 {b : Nat} : b + 0 = b := rfl
theorem appO_mem {t : TypeId} {ds : List AV} {c m : Nat} : qhU (some (.mem k t ds)) ty v c m cs = .mem (v + 1) ty (ds.take c ++ cs) := rfl
theorem appO_emp {c m : Nat} : qhU (some (.emp k)) ty v c m cs = if m = 0 then .emp (v + 1) else .mem (v + 1) ty cs := rfl
end
section
variable {b : Nat} {h : List AObj} {t : List AV} {d : Option Nat} {nx : List AV → List AObj → Prop}
theorem qtU {j sz : Nat} {ty : TypeId} : effE b h (.nilo j sz ty) [] t d nx = (zc h (b + j) = true ∧ nx (qY t d (.osl (b + j) (qz (qK (b + j) h) + 1) sz 0 0)) (qN (b + j) h (.emp (qz (qK (b + j) h) + 1)))) := (rfl)
theorem qrx {j : Nat} {ty : TypeId} {z : List AV} : effE b h (.alloc j ty z) [] t d nx = (zc h (b + j) = true ∧ nx (qY t d (.op (b + j) (qz (qK (b + j) h) + 1) 0)) (qN (b + j) h (.mem (qz (qK (b + j) h) + 1) ty z))) := (rfl)
theorem qww {j : Nat} {ty : TypeId} {v : AV} : effE b h (.box j ty) [v] t d nx = ((zc h (b + j) = true ∧ v.solid = true) ∧ nx (qY t d (.op (b + j) (qz (qK (b + j) h) + 1) 0)) (qN (b + j) h (.mem (qz (qK (b + j) h) + 1) ty v.cells))) := (rfl)
theorem qrA {n k ver off : Nat} {v : AV} : effE b h (.store n) [.op k ver off, v] t d nx = (((cellsOf h k ver).isSome = true ∧ v.solid = true ∧ v.cells.length = n ∧ off + n ≤ ((cellsOf h k ver).getD []).length) ∧
  nx (qY t d (.tup [])) (qN k h (.mem ver (qwe (qK k h)) (((cellsOf h k ver).getD []).take off ++ v.cells ++ ((cellsOf h k ver).getD []).drop (off + n))))) := (rfl)
theorem qrz {j sz : Nat} {ty : TypeId} {z : List AV} {bytes : Nat} {l c : Int} : effE b h (.mkslc j sz ty z bytes) [.int .i64 l, .int .i64 c] t d nx = ((zc h (b + j) = true ∧ z.length = sz ∧ 0 ≤ l ∧ l = c ∧ c * (bytes : Int) ≤ 140737488355328 ∧ c ≤ 140737488355328) ∧
   nx (qY t d (.osl (b + j) (qz (qK (b + j) h) + 1) sz 0 l.toNat)) (qN (b + j) h (.mem (qz (qK (b + j) h) + 1) ty (qM z l.toNat)))) := (rfl)
theorem qtT {j sz n : Nat} {ty : TypeId} {z : List AV} {ps : List (Nat × Nat)} {vs : List AV} : effE b h (.bslc j sz n ty z ps) vs t d nx = ((zc h (b + j) = true ∧ z.length = sz ∧ qab (n * sz) ps vs ∧ n ≤ 140737488355328) ∧
   nx (qY t d (.osl (b + j) (qz (qK (b + j) h) + 1) sz 0 n)) (qN (b + j) h (.mem (qz (qK (b + j) h) + 1) ty (qaj (qM z n) ps vs)))) := by
 cases vs <;> rfl
theorem qry {j sz : Nat} {ty : TypeId} {bytes : Nat} {y : AV} : effE b h (.app j sz ty bytes) [.nl, y] t d nx = (((qy h y).isSome = true ∧ zc h (b + j) = true ∧ ((qy h y).getD (0, [])).2.length = ((qy h y).getD (0, [])).1 * sz ∧
    (((qy h y).getD (0, [])).1 : Int) * bytes ≤ 140737488355328 ∧ (((qy h y).getD (0, [])).1 : Int) ≤ 140737488355328) ∧
   nx (qY t d (.osl (b + j) (qz (qK (b + j) h) + 1) sz 0 ((qy h y).getD (0, [])).1))
    (qN (b + j) h (if ((qy h y).getD (0, [])).1 = 0 then .emp (qz (qK (b + j) h) + 1) else .mem (qz (qK (b + j) h) + 1) ty ((qy h y).getD (0, [])).2))) := (rfl)
theorem qwv {j sz : Nat} {ty : TypeId} {bytes k ver sz' off m : Nat} {y : AV} : effE b h (.app j sz ty bytes) [.osl k ver sz' off m, y] t d nx = (((qy h y).isSome = true ∧ zn h k ver = true ∧ qn7 (qK k h) ty = true ∧ m * sz ≤ ((cellsOf h k ver).getD []).length ∧ qdL (.osl k ver sz' off m) y = true ∧ sz' = sz ∧ off = 0 ∧
    ((qy h y).getD (0, [])).2.length = ((qy h y).getD (0, [])).1 * sz ∧
    ((m + ((qy h y).getD (0, [])).1 : Nat) : Int) * bytes ≤ 140737488355328 ∧ ((m + ((qy h y).getD (0, [])).1 : Nat) : Int) ≤ 140737488355328) ∧
   nx (qY t d (.osl k (ver + 1) sz 0 (m + ((qy h y).getD (0, [])).1)))
    (qN k h (qhU (qK k h) ty ver (m * sz) ((qy h y).getD (0, [])).1 ((qy h y).getD (0, [])).2))) := (rfl)
theorem qoE {j : Nat} {ty : TypeId} {s : List UInt8} : effE b h (.apps j ty) [.nl, .str s] t d nx = ((zc h (b + j) = true ∧ (s.length : Int) ≤ 140737488355328) ∧
   nx (qY t d (.osl (b + j) (qz (qK (b + j) h) + 1) 1 0 s.length))
    (qN (b + j) h (if s.length = 0 then .emp (qz (qK (b + j) h) + 1) else .mem (qz (qK (b + j) h) + 1) ty (qQ s)))) := (rfl)
theorem qtR {j : Nat} {ty : TypeId} {s : List UInt8} {k ver sz' off m : Nat} : effE b h (.apps j ty) [.osl k ver sz' off m, .str s] t d nx = ((zn h k ver = true ∧ qn7 (qK k h) ty = true ∧ m ≤ ((cellsOf h k ver).getD []).length ∧ sz' = 1 ∧ off = 0 ∧ ((m + s.length : Nat) : Int) ≤ 140737488355328) ∧
   nx (qY t d (.osl k (ver + 1) 1 0 (m + s.length)))
    (qN k h (qhU (qK k h) ty ver m s.length (qQ s)))) := (rfl)
theorem qmN {n : Nat} {v : AV} : qY t (some n) v = zF n t v := rfl
theorem qmM {v : AV} : qY t none v = t := rfl
theorem qeF : qy h .nl = some (0, []) := rfl
theorem qeG {n : Nat} {f : Nat → List AV} : qy h (.sl n f) = some (n, (List.range n).flatMap f) := rfl
end
attribute [go_sem] getO_app0 getO_app setO_app0 setO_app verOf_mem verOf_emp tyOf_mem site_app site_app0 site_0_mem site_0_emp site_s cellsOf_app cellsOf_app0 cellsOf_0 cellsOf_s liveS_app liveS_app0 liveS_0_mem liveS_0_emp liveS_s tyOk_mem tyOk_emp b_add0 appO_mem appO_emp
attribute [go_sem] qtU qrx qww qrA qrz qtT qry qwv qoE qtR qmN qmM qeF qeG
attribute [go_sem] List.set_cons_zero List.set_cons_succ Option.isSome_some List.take_zero List.take_succ_cons List.take_nil List.drop_nil List.nil_append List.cons_append List.append_nil Nat.reduceAdd Nat.reduceMul Nat.reduceSub Nat.reduceLeDiff Nat.reduceEqDiff Nat.zero_add
end AF
end
section
namespace AF
open Go
theorem qj {P : Program} {f : Nat} {p : Bool} {vs : List AV} {d : Option Nat} {nx : Nx} {t : List AV} {h : List AObj} {r : AV} (hc : qs P f (strips vs) h r h) (hf : flags vs) (hn : nx (qY t d r) h) : qop P f p vs d nx t h :=
 ⟨hf, r, h, hc, fun _ => rfl, hn⟩
theorem qV {P : Program} {f : Nat} {vs : List AV} {d : Option Nat} {nx : Nx} {t : List AV} {h h' : List AObj} {r : AV} (hc : qs P f (strips vs) h r h') (hf : flags vs) (hn : nx (qY t d r) h') : qop P f false vs d nx t h :=
 ⟨hf, r, h', hc, by simp, hn⟩
theorem qk {P : Program} {f : Nat} {p g : Bool} {vs : List AV} {d : Option Nat} {nx : Nx} {t : List AV} {h : List AObj} {r : AV} (hc : g = true → flags vs ∧ qs P f (strips vs) h r h) (hn : nx (qY t d (.gd g r)) h) : qoq P f p g vs d nx t h :=
 ⟨r, h, fun e => ⟨(hc e).1, (hc e).2, fun _ => rfl⟩, fun _ => rfl, hn⟩
theorem qxk {t : List AV} {h : List AObj} : j6 t h [] := trivial
theorem qxl {t : List AV} {h : List AObj} {n : Nat} {l : List RV} (hl : j6 t h l) : j6 t h (.tmp n :: l) := ⟨trivial, hl⟩
theorem qrQ : flags [] := trivial
theorem qrP {a : AV} {l : List AV} (h : a.flag = true) (t : flags l) : flags (a :: l) := ⟨h, t⟩
theorem zt {P : Program} {f : Nat} {p : Bool} {vs : List AV} {d : Option Nat} {nx : Nx} {t : List AV} {h : List AObj} (r : AV) (hn : nx (qY t d (.gd false r)) h) : qoq P f p false vs d nx t h := by
 refine ⟨r, h, ?_, fun _ => rfl, hn⟩
 intro e; cases e
theorem qd {a b : Bool} (h : a = b) : VLe (.bool a) (.bool b) := h ▸ VLe.refl _
theorem ql {a b : List UInt8} (h : a = b) : VLe (.str a) (.str b) := h ▸ VLe.refl _
theorem qcM {n m : Nat} {f g : Nat → List AV} (e : n = m) (h : ∀ i, i < m → f i = g i) : VLe (.sl n f) (.sl m g) := by
 subst e
 intro w σ x hx
 have h1 := zC rfl hx
 cases h1 with
 | nilsl => exact .imm .nilsl
 | sl sz b off cap vals hn hm hb hlt hsz hc h1 hv =>
  refine .imm (.sl sz b off cap vals hn hm hb hlt (fun i hi => ?_) hc h1 (fun i j c hi hj => ?_))
  ·rw [← h i hi]; exact hsz i hi
  ·rw [← h i hi] at hj; exact hv i j c hi hj
theorem kA {f : Nat → List AV} : VLe .nl (.sl 0 f) := by
 intro w σ x hx
 have h1 := zC rfl hx
 cases h1 with
 | nl => exact .imm .nilsl
theorem zg {l m : List AV} (h : jR l m) : VLe (.tup l) (.tup m) := by
 intro w σ x hx
 obtain ⟨vs, rfl, hl, hv⟩ := qf9 hx
 refine .tup (by rw [hl, h.length]) (fun i c x hc hx => ?_)
 obtain ⟨a, ha, hle⟩ := h.get i c hc
 exact hle w σ x (hv i a x ha hx)
theorem qq3 {l m : List AV} (h : jR l m) : VLe (.agg l) (.agg m) := by
 intro w σ x hx
 obtain ⟨vs, rfl, hl, h1, hv⟩ := qcn hx
 refine .agg (by rw [hl, h.length]) h1 (fun i c x hc hx => ?_)
 obtain ⟨a, ha, hle⟩ := h.get i c hc
 exact hle w σ x (hv i a x ha hx)
theorem zN {a b : AV} {l m : List AV} (h : VLe a b) (h' : jR l m) : jR (a :: l) (b :: m) := ⟨h, h'⟩
def qqI (v : AV) (h : List AObj) (m : Option Nat) : Prop :=
 match v with
 | .op k ver off => okL h (.load m) [.op k ver off]
 | _ => False
theorem qi0 {n : Nat} {m : Option Nat} {l : List RV} {t : List AV} {h : List AObj} : j6 t h (.cell n m :: l) = (qqI (qW n t) h m ∧ j6 t h l) := rfl
theorem qgQ {n : Nat} {m : Option Nat} {l : List RV} {t : List AV} {h : List AObj} : zU t h (.cell n m :: l) = valL h (.load m) [qW n t] :: zU t h l := rfl
theorem qkR {k ver off : Nat} {h : List AObj} {m : Option Nat} : qqI (.op k ver off) h m = okL h (.load m) [.op k ver off] := rfl
attribute [go_sem] qi0 qgQ qkR
theorem qgj : zo [] [] [] = some true := rfl
theorem qgi {ks : List AK} {k : IntKind} {a c : Int} {l m : List AV} : zo (.int :: ks) (.int k a :: l) (.int k c :: m) = (zo ks l m).map (fun y => decide (a = c) && y) := by
 simp only [zo, kC, if_true]
 cases zo ks l m <;> rfl
theorem qeY {ks : List AK} {a c : Bool} {l m : List AV} : zo (.bool :: ks) (.bool a :: l) (.bool c :: m) = (zo ks l m).map (fun y => (a == c) && y) := by
 simp only [zo, kC]
 cases zo ks l m <;> rfl
theorem qgk {ks : List AK} {a c : List UInt8} {l m : List AV} : zo (.str :: ks) (.str a :: l) (.str c :: m) = (zo ks l m).map (fun y => decide (a = c) && y) := by
 simp only [zo, kC]
 cases zo ks l m <;> rfl
attribute [go_sem] qgj qgi qeY qgk Option.map_some Bool.true_bne Bool.false_bne Bool.bne_false
theorem qsg {a b : Bool} : (a || !a && b) = (a || b) := by cases a <;> simp
theorem qwi {a : Bool} : (a == false) = !a := by cases a <;> rfl
attribute [go_sem] qsg qwi Bool.not_eq_true' Bool.or_eq_true decide_eq_false_iff_not Bool.or_eq_false_iff Bool.not_eq_false' Bool.and_eq_false_imp Bool.true_or Bool.or_true Bool.false_or Bool.true_and Bool.not_true Bool.not_false decide_not Bool.not_not
end AF
end
section
namespace AF
open Go
theorem kV {rs : List RV} {h0 h' tl : List AObj} {K : AV → List AObj → Prop} {t : List AV} {r : AV} (hok : j6 t (h' ++ tl) rs) (hl : h'.length = h0.length) (hlow : ∀ o ∈ h', o ∈ h0 ∨ qc8 h0.length o) (hK : K r h')
  (hv : VLe (frz (fun k => decide (h0.length ≤ k)) (h' ++ tl) 8 (qgM (zU t (h' ++ tl) rs))) r) : fnQ rs h0 K .ret t (h' ++ tl) :=
 ⟨r, h', hK, hok, ⟨tl, rfl⟩, hl, hlow, VOut.of 8 hv⟩
theorem qax {rs : List RV} {h0 h' tl : List AObj} {K : AV → List AObj → Prop} {t : List AV} {r : AV} (hok : j6 t (h' ++ tl) rs) (hl : h'.length = h0.length) (hlow : ∀ o ∈ h', o ∈ h0 ∨ qc8 h0.length o) (hK : K r h')
  (hv : VLe (frz (fun k => decide (h0.length ≤ k)) (h' ++ tl) 8 (qgM (zU t (h' ++ tl) rs))) r) : fnQ rs h0 K .normal t (h' ++ tl) :=
 ⟨r, h', hK, hok, ⟨tl, rfl⟩, hl, hlow, VOut.of 8 hv⟩
section
variable {k v : Nat} {h l : List AObj} {o o' : AObj} {ty : TypeId} {cs : List AV}
theorem zO (hk : k < h.length) : qK k (h ++ l) = qK k h := by unfold qK; rw [List.getElem?_append_left hk]
theorem jG (hk : k < h.length) : qN k (h ++ l) o = qN k h o ++ l := by unfold qN; rw [List.set_append_left _ _ hk]
theorem zd : (qN k h o).length = h.length := by unfold qN; simp
theorem jF (hk : k < h.length) : qK k (qN k h o) = some o := by unfold qK qN; rw [List.getElem?_set_self hk]
theorem qfV : qN k (qN k h o) o' = qN k h o' := by unfold qN; rw [List.set_set]
theorem jz (e : qK k h = some (.mem v ty cs)) : cellsOf h k v = some cs := by unfold cellsOf; rw [e]; simp
theorem zS (e : qK k h = some o) : k < h.length := by unfold qK at e; exact (List.getElem?_eq_some_iff.1 e).1
theorem qbt {x : AObj} (hx : x ∈ qN k h o) : x ∈ h ∨ x = o := by
 unfold qN at hx
 exact List.mem_or_eq_of_mem_set hx
theorem qb7 (hk : k < h.length) : cellsOf (h ++ l) k v = cellsOf h k v := by unfold cellsOf; rw [zO hk]
end
section
variable {k v w n : Nat} {h l : List AObj} {o o' : AObj} {ty : TypeId} {cs : List AV}
theorem qhr (hk : k < h.length) : qK k (qN k h o ++ l) = some o := by rw [zO (by rw [zd]; exact hk), jF hk]
theorem qgp (hk : k < h.length) : cellsOf (qN k h (.mem w ty cs) ++ l) k v = if w = v then some cs else none := by unfold cellsOf; rw [qhr hk]
theorem qpT (hk : k < h.length) : qN k (qN k h o ++ l) o' = qN k h o' ++ l := by rw [jG (by rw [zd]; exact hk), qfV]
theorem getO_seta : qK (h.length + n) (qN k h o ++ l) = l[n]? := by
 have := @getO_app (qN k h o) l n
 rwa [zd] at this
theorem getO_seta0 : qK h.length (qN k h o ++ l) = l[0]? := by
 have := @getO_app0 (qN k h o) l
 rwa [zd] at this
theorem setO_seta : qN (h.length + n) (qN k h o ++ l) o' = qN k h o ++ l.set n o' := by
 have := @setO_app (qN k h o) l n o'
 rwa [zd] at this
theorem setO_seta0 : qN h.length (qN k h o ++ l) o' = qN k h o ++ l.set 0 o' := by
 have := @setO_app0 (qN k h o) l o'
 rwa [zd] at this
theorem cellsOf_seta : cellsOf (qN k h o ++ l) (h.length + n) v = cellsOf l n v := by unfold cellsOf; rw [getO_seta]; rfl
theorem cellsOf_seta0 : cellsOf (qN k h o ++ l) h.length v = cellsOf l 0 v := by unfold cellsOf; rw [getO_seta0]; rfl
theorem site_seta : zc (qN k h o ++ l) (h.length + n) = zc l n := by unfold zc; rw [getO_seta]; rfl
theorem site_seta0 : zc (qN k h o ++ l) h.length = zc l 0 := by unfold zc; rw [getO_seta0]; rfl
theorem liveS_seta : zn (qN k h o ++ l) (h.length + n) v = zn l n v := by unfold zn; rw [getO_seta]; rfl
theorem liveS_seta0 : zn (qN k h o ++ l) h.length v = zn l 0 v := by unfold zn; rw [getO_seta0]; rfl
theorem qd0 (hk : k < h.length) : zn (h ++ l) k v = zn h k v := by unfold zn; rw [zO hk]
end
attribute [go_sem] getO_seta getO_seta0 setO_seta setO_seta0 cellsOf_seta cellsOf_seta0 site_seta site_seta0 liveS_seta liveS_seta0
theorem qfU {k : Nat} {h : List AObj} {o : AObj} (e : qK k h = some o) : qN k h o = h := by
 unfold qK at e; unfold qN
 obtain ⟨h1, h2⟩ := List.getElem?_eq_some_iff.1 e
 rw [← h2]; exact List.set_getElem_self h1
theorem qpN : qgM [] = .tup [] := rfl
attribute [go_sem] qpN
end AF
end
section
namespace AF
open Go
def qyq (c : Option (List AV)) (g : AV → AV) (off : Nat) : AV :=
 match c with
 | some cs => .ip ((cs.drop off).map g)
 | none => .undef
def qn6 (o : Option AObj) (ver sz off len : Nat) (g : AV → AV) : AV :=
 match o with
 | some (.mem ve _ cs) => if ve = ver ∧ off + len * sz ≤ cs.length then .sl len (fun i => ((cs.drop (off + i * sz)).take sz).map g) else .undef
 | some (.emp ve) => if ve = ver then .nl else .undef
 | _ => .undef
section
variable {fz : Nat → Bool} {h : List AObj} {n k ver sz off len : Nat}
theorem rei_op : rei fz h (n + 1) (.op k ver off) = if fz k = true then qyq (cellsOf h k ver) (rei fz h n) off else .undef := rfl
theorem rei_osl : rei fz h (n + 1) (.osl k ver sz off len) = if fz k = true then qn6 (qK k h) ver sz off len (rei fz h n) else .undef := rfl
theorem frz_op : frz fz h (n + 1) (.op k ver off) = if fz k = true then rei fz h (n + 1) (.op k ver off) else .op k ver off := rfl
theorem frz_osl : frz fz h (n + 1) (.osl k ver sz off len) = if fz k = true then rei fz h (n + 1) (.osl k ver sz off len) else .osl k ver sz off len := rfl
theorem ipOf_some {cs : List AV} {g : AV → AV} : qyq (some cs) g off = .ip ((cs.drop off).map g) := rfl
theorem slOf_mem {cs : List AV} {g : AV → AV} {ve : Nat} {ty : TypeId} : qn6 (some (.mem ve ty cs)) ver sz off len g = if ve = ver ∧ off + len * sz ≤ cs.length then .sl len (fun i => ((cs.drop (off + i * sz)).take sz).map g) else .undef := rfl
theorem slOf_emp {g : AV → AV} {ve : Nat} : qn6 (some (.emp ve)) ver sz off len g = if ve = ver then .nl else .undef := rfl
theorem rei_int {k : IntKind} {a : Int} : rei fz h (n + 1) (.int k a) = .int k a := rfl
theorem rei_bool {a : Bool} : rei fz h (n + 1) (.bool a) = .bool a := rfl
theorem rei_str {a : List UInt8} : rei fz h (n + 1) (.str a) = .str a := rfl
theorem rei_sl {m : Nat} {f : Nat → List AV} : rei fz h (n + 1) (.sl m f) = .sl m f := rfl
theorem rei_nl : rei fz h (n + 1) .nl = .nl := rfl
theorem rei_ip {cs : List AV} : rei fz h (n + 1) (.ip cs) = .ip cs := rfl
theorem rei_agg {cs : List AV} : rei fz h (n + 1) (.agg cs) = .agg (cs.map (rei fz h n)) := rfl
theorem rei_tup {cs : List AV} : rei fz h (n + 1) (.tup cs) = .tup (cs.map (rei fz h n)) := rfl
theorem rei_fn {f : Fn} {a b : List AV} : rei fz h (n + 1) (.fn f a b) = .fn f (a.map (rei fz h n)) (b.map (rei fz h n)) := rfl
theorem rei_nilp : rei fz h (n + 1) .nilp = .nilp := rfl
theorem rei_undef : rei fz h (n + 1) .undef = .undef := rfl
end
attribute [go_sem] rei_op rei_osl frz_op frz_osl ipOf_some slOf_mem slOf_emp rei_int rei_bool rei_str rei_sl rei_nl rei_ip rei_agg rei_tup rei_fn rei_nilp rei_undef Nat.le_add_right Nat.le_refl Nat.mul_one Nat.one_mul
theorem qqx {P : Program} {b : Nat} {r : List RO} {K : Nx} {t : List AV} {h : List AObj} {d : Option Nat} {xs : List X} {j : Nat} {u : Bool} : opsA P b (⟨d, some (j, u), .callv, xs⟩ :: r) K t h =
  (qO (qW j t) = true ∧ (qG (qW j t) u = true → flags (evs t xs) ∧ qbM P (strips (evs t xs)) d (opsA P b r K) t h) ∧ (qG (qW j t) u = false → opsA P b r K (qY t d .undef) h)) := by simp only [opsA, stepO, zY, R.kd]
theorem qkO {P : Program} {k : Nat} {args : List AV} {d : Option Nat} {nx : Nx} {t : List AV} {h : List AObj} : qbM P (.yld k :: args) d nx t h = ((∃ s ts L, qK k h = some (.lp s ts L)) ∧ kf P k args h fun v h' => nx (qY t d v) h') := (rfl)
theorem qdE : zu (.un .not) [.undef] = .bool true := rfl
theorem qmB {g q : Bool} : jM (.bool false) (.gd g .undef) (.bool q) = .bool q := rfl
attribute [go_sem] qqx qkO qdE qmB true_implies false_implies Bool.false_eq_true Bool.true_eq_false
end AF
end
section
namespace AF
open Go
theorem qmq {P : Program} {b : Nat} {l : List RO} : ∀ {nx nx' : Nx} {t : List AV} {h : List AObj}, (∀ t h, nx t h → nx' t h) → opsA P b l nx t h → opsA P b l nx' t h := by
 induction l with
 | nil => intro nx nx' t h hn H; exact hn _ _ H
 | cons o l ih => intro nx nx' t h hn H; exact jW (fun t h H => ih hn H) H
theorem qeC {h0 : List AObj} {t : List AV} {Q Q' : Ex → Nx} {h : List AObj} (hq : ∀ e t h, Q e t h → Q' e t h) (H : qeB h0 t Q h) : qeB h0 t Q' h := by
 obtain ⟨hh, s, ts, L, h1, h2, h3, h4⟩ := H
 refine ⟨hh, s, ts, L, h1, h2, h3, ?_⟩
 cases s with
 | ready => exact hq _ _ _ h4
 | ret => exact hq _ _ _ h4
 | exit id => exact hq _ _ _ h4
 | busy => exact h4
theorem qav {P : Program} {b : Nat} {x : C} : ∀ {Q Q' : Ex → Nx} {t : List AV} {h : List AObj}, (∀ e t h, Q e t h → Q' e t h) → zl P b x Q t h → zl P b x Q' t h := by
 induction x with
 | skip => intro Q Q' t h hq H; exact hq _ _ _ H
 | ops l => intro Q Q' t h hq H; exact qmq (fun t h H => hq _ _ _ H) H
 | seq x y ihx ihy =>
  intro Q Q' t h hq H
  refine ihx (fun e t h H => ?_) H
  cases e with
  | normal => exact ihy hq H
  | exit id => exact hq _ _ _ H
  | ret => exact hq _ _ _ H
 | cond c x y ihx ihy =>
  intro Q Q' t h hq H
  simp only [zl, qgs] at *
  split at H
  ·exact ⟨fun e => ihx hq (H.1 e), fun e => ihy hq (H.2 e)⟩
  ·exact ⟨ihx hq H.1, ihy hq H.2⟩
  ·exact H.elim
 | block id x ih =>
  intro Q Q' t h hq H
  refine ih (fun e t h H => ?_) H
  cases e with
  | normal => exact hq _ _ _ H
  | ret => exact hq _ _ _ H
  | exit i =>
   simp only [Ex.inBlock] at *
   split
   ·rename_i e; rw [if_pos e] at H; exact hq _ _ _ H
   ·rename_i e; rw [if_neg e] at H; exact hq _ _ _ H
 | loop x ih =>
  intro Q Q' t h hq H
  obtain ⟨I, h1, h2⟩ := H
  refine ⟨I, h1, fun n t' h' hi => ih (fun e t h H => ?_) (h2 n t' h' hi)⟩
  cases e with
  | normal => exact H
  | exit id => exact hq _ _ _ H
  | ret => exact hq _ _ _ H
 | range u ps x y ihx ihy =>
  intro Q Q' t h hq H L hy
  have := H L hy
  split at this
  ·exact this.le (jR.refl _) (fun v h' hr => ⟨v, VLe.refl _, qeC hq hr⟩)
  ·exact this
 | exit id => intro Q Q' t h hq H; exact hq _ _ _ H
 | ret => intro Q Q' t h hq H; exact hq _ _ _ H
 | wk =>
  intro Q Q' t h hq H
  obtain ⟨t', h', h1, h2⟩ := H
  exact ⟨t', h', h1, hq _ _ _ h2⟩
 | draw d =>
  intro Q Q' t h hq H
  obtain ⟨M, h1, h2⟩ := H
  exact ⟨M, h1, fun t' h' hm => hq _ _ _ (h2 t' h' hm)⟩
 | bad => intro Q Q' t h hq H; exact H
def qsE (o : Option AObj) (ver sz off n : Nat) : Option (Nat × List AV) :=
 match o with
 | some (.mem v _ cs) => if v = ver ∧ off + n * sz ≤ cs.length then some (n, (cs.drop off).take (n * sz)) else none
 | some (.emp v) => if v = ver ∧ n = 0 then some (0, []) else none
 | _ => none
theorem qaV {h : List AObj} {k ver sz off n : Nat} : qy h (.osl k ver sz off n) = qsE (qK k h) ver sz off n := rfl
theorem qfZ {v ver sz off n : Nat} {ty : TypeId} {cs : List AV} : qsE (some (.mem v ty cs)) ver sz off n = if v = ver ∧ off + n * sz ≤ cs.length then some (n, (cs.drop off).take (n * sz)) else none := rfl
theorem qm6 {v ver sz off n : Nat} : qsE (some (.emp v)) ver sz off n = if v = ver ∧ n = 0 then some (0, []) else none := rfl
theorem qhT {k v z p n k' v' z' p' n' : Nat} : qdL (.osl k v z p n) (.osl k' v' z' p' n') = (k != k') := rfl
theorem qjR {k v z p n m : Nat} {f : Nat → List AV} : qdL (.osl k v z p n) (.sl m f) = true := rfl
theorem qjQ {k v z p n : Nat} : qdL (.osl k v z p n) .nl = true := rfl
attribute [go_sem] Int.toNat_zero decide_true decide_false beq_self_eq_true
attribute [go_sem] qaV qfZ qm6 qhT qjR qjQ
theorem qg7 {g : List AObj} {z : Nat} {i : AV} : valL g (.idxA z) [.nl, i] = .undef := rfl
theorem qdo {g : List AObj} {n : Option Nat} : valL g (.load n) [.undef] = .undef := rfl
theorem qdC {g : List AObj} {n : Nat} : valL g (.fldA n) [.undef] = .undef := rfl
theorem qhZ {op : BinOp} {y : AV} : qbb op .undef y = .undef := rfl
theorem qmH {p g : Bool} : jM (.bool true) (.bool p) (.gd g .undef) = .bool p := rfl
theorem qmC {p g : Bool} : jM (.bool false) (.gd g .undef) (.bool p) = .bool p := rfl
attribute [go_sem] qg7 qdo qdC qhZ qmH qmC
theorem qrl {P : Program} {b : Nat} {u : X} {ps : List Nat} {x y : C} {Q : Ex → Nx} {t : List AV} {h : List AObj} : zl P b (.range u ps x y) Q t h = qfM P (ev t u) ps (zl P b x) (zl P b y) Q t h := (rfl)
attribute [go_sem] qrl
end AF
end
section
namespace AF
open Go
theorem HR.move {w : World} {σ : List OB} {h : List AObj} (H : HR w σ h) {k j vj : Nat} {ty : TypeId} {cs : List AV} (hj : qK j h = some (.mem vj ty cs)) (hk : zc h k = true) (hne : k ≠ j) :
  ∃ σ', HR w σ' (qN k (qN j h (.emp (vj + 1))) (.mem (qz (qK k h) + 1) ty cs)) ∧ Ext w σ w σ' ∧
   ∀ sz off len x, VR w σ (.osl j vj sz off len) x → VR w σ' (.osl k (qz (qK k h) + 1) sz off len) x := by
 obtain ⟨ok, hok, hver⟩ := zQ H hk
 have hjl : j < σ.length := by rw [H.len]; exact zS hj
 have hkl : k < σ.length := (List.getElem?_eq_some_iff.1 hok).1
 obtain ⟨oj, hoj⟩ : ∃ oj, σ[j]? = some oj := ⟨_, List.getElem?_eq_getElem hjl⟩
 have hobj := H.obj j _ oj hj hoj
 obtain ⟨m1, m2, b, arr, m3, m4, m5, m6, m7, m8⟩ := hobj
 rw [hver]
 let oj' : OB := { oj with blk := none, ver := oj.ver + 1 }
 let ok' : OB := { oj with ver := ok.ver + 1 }
 let σ' := (σ.set j oj').set k ok'
 have gk : σ'[k]? = some ok' := by simp [σ', hkl]
 have gj : σ'[j]? = some oj' := by simp only [σ']; rw [List.getElem?_set_ne hne]; simp [hjl]
 have go : ∀ i, i ≠ k → i ≠ j → σ'[i]? = σ[i]? := by
  intro i h1 h2
  simp only [σ']
  rw [List.getElem?_set_ne (fun e => h1 e.symm), List.getElem?_set_ne (fun e => h2 e.symm)]
 have blk : ∀ (i : Nat) (o : OB) (b : Nat), σ'[i]? = some o → o.blk = some b → (i = k ∧ oj.blk = some b) ∨ (i ≠ k ∧ i ≠ j ∧ σ[i]? = some o) := by
  intro i o b h1 h2
  by_cases e1 : i = k
  ·subst e1; rw [gk] at h1; cases h1; exact .inl ⟨rfl, h2⟩
  ·by_cases e2 : i = j
   ·subst e2; rw [gj] at h1; cases h1; cases h2
   ·rw [go i e1 e2] at h1; exact .inr ⟨e1, e2, h1⟩
 have hext : Ext w σ w σ' := by
  refine ⟨rfl, rfl, rfl, Nat.le_refl _, fun _ _ _ => rfl, ?_, ?_, fun b r h => ⟨r, h⟩⟩
  ·rintro b ⟨i, o, h1, h2⟩
   rcases blk i o b h1 h2 with ⟨_, h3⟩ | ⟨_, _, h3⟩
   ·exact .inl ⟨j, oj, hoj, h3⟩
   ·exact .inl ⟨i, o, h3, h2⟩
  ·intro i o h1
   by_cases e1 : i = k
   ·subst e1; rw [hok] at h1; cases h1; exact ⟨ok', gk, by simp [ok'], by simp [ok']⟩
   ·by_cases e2 : i = j
    ·subst e2; rw [hoj] at h1; cases h1; exact ⟨oj', gj, by simp [oj'], by simp [oj']⟩
    ·exact ⟨o, by rw [go i e1 e2]; exact h1, Nat.le_refl _, fun _ => rfl⟩
 refine ⟨σ', ⟨by simp [σ', qN, H.len], ?_, ?_, ?_⟩, hext, ?_⟩
 ·intro i i' o o' b h1 h2 h3 h4
  rcases blk i o b h1 h3 with ⟨rfl, g1⟩ | ⟨g0, g1, g2⟩ <;> rcases blk i' o' b h2 h4 with ⟨rfl, g1'⟩ | ⟨g0', g1', g2'⟩
  ·rfl
  ·exact absurd (H.inj i' j o' oj b g2' hoj h4 g1) g1'
  ·exact absurd (H.inj i j o oj b g2 hoj h3 g1') g1
  ·exact H.inj i i' o o' b g2 g2' h3 h4
 ·intro i o b h1 h2
  rcases blk i o b h1 h2 with ⟨_, g1⟩ | ⟨_, _, g2⟩
  ·exact H.lt j oj b hoj g1
  ·exact H.lt i o b g2 h2
 ·intro i a o ha ho
  by_cases e1 : i = k
  ·subst e1
   have hkh : i < (qN j h (.emp (vj + 1))).length := by rw [zd, ← H.len]; exact hkl
   have := jF (o := .mem (ok.ver + 1) ty cs) hkh
   unfold qK at this
   rw [this] at ha
   cases ha
   rw [gk] at ho
   cases ho
   exact ⟨rfl, m2, b, arr, m3, m4, m5, m6, m7, fun i c x hc hx => (m8 i c x hc hx).ext hext⟩
  ·by_cases e2 : i = j
   ·subst e2
    have hjh : i < h.length := by rw [← H.len]; exact hjl
    simp only [qN] at ha
    rw [List.getElem?_set_ne hne, List.getElem?_set_self hjh] at ha
    cases ha
    rw [gj] at ho
    cases ho
    exact ⟨by simp [oj', m1], rfl⟩
   ·rw [go i e1 e2] at ho
    simp only [qN] at ha
    rw [List.getElem?_set_ne (fun e => e1 e.symm), List.getElem?_set_ne (fun e => e2 e.symm)] at ha
    exact (H.obj i a o ha ho).ext hext (fun _ _ => rfl)
 ·intro sz off len x hx
  cases hx with
  | imm h => cases h
  | osl o ho hs hle hh =>
   rw [hoj] at ho
   cases ho
   refine .osl ok' gk hs (Nat.le_refl _) (fun _ => ?_)
   exact hh m1
def fnM (rs : List RV) (h0 : List AObj) (k : Nat) (K : AV → List AObj → Prop) : Ex → Nx
 | .exit _, _, _ => False
 | _, t, hh => ∃ (j vj sz off len : Nat) (ty : TypeId) (cs : List AV) (tl : List AObj), j6 t hh rs ∧ qgM (zU t hh rs) = .osl j vj sz off len ∧ hh = h0 ++ tl ∧ h0.length ≤ j ∧ qK j hh = some (.mem vj ty cs) ∧
   (∀ c ∈ cs, zX h0.length c = true) ∧ zc h0 k = true ∧ K (.osl k (qz (qK k h0) + 1) sz off len) (qN k h0 (.mem (qz (qK k h0) + 1) ty cs))
theorem qhS {P : Program} {f nt ns : Nat} {rs : List RV} {c : C} (hf : zf P f nt ns rs c) {args : List AV} {h : List AObj} {K : AV → List AObj → Prop} (k : Nat) (ha : args.length ≤ nt)
  (hw : zl P h.length c (fnM rs h k K) (args ++ List.replicate (nt - args.length) .undef) (h ++ List.replicate ns (.emp 0))) : jH P f args h K := by
 obtain ⟨fn, body, js, imp, wks, h1, h2, h3, rfl, rfl, h6, h7⟩ := hf
 refine ⟨by simp [okF, h1, h2, h3], fun w σ xs H hv => ?_⟩
 refine callsIn_of_wp_marks h1 h2 trivial ?_
 obtain ⟨p1, p2⟩ := H.pushN js.length
 have hsr : SR w.heap.size w (σ ++ List.replicate js.length ⟨none, 0, 0, 0⟩) (args ++ List.replicate (fn.ntmps - args.length) .undef) (h ++ List.replicate js.length (.emp 0))
   { tmps := xs.toArray ++ Array.replicate (fn.ntmps - xs.toArray.size) Go.undef, defers := [] } := by
  refine ⟨p1, by simp [hv.1], fun i c x hc hx => ?_, ⟨[], rfl, .nil, Nat.le_refl _, by simp⟩⟩
  rw [List.getElem?_append] at hc
  simp only [Array.getElem?_append] at hx
  have hz : xs.toArray.size = args.length := by simp [hv.1]
  split at hc
  ·rename_i hi
   rw [if_pos (by omega)] at hx
   exact (hv.2 i c x hc (by simpa using hx)).ext p2
  ·rw [List.getElem?_replicate] at hc
   split at hc
   ·cases hc; exact .imm .undef
   ·cases hc
 refine wpIn_mono (qhm (b := h.length) h7 w.heap.size none _ w _ _ _ _ hw (by simp) hsr) ?_
 rintro e a' w' ⟨z, σ', t', hh, he, g1, g2, g3⟩
 have key : (∃ (j vj sz off len : Nat) (ty : TypeId) (cs : List AV) (tl : List AObj), j6 t' hh rs ∧ qgM (zU t' hh rs) = .osl j vj sz off len ∧ hh = h ++ tl ∧ h.length ≤ j ∧ qK j hh = some (.mem vj ty cs) ∧
   (∀ c ∈ cs, zX h.length c = true) ∧ zc h k = true ∧ K (.osl k (qz (qK k h) + 1) sz off len) (qN k h (.mem (qz (qK k h) + 1) ty cs))) →
   LeavesInM Fence.wide 0 P fn a'.tmps (fun e w' => ∃ v σ' r h', K r h' ∧ e = .returned v ∧ HR w' σ' h' ∧ VR w' σ' r v ∧ Ext w σ w' σ') a'.defers .returning w' := by
  rintro ⟨j, vj, sz, off, len, ty, cs, tl, k1, k2, rfl, k3, k4, k5, k6, hK⟩
  obtain ⟨ms, d1, d2, d3, d4⟩ := g1.df
  rw [d1]
  refine qci (N := w.heap.size) ms w' d2 (fun r hr => ⟨(d4 r hr).1, (d4 r hr).2.2.2⟩) (fun w1 e1 => ?_)
  have H1 := g1.hr.dt e1
  obtain ⟨v, v1, v2⟩ := qd7 (P := P) H1 g1.sz (fun i c x hc hx => (g1.tm i c x hc hx).dt e1) h6 k1
  rw [k2] at v2
  have ee : Ext w σ w1 σ' := (p2.trans g2).dt e1
  have hkl : k < h.length := by
   have := k6
   unfold zc at this
   split at this
   ·rename_i hx; exact zS hx
   ·rename_i hx; exact zS hx
   ·rename_i hx; exact zS hx
   ·cases this
  have hkt : zc (h ++ tl) k = true := by unfold zc at k6 ⊢; rw [zO hkl]; exact k6
  obtain ⟨σ2, q1, q2, q3⟩ := H1.move k4 hkt (by omega)
  have q3' := q3 _ _ _ _ v2
  rw [zO hkl] at q1 q3'
  have eh : qN k (qN j (h ++ tl) (.emp (vj + 1))) (.mem (qz (qK k h) + 1) ty cs) = qN k h (.mem (qz (qK k h) + 1) ty cs) ++ qN (j - h.length) tl (.emp (vj + 1)) := by
   unfold qN
   rw [List.set_append_right _ _ k3, List.set_append_left _ _ hkl]
  rw [eh] at q1
  obtain ⟨m1, m2⟩ := HR.trunc H (ee.trans q2) q1 zd (fun o ho => by
   rcases qbt ho with h1 | rfl
   ·exact .inl h1
   ·exact .inr k5)
  refine ⟨v, v1, v, _, _, _, hK, rfl, m1, ?_, m2⟩
  cases q3' with
  | imm h => cases h
  | osl o ho hs hle hh =>
   refine .osl o ?_ hs hle hh
   rw [List.getElem?_take, if_pos hkl]
   exact ho
 cases e with
 | normal => cases he; exact key g3
 | ret => cases he; exact key g3
 | exit id => cases he; exact g3.elim
 | goto l => cases he
 | panic c => cases he
 | outgrown => cases he
theorem qgg {P : Program} {f nt ns : Nat} {rs : List RV} {c : C} (hf : zf P f nt ns rs c) {args : List AV} {h : List AObj} {r : AV} {h' : List AObj} (k : Nat) (ha : args.length ≤ nt)
  (hw : zl P h.length c (fnM rs h k fun r1 h1 => r1 = r ∧ h1 = h') (args ++ List.replicate (nt - args.length) .undef) (h ++ List.replicate ns (.emp 0))) : qs P f args h r h' := (qhS hf k ha hw).calls
end AF
end
section
namespace AF
open Go
section
variable {P : Program} {b : Nat} {r : List RO} {K : Nx} {t : List AV} {h : List AObj} {d : Option Nat} {xs : List X} {j : Nat} {u : Bool}
theorem wg_bslc {i z n : Nat} {ty : TypeId} {zs : List AV} {ps : List (Nat × Nat)} : opsA P b (⟨d, some (j, u), .bslc i z n ty zs ps, xs⟩ :: r) K t h =
  (qO (qW j t) = true ∧ (qG (qW j t) u = true → flags (evs t xs) ∧ effE b h (.bslc i z n ty zs ps) (strips (evs t xs)) t d (opsA P b r K)) ∧ (qG (qW j t) u = false → opsA P b r K (qY t d .undef) h)) := by simp only [opsA, stepO, zY, R.kd]
theorem wg_box {i : Nat} {ty : TypeId} : opsA P b (⟨d, some (j, u), .box i ty, xs⟩ :: r) K t h =
  (qO (qW j t) = true ∧ (qG (qW j t) u = true → flags (evs t xs) ∧ effE b h (.box i ty) (strips (evs t xs)) t d (opsA P b r K)) ∧ (qG (qW j t) u = false → opsA P b r K (qY t d .undef) h)) := by simp only [opsA, stepO, zY, R.kd]
theorem wg_app {i z m : Nat} {ty : TypeId} : opsA P b (⟨d, some (j, u), .app i z ty m, xs⟩ :: r) K t h =
  (qO (qW j t) = true ∧ (qG (qW j t) u = true → flags (evs t xs) ∧ effE b h (.app i z ty m) (strips (evs t xs)) t d (opsA P b r K)) ∧ (qG (qW j t) u = false → opsA P b r K (qY t d .undef) h)) := by simp only [opsA, stepO, zY, R.kd]
end
attribute [go_sem] wg_bslc wg_box wg_app
end AF
end
section
namespace AF
open Go
def qkS (o : Option AObj) (ver : Nat) : Option (List AV) :=
 match o with
 | some (.mem v _ cs) => if v = ver then some cs else none
 | _ => none
def qlX (o : Option AObj) (ver : Nat) : Bool :=
 match o with
 | some (.mem v _ _) => v == ver
 | some (.emp v) => v == ver
 | _ => false
section
variable {h l : List AObj} {i j k ver v : Nat} {o o' o'' : AObj} {ty : TypeId} {cs : List AV}
theorem kP : cellsOf h k ver = qkS (qK k h) ver := rfl
theorem qbq : zn h k ver = qlX (qK k h) ver := rfl
theorem kO : qkS (some (.mem v ty cs)) ver = if v = ver then some cs else none := rfl
theorem qaB : qlX (some (.mem v ty cs)) ver = (v == ver) := rfl
theorem qaA : qlX (some (.emp v)) ver = (v == ver) := rfl
theorem km (hne : k ≠ j) : qK k (qN j h o) = qK k h := by unfold qK qN; rw [List.getElem?_set_ne (fun e => hne e.symm)]
theorem qeo (hk : k < h.length) : qK k (qN j h o ++ l) = qK k (qN j h o) := zO (by rw [zd]; exact hk)
theorem qep (hk : k < h.length) : qK k (qN i (qN j h o) o' ++ l) = qK k (qN i (qN j h o) o') := zO (by rw [zd, zd]; exact hk)
theorem qeD (hk : k < h.length) : qN k (qN j h o ++ l) o' = qN k (qN j h o) o' ++ l := jG (by rw [zd]; exact hk)
theorem qeE (hk : k < h.length) : qN k (qN i (qN j h o) o' ++ l) o'' = qN k (qN i (qN j h o) o') o'' ++ l := jG (by rw [zd, zd]; exact hk)
theorem qm1 (hne : i ≠ j) : qN i (qN j h o) o' = qN j (qN i h o') o := by unfold qN; rw [List.set_comm _ _ (fun e => hne e.symm)]
end
end AF
end
section
namespace AF
open Go
theorem qbs {α β : Type} {f : α → Option β} : ∀ {l : List α} {ys : List β}, l.mapM f = some ys → ys.length = l.length ∧ ∀ (i : Nat) x y, l[i]? = some x → ys[i]? = some y → f x = some y := by
 intro l
 induction l with
 | nil => intro ys h; simp at h; subst h; simp
 | cons a l ih =>
  intro ys h
  rw [List.mapM_cons] at h
  cases ha : f a with
  | none => simp [ha] at h
  | some b =>
   cases hl : l.mapM f with
   | none => simp [ha, hl] at h
   | some zs =>
    simp [ha, hl] at h
    subst h
    obtain ⟨h1, h2⟩ := ih hl
    refine ⟨by simp [h1], fun i x y hx hy => ?_⟩
    cases i with
    | zero => simp at hx hy; subst hx hy; exact ha
    | succ i => exact h2 i x y (by simpa using hx) (by simpa using hy)
inductive FK where
 | bool
 | int (k : IntKind)
 | str
 deriving DecidableEq
section
variable {H : Type} {enc : TypeId × Value → H} {P : Program} {w : World} {sp : Nat → Bool} {held : Bool} {ow : Nat → Prop}
end
theorem HR.nil (w : World) : HR w [] [] := ⟨rfl, by simp, by simp, by simp⟩
theorem qez (b : Nat) : ¬ own [] b := fun ⟨k, o, h, _⟩ => by simp at h
theorem Ext.below {w w' : World} {σ' : List OB} (h : Ext w [] w' σ') : Go.RowKit.Below w.heap.size w w' := ⟨h.os, h.tape, h.output, h.size, fun k hk => h.keep k hk (qez k)⟩
theorem VRs.nil' {w : World} {σ : List OB} : VRs w σ [] [] := ⟨rfl, by simp⟩
theorem VRs.cons' {w : World} {σ : List OB} {a : AV} {v : Value} {as : List AV} {vs : List Value} (h : VR w σ a v) (h' : VRs w σ as vs) : VRs w σ (a :: as) (v :: vs) := by
 refine ⟨by simp [h'.1], fun i c x hc hx => ?_⟩
 cases i with
 | zero => simp at hc hx; subst hc hx; exact h
 | succ i => exact h'.2 i c x (by simpa using hc) (by simpa using hx)
end AF
end
section
namespace AF
open Go Go.ChangeShapes Go.WideShapes Go.ChangeAt Go.RowKit
section
variable {H : Type} {enc : TypeId × Value → H} {P : Program} {W W' : World}
theorem qf7 (hl : laidOutB P = true) (hb : Below W.heap.size W W') : ∀ {ts : List TypeId} {vs : List Value} {ds : List (DataW H)} {ps : List MemPlace}, (∀ t ∈ ts, P.readableRec t = true ∧ t < P.types.size) →
  (∀ x ∈ ps, x.block < W.heap.size) → DataW.TrodAll enc P W 0 (fun _ => true) true ts vs ds ps → DataW.TrodAll enc P W' 0 (fun b => decide (b < W.heap.size)) true ts vs ds ps := by
 intro ts
 induction ts with
 | nil =>
  intro vs ds ps _ _ h
  match vs, ds, h with
  | [], [], h => exact h
 | cons t ts ih =>
  intro vs ds ps ht hp h
  match vs, ds, h with
  | v :: vs, d :: ds, ⟨p, q, h1, h2, e⟩ =>
   subst e
   refine ⟨p, q, ?_, ?_, rfl⟩
   ·exact Below.trod hl (ht t (by simp)).1 (ht t (by simp)).2 h1 hb (fun x hx => hp x (by simp [hx]))
   ·exact ih (fun u hu => ht u (by simp [hu])) (fun x hx => hp x (by simp [hx])) h2
theorem qpd {f : Func} {s : ChangeSpec} {args : Array Value} {ds : List (DataW H)} {before : List MemPlace} {tb : TypeId} (hl : laidOutB P = true) (hv : s.vars = []) (hfn : s.fn H ds = { results := [.lit (.bool true)], args := ds })
  (hrt : f.resultTypes = #[tb]) (htb : P.underlying tb = some .bool) (hro : ∀ t ∈ f.params.toList, P.readableRec t = true ∧ t < P.types.size)
  (hW : DataW.Whole enc P f.params.toList s.vars false W args.toList ds [] before) (hA : DataW.TrodAll enc P W 0 (fun _ => true) true f.params.toList args.toList ds before) (hb : Below W.heap.size W W') :
  s.post enc P f false true false false W args (.bool true) W' := by
 have hlt : ∀ x ∈ before, x.block < W.heap.size := fun x hx => hW.lt x hx
 refine ⟨ds, [], before, [], before, [], hW, ?_, ?_, ?_, ?_, fun h => by cases h⟩
 ·rw [List.append_nil, hfn, hrt]
  exact ⟨[], [], shut_bool htb true, rfl, rfl⟩
 ·rw [List.append_nil, hfn]
  exact qf7 hl hb hro hlt hA
 ·rw [List.append_nil, hfn, hv]
  rfl
 ·exact World.keptBut_mono (fun x hx => ⟨hx, .inr (.inl hx)⟩) (hb.frame (· ∈ before))
theorem qpe {f : Func} {fid : FuncId} {s : ChangeSpec} {args : Array Value} {ds gs : List (DataW H)} {before : List MemPlace} {tb : TypeId} (hl : laidOutB P = true) (hv : s.vars = []) (hfn : ∀ ds', ds'.length = f.params.size → s.fn H ds' = { results := [.lit (.bool true)], args := ds' })
  (hrt : f.resultTypes = #[tb]) (htb : P.underlying tb = some .bool) (hro : ∀ t ∈ f.params.toList, P.readableRec t = true ∧ t < P.types.size)
  (hW : DataW.Whole enc P f.params.toList s.vars false W args.toList ds gs before)
  (hc : ∀ p, DataW.TrodAll enc P W 0 (fun _ => true) true f.params.toList args.toList ds p → ds.length = f.params.size ∧ ∃ as : List AV, VRs W [] as args.toList ∧ qs P fid as [] (.bool true) []) :
  Calls P fid args W fun e W' => ∃ v, e = .returned v ∧ s.post enc P f false true false false W args v W' := by
 have hW' := hW
 obtain ⟨p, q, hA, hV, rfl, hz, _⟩ := hW
 rw [hv] at hV
 obtain ⟨rfl, rfl⟩ := trodVars_none hV
 obtain ⟨hlen, as, h1, h2⟩ := hc p hA
 rw [List.append_nil] at hW'
 have h3 := h2.2 W [] args.toList (HR.nil W) h1
 rw [Array.toArray_toList] at h3
 refine (callsIn_wide.1 h3).mono ?_
 rintro e W' ⟨v, σ', rfl, g1, g2, g3⟩
 have hσ : σ' = [] := by have := g1.len; simpa using this
 subst hσ
 obtain rfl := jj g2
 exact ⟨_, rfl, qpd hl hv (hfn ds hlen) hrt htb hro hW' hA g3.below⟩
end
end AF
end
section
namespace AF
open Go
def qqi (P : Program) : Nat → List Field → Option Nat
 | n, [] => some n
 | n, f :: r => if f.offset = n then qqi P (n + P.cellsOf f.type) r else none
def qan (P : Program) : Nat → TypeId → Bool
 | 0, _ => false
 | d + 1, t => match P.underlying t with
  | some .bool => decide (P.cellsOf t = 1)
  | some (.int _) => decide (P.cellsOf t = 1)
  | some .string => decide (P.cellsOf t = 1)
  | some (.slice e) => decide (P.cellsOf t = 1) && (decide (0 < P.cellsOf e) && qan P d e)
  | some (.struct fs) => decide (qqi P 0 fs.toList = some (P.cellsOf t)) && fs.toList.all fun f => qan P d f.type
  | _ => false
def jy (P : Program) : Nat → TypeId → List AV → Prop
 | 0, _, _ => False
 | d + 1, t, as => match P.underlying t with
  | some .bool => ∃ b, as = [.bool b]
  | some (.int k) => ∃ n, as = [.int k n] ∧ (Lit.int k n).wf = true
  | some .string => ∃ s : List UInt8, as = [.str s] ∧ s.length ≤ maxLen
  | some (.slice e) => ∃ (n : Nat) (f : Nat → List AV), as = [.sl n f] ∧ n ≤ maxLen ∧ ∀ i, i < n → jy P d e (f i)
  | some (.struct fs) => as.length = P.cellsOf t ∧ ∀ f ∈ fs.toList, jy P d f.type ((as.drop f.offset).take (P.cellsOf f.type))
  | _ => False
section
variable {H : Type} {enc : TypeId × Value → H} {P : Program} {w : World} {held : Bool} {ow : Nat → Prop}
structure qag (w : World) (ow : Nat → Prop) (as : List AV) (cs : List Value) : Prop where
 len : cs.length = as.length
 one : ∀ (i : Nat) v, cs[i]? = some v → v.oneCell' = true
 vi : ∀ (i : Nat) c v, as[i]? = some c → cs[i]? = some v → VI w ow c v
theorem qag.single {a : AV} {v : Value} (h1 : v.oneCell' = true) (h2 : VI w ow a v) : qag w ow [a] [v] := by
 refine ⟨rfl, fun i x hx => ?_, fun i c x hc hx => ?_⟩
 ·cases i <;> simp at hx; subst hx; exact h1
 ·cases i <;> simp at hx hc; subst hx hc; exact h2
theorem qag.append {as bs : List AV} {cs ds : List Value} (h : qag w ow as cs) (h' : qag w ow bs ds) : qag w ow (as ++ bs) (cs ++ ds) := by
 have hl := h.len
 refine ⟨by simp [hl, h'.len], fun i v hv => ?_, fun i c v hc hv => ?_⟩
 ·rw [List.getElem?_append] at hv
  split at hv
  ·exact h.one i v hv
  ·exact h'.one _ v hv
 ·rw [List.getElem?_append] at hc hv
  split at hv
  ·rename_i hi
   rw [if_pos (by omega)] at hc
   exact h.vi i c v hc hv
  ·rename_i hi
   rw [if_neg (by omega), ← hl] at hc
   exact h'.vi _ c v hc hv
theorem qgv {d fuel : Nat} (ih : ∀ (t : TypeId) (cs : List Value) (dd : DataW H) (ps : List MemPlace), qan P d t = true → DataW.trod enc P w 0 (fun _ => true) held fuel t cs = some (dd, ps) → ∃ as, jy P d t as ∧ as.length = P.cellsOf t ∧ qag w ow as cs) {cs : List Value} :
  ∀ (fs : List Field) (n m : Nat) (xs : List (DataW H × List MemPlace)), qqi P n fs = some m → (∀ f ∈ fs, qan P d f.type = true) → m ≤ cs.length →
   fs.mapM (fun f => DataW.trod enc P w 0 (fun _ => true) held fuel f.type ((cs.drop f.offset).take (P.cellsOf f.type))) = some xs →
   n ≤ m ∧ ∃ as, (∀ f ∈ fs, n ≤ f.offset ∧ jy P d f.type ((as.drop (f.offset - n)).take (P.cellsOf f.type))) ∧ as.length = m - n ∧ qag w ow as ((cs.drop n).take (m - n)) := by
 intro fs
 induction fs with
 | nil =>
  intro n m xs ht _ hm _
  cases ht
  exact ⟨Nat.le_refl _, [], by simp, by simp, ⟨by simp, by simp, by simp⟩⟩
 | cons f r ihr =>
  intro n m xs ht hk hm hx
  simp only [qqi] at ht
  split at ht
  ·rename_i hoff
   rw [List.mapM_cons] at hx
   cases ha : DataW.trod enc P w 0 (fun _ => true) held fuel f.type ((cs.drop f.offset).take (P.cellsOf f.type)) with
   | none => simp [ha] at hx
   | some y =>
    cases hl : r.mapM (fun f => DataW.trod enc P w 0 (fun _ => true) held fuel f.type ((cs.drop f.offset).take (P.cellsOf f.type))) with
    | none => simp [ha, hl] at hx
    | some zs =>
     obtain ⟨g0, as1, g1, g2, g3⟩ := ihr (n + P.cellsOf f.type) m zs ht (fun g hg => hk g (by simp [hg])) hm hl
     obtain ⟨as0, k1, k2, k3⟩ := ih f.type _ y.1 y.2 (hk f (by simp)) (by rw [ha])
     rw [hoff] at k3
     refine ⟨by omega, as0 ++ as1, fun g hg => ?_, by rw [List.length_append, k2, g2]; omega, ?_⟩
     ·rcases List.mem_cons.1 hg with rfl | hg
      ·refine ⟨by omega, ?_⟩
       rw [hoff, Nat.sub_self, List.drop_zero, List.take_append_of_le_length (by omega), List.take_of_length_le (by omega)]
       exact k1
      ·obtain ⟨q1, q2⟩ := g1 g hg
       refine ⟨by omega, ?_⟩
       rw [List.drop_append, List.drop_of_length_le (by omega), List.nil_append, show g.offset - n - as0.length = g.offset - (n + P.cellsOf f.type) by omega]
       exact q2
     ·have e : (cs.drop n).take (m - n) = (cs.drop n).take (P.cellsOf f.type) ++ (cs.drop (n + P.cellsOf f.type)).take (m - (n + P.cellsOf f.type)) := by
       rw [show m - n = P.cellsOf f.type + (m - (n + P.cellsOf f.type)) by omega, List.take_add, List.drop_drop]
      rw [e]
      exact k3.append g3
  ·cases ht
theorem qnh {a : Addr} {v : Value} (h : w.cell? a = some v) : ∃ b off, a = ⟨b, off, none⟩ ∧ b < w.heap.size := by
 obtain ⟨b, off, spot⟩ := a
 unfold World.cell? at h
 split at h
 ·rename_i c e f hb
  split at h
  ·cases h
  ·rename_i hs
   cases spot with
   | some _ => simp at hs
   | none => exact ⟨b, off, rfl, (Array.getElem?_eq_some_iff.1 hb).1⟩
 ·cases h
theorem qfb (how : ∀ b, ¬ ow b) : ∀ (d fuel : Nat) (t : TypeId) (cs : List Value) (dd : DataW H) (ps : List MemPlace), qan P d t = true → DataW.trod enc P w 0 (fun _ => true) held fuel t cs = some (dd, ps) →
  ∃ as, jy P d t as ∧ as.length = P.cellsOf t ∧ qag w ow as cs := by
 intro d
 induction d with
 | zero => intro fuel t cs dd ps hk; cases hk
 | succ d ih =>
  intro fuel t cs dd ps hk h
  unfold qan at hk
  unfold jy
  split at hk
  ·rename_i ht
   have hc := of_decide_eq_true hk
   obtain ⟨b, rfl, _⟩ := DataW.trod_bool ht h
   exact ⟨[.bool b], ⟨b, rfl⟩, hc.symm, qag.single rfl .bool⟩
  ·rename_i k ht
   have hc := of_decide_eq_true hk
   obtain ⟨n, rfl, _, hw⟩ := DataW.trod_int ht h
   exact ⟨[.int k n], ⟨n, rfl, hw⟩, hc.symm, qag.single rfl .int⟩
  ·rename_i ht
   have hc := of_decide_eq_true hk
   obtain ⟨s, rfl, _, hw⟩ := DataW.trod_string ht h
   have hsz : s.data.toList.length ≤ maxLen := by rw [Array.length_toList]; exact hw
   exact ⟨[.str s.data.toList], ⟨_, rfl, hsz⟩, hc.symm, qag.single rfl (by have := @VI.str w ow s.data.toList; rw [Array.toArray_toList] at this; exact this)⟩
  ·rename_i e ht
   simp only [Bool.and_eq_true, decide_eq_true_eq] at hk
   obtain ⟨hc, hpos, hk⟩ := hk
   cases fuel with
   | zero => simp [DataW.trod] at h
   | succ fuel =>
    have hcs : (cs = [.slice none 0 0]) ∨ ∃ a len cap, cs = [.slice (some a) len cap] := by
     unfold DataW.trod at h
     rw [ht] at h
     split at h <;> first | (rename_i g _; cases g; done) | skip
     all_goals first | (rename_i g; cases g; done) | skip
     all_goals first | exact .inl rfl | exact .inr ⟨_, _, _, rfl⟩ | (cases h; done)
    rcases hcs with rfl | ⟨a, len, cap, rfl⟩
    ·exact ⟨[.sl 0 fun _ => []], ⟨0, fun _ => [], rfl, Nat.zero_le _, fun i hi => absurd hi (Nat.not_lt_zero _)⟩, hc.symm, qag.single rfl .nilsl⟩
    ·simp only [DataW.trod, ht] at h
     split at h
     ·rename_i hcc
      obtain ⟨_, c1, c2⟩ := hcc
      rw [Option.bind_eq_some_iff] at h
      obtain ⟨elems, hm, hrest⟩ := h
      rw [Option.map_eq_some_iff] at hrest
      obtain ⟨rest, hrest, _⟩ := hrest
      try simp only [if_true] at hrest
      obtain ⟨m1, m2⟩ := qbs hm
      obtain ⟨r1, r2⟩ := qbs hrest
      simp only [List.length_range] at m1 r1
      have all : ∀ i, i < cap → ∃ x, ((w.cells? 0 (a.add (i * P.cellsOf e)) (P.cellsOf e)).bind (DataW.trod enc P w 0 (fun _ => true) held fuel e)) = some x := by
       intro i hi
       by_cases hl : i < len
       ·exact ⟨_, m2 i i _ (by simp [hl]) (List.getElem?_eq_getElem (by omega))⟩
       ·have := r2 (i - len) (i - len) _ (by rw [List.getElem?_range (by omega)]) (List.getElem?_eq_getElem (by omega))
        rw [show len + (i - len) = i by omega] at this
        exact ⟨_, this⟩
      by_cases hcap : cap = 0
      ·subst hcap
       have : len = 0 := by omega
       subst this
       exact ⟨[.sl 0 fun _ => []], ⟨0, fun _ => [], rfl, Nat.zero_le _, fun i hi => absurd hi (Nat.not_lt_zero _)⟩, hc.symm, qag.single rfl .nilsl⟩
      ·obtain ⟨x0, h0⟩ := all 0 (by omega)
       rw [Option.bind_eq_some_iff] at h0
       obtain ⟨cs0, h0, _⟩ := h0
       rw [Nat.zero_mul] at h0
       have hadd0 : a.add 0 = a := by simp [Addr.add]
       rw [hadd0] at h0
       unfold World.cells? at h0
       rw [if_pos (Nat.zero_le _)] at h0
       obtain ⟨n1, n2⟩ := qbs h0
       simp only [List.length_range] at n1
       have hcell := n2 0 0 _ (by simp [hpos]) (List.getElem?_eq_getElem (show 0 < cs0.length by omega))
       rw [hadd0] at hcell
       obtain ⟨b, off, rfl, hlt⟩ := qnh hcell
       have hadd : ∀ n, (⟨b, off, none⟩ : Addr).add n = ⟨b, off + n, none⟩ := by
        intro n; unfold Addr.add; split
        ·rename_i h; subst h; rfl
        ·rfl
       have hadd2 : ∀ n m, (⟨b, off + n, none⟩ : Addr).add m = ⟨b, off + n + m, none⟩ := by
        intro n m; unfold Addr.add; split
        ·rename_i h; subst h; rfl
        ·rfl
       have key : ∀ i, i < len → ∃ (as : List AV) (cs : List Value), jy P d e as ∧ as.length = P.cellsOf e ∧ qag w ow as cs ∧ (∀ (j : Nat) v, cs[j]? = some v → w.cell? ⟨b, off + i * P.cellsOf e + j, none⟩ = some v) := by
        intro i hi
        obtain ⟨x, hx⟩ := all i (by omega)
        rw [Option.bind_eq_some_iff] at hx
        obtain ⟨cs, h3, h4⟩ := hx
        obtain ⟨as, f1, f2, f3⟩ := ih fuel e cs x.1 x.2 hk h4
        rw [hadd] at h3
        unfold World.cells? at h3
        rw [if_pos (Nat.zero_le _)] at h3
        obtain ⟨n1, n2⟩ := qbs h3
        simp only [List.length_range] at n1
        refine ⟨as, cs, f1, f2, f3, fun j v hj => ?_⟩
        have hjl : j < P.cellsOf e := by have := (List.getElem?_eq_some_iff.1 hj).1; omega
        have := n2 j j v (by simp [hjl]) hj
        rw [hadd2] at this
        exact this
       have ex : ∃ g : Nat → List AV × List Value, ∀ i, i < len → jy P d e (g i).1 ∧ (g i).1.length = P.cellsOf e ∧ qag w ow (g i).1 (g i).2 ∧ (∀ (j : Nat) v, (g i).2[j]? = some v → w.cell? ⟨b, off + i * P.cellsOf e + j, none⟩ = some v) := by
        refine ⟨fun i => if hi : i < len then ((key i hi).choose, (key i hi).choose_spec.choose) else ([], []), fun i hi => ?_⟩
        simp only [dif_pos hi]
        exact (key i hi).choose_spec.choose_spec
       obtain ⟨g, hg⟩ := ex
       refine ⟨[.sl len fun i => (g i).1], ⟨len, fun i => (g i).1, rfl, Nat.le_trans c1 c2, fun i hi => (hg i hi).1⟩, hc.symm, qag.single rfl (.sl (P.cellsOf e) b off cap (fun i j => (g i).2.getD j Go.undef) c1 c2 (fun _ => how b) hlt (fun i hi => (hg i hi).2.1) (fun i j hi hj => ?_) (fun i j hi hj => ?_) (fun i j c hi hc => ?_))⟩
       ·obtain ⟨_, q2, q3, q4⟩ := hg i hi
        have hl := q3.len
        have e : (g i).2[j]? = some (g i).2[j] := List.getElem?_eq_getElem (by omega)
        rw [q4 j _ e, List.getD_eq_getElem?_getD, e]; rfl
       ·obtain ⟨_, q2, q3, q4⟩ := hg i hi
        have hl := q3.len
        have e : (g i).2[j]? = some (g i).2[j] := List.getElem?_eq_getElem (by omega)
        rw [List.getD_eq_getElem?_getD, e]; exact q3.one j _ e
       ·obtain ⟨_, q2, q3, q4⟩ := hg i hi
        have hl := q3.len
        have hj := (List.getElem?_eq_some_iff.1 hc).1
        have e : (g i).2[j]? = some (g i).2[j] := List.getElem?_eq_getElem (by omega)
        rw [List.getD_eq_getElem?_getD, e]; exact q3.vi j c _ hc e
     ·cases h
  ·rename_i fs ht
   simp only [Bool.and_eq_true, decide_eq_true_eq, List.all_eq_true] at hk
   obtain ⟨htile, hk⟩ := hk
   cases fuel with
   | zero => simp [DataW.trod] at h
   | succ fuel =>
    simp only [DataW.trod, ht] at h
    split at h
    ·rename_i hcl
     rw [Option.map_eq_some_iff] at h
     obtain ⟨xs, hm, _⟩ := h
     obtain ⟨_, as, g1, g2, g3⟩ := qgv (fun t cs dd ps => ih fuel t cs dd ps) fs.toList 0 (P.cellsOf t) xs htile hk (by omega) hm
     rw [Nat.sub_zero] at g2 g3
     rw [List.drop_zero, List.take_of_length_le (by omega)] at g3
     exact ⟨as, ⟨g2, fun f hf => by have := (g1 f hf).2; rwa [Nat.sub_zero] at this⟩, g2, g3⟩
    ·cases h
  ·cases hk
theorem qhH (how : ∀ b, ¬ ow b) {d : Nat} {t : TypeId} {v : Value} {dd : DataW H} {ps : List MemPlace} (hk : qan P d t = true) (hc : v.cells = #[v]) (h : DataW.Trod enc P w 0 (fun _ => true) held t v dd ps) : ∃ a, jy P d t [a] ∧ VI w ow a v := by
 obtain ⟨fuel, h⟩ := h
 rw [hc] at h
 obtain ⟨as, g1, g2, g3⟩ := qfb how d fuel t _ dd ps hk h
 have hl := g3.len
 match as, g1, g2, g3, hl with
 | [a], g1, g2, g3, _ => exact ⟨a, g1, g3.vi 0 a v rfl rfl⟩
theorem qpL (how : ∀ b, ¬ ow b) {d : Nat} {t : TypeId} {cs : Array Value} {dd : DataW H} {ps : List MemPlace} (hk : qan P d t = true) (h : DataW.Trod enc P w 0 (fun _ => true) held t (.agg cs) dd ps) : ∃ as, jy P d t as ∧ VI w ow (.agg as) (.agg cs) := by
 obtain ⟨fuel, h⟩ := h
 obtain ⟨as, g1, g2, g3⟩ := qfb how d fuel t _ dd ps hk h
 refine ⟨as, g1, .agg ?_ (fun i x hx => g3.one i x ?_) (fun i c x hc hx => g3.vi i c x hc ?_)⟩
 ·have := g3.len; simpa [Value.cells] using this
 ·simpa [Value.cells] using hx
 ·simpa [Value.cells] using hx
end
end AF
end
section
namespace AF
open Go
def ku (v : Nat) (ty : TypeId) (cs : List AV) : AObj := if cs = [] then .emp v else .mem v ty cs
section
variable {h l : List AObj} {k v w n c : Nat} {ty : TypeId} {cs ms : List AV} {a : AV} {o : AObj}
theorem qsj (h : cs ≠ []) : ku v ty cs = .mem v ty cs := if_neg h
theorem verOf_own : qz (some (ku v ty cs)) = v := by unfold ku; split <;> rfl
theorem site_own0 : zc (ku v ty cs :: l) 0 = true := by unfold ku; split <;> rfl
theorem liveS_own0 : zn (ku v ty cs :: l) 0 w = (v == w) := by unfold ku; split <;> rfl
theorem tyOk_own : qn7 (some (ku v ty cs)) ty = true := by
 unfold ku
 split
 ·rfl
 ·simp [qn7]
theorem cells_own0 : ((cellsOf (ku v ty cs :: l) 0 v).getD []) = cs := by
 unfold ku
 split
 ·rename_i e; rw [e]; rfl
 ·rw [cellsOf_0, if_pos rfl]; rfl
theorem cellsS_own0 : ((cellsOf (ku v ty cs :: l) 0 v).isSome = true) = (cs ≠ []) := by
 unfold ku
 split
 ·rename_i e; rw [e]; simp [cellsOf, qK]
 ·rename_i e; rw [cellsOf_0, if_pos rfl]; simp [e]
theorem qoe {b : AV} : qhU (some (ku v ty cs)) ty w c (n + 1) (b :: ms) = ku (w + 1) ty (cs.take c ++ b :: ms) := by
 rw [show ku (w + 1) ty (cs.take c ++ b :: ms) = .mem (w + 1) ty (cs.take c ++ b :: ms) from qsj (by simp)]
 unfold ku
 split
 ·rename_i e
  rw [e]
  simp [qhU]
 ·rfl
theorem appO_own1 {b : AV} : qhU (some (ku v ty cs)) ty w c 1 (b :: ms) = ku (w + 1) ty (cs.take c ++ b :: ms) := qoe (n := 0)
end
attribute [go_sem] verOf_own site_own0 liveS_own0 tyOk_own cells_own0 cellsS_own0 appO_own1
end AF
end
section
namespace AF
open Go
def LowI (h hh : List AObj) : Prop := hh.length = h.length ∧ ∀ o ∈ hh, o ∈ h ∨ (qc8 h.length o ∧ qc8 (h.length + 1) o)
theorem LowI.refl (h : List AObj) : LowI h h := ⟨rfl, fun _ ho => .inl ho⟩
theorem qcb {hh tl : List AObj} {o : AObj} {k : Nat} (h : hh.length = k) : qK k (hh ++ o :: tl) = some o := by subst h; exact getO_app0
theorem qhK {hh tl : List AObj} {o o' : AObj} {k : Nat} (h : hh.length = k) : qN k (hh ++ o :: tl) o' = hh ++ o' :: tl := by subst h; exact setO_app0
def qv3 (P : Program) (f : FuncId) (cap : List AV) (xs : List (List AV)) : Prop :=
 ∀ (h : List AObj) (ts : List AV) (L : LInfo) (S : Nat → List AObj → Prop) (E : LS → List AObj → Prop),
  (∀ i hh, S i hh → LowI h hh) → (∀ s hh, E s hh → LowI h hh) →
  (∀ i hh tl, (hi : i < xs.length) → S i hh → kf P h.length (xs[i]) (hh ++ .lp .ready ts L :: tl) (fun r h' => ∃ hh', (r = .bool true ∧ S (i + 1) hh' ∧ h' = hh' ++ .lp .ready ts L :: tl) ∨ (∃ s, r = .bool false ∧ E s hh' ∧ h' = hh' ++ .lp s ts L :: tl))) →
  S 0 h → (∀ c ∈ ts, zX (h.length + 1) c = true) →
  jH P f (.yld h.length :: cap) (h ++ [.lp .ready ts L]) (fun _ h' => ∃ hh, (S xs.length hh ∧ h' = hh ++ [.lp .ready ts L]) ∨ ∃ s, E s hh ∧ h' = hh ++ [.lp s ts L])
theorem qaH {P : Program} {f : FuncId} {cap : List AV} {xs : List (List AV)} (hf : qv3 P f cap xs) {ps : List Nat} {b : Nat} {x y : C} {Q : Ex → Nx} {ts : List AV} {h : List AObj} (hps : ∀ a ∈ xs, a.length = ps.length)
  (S : Nat → List AObj → Prop) (E : Ex → List AObj → Prop) (hS : ∀ i hh, S i hh → LowI h hh) (hE : ∀ s hh, E s hh → LowI h hh)
  (start : S 0 h) (hts : ∀ c ∈ ts, zX (h.length + 1) c = true)
  (body : ∀ i hh tl L, (hi : i < xs.length) → S i hh → hh.length = h.length →
   zl P b x (fun e t2 h2 => e = .normal ∧ h2 = hh ++ .lp .ready ts L :: tl ∧
    zl P b y (fun e t3 h3 => ∃ hh', h3 = hh' ++ .lp .busy ts L :: tl ∧ hh'.length = h.length ∧ match e with
     | .normal => S (i + 1) hh'
     | .ret => E .ret hh'
     | .exit id => E (.exit id) hh') t2 (hh ++ .lp .busy ts L :: tl)) (qa5 ts ps (xs[i])) (hh ++ .lp .ready ts L :: tl))
  (done : ∀ hh, S xs.length hh → Q .normal ts hh) (doneE : ∀ e hh, E e hh → match e with
   | .normal => False
   | e => Q e ts hh) :
  qfM P (.fn (.func f) [] cap) ps (zl P b x) (zl P b y) Q ts h := by
 intro L hy
 show jH _ _ _ _ _
 have key := hf h ts L S (fun s hh => match s with
  | .ret => E .ret hh
  | .exit id => E (.exit id) hh
  | _ => False) hS
  (by
   intro s hh hs
   cases s with
   | ret => exact hE _ _ hs
   | exit id => exact hE _ _ hs
   | ready => exact hs.elim
   | busy => exact hs.elim)
  (by
   intro i hh tl hi i4
   have hlen := (hS _ _ i4).1
   refine hy h.length ts _ _ _ (qcb hlen) (hps _ (List.getElem_mem hi)) ?_
   have hb := body i hh tl L hi i4 hlen
   refine qav ?_ hb
   rintro e t2 h2 ⟨rfl, rfl, h3⟩
   refine ⟨rfl, ⟨ts, qcb hlen⟩, fun ts' hts' => ?_⟩
   rw [qcb hlen] at hts'
   cases hts'
   rw [qhK hlen]
   refine qav ?_ h3
   rintro e t3 h3' ⟨hh', rfl, g1, g2⟩
   refine ⟨ts, qcb g1, ?_⟩
   cases e with
   | normal => exact ⟨hh', .inl ⟨rfl, g2, qhK g1⟩⟩
   | ret => exact ⟨hh', .inr ⟨.ret, rfl, g2, qhK g1⟩⟩
   | exit id => exact ⟨hh', .inr ⟨.exit id, rfl, g2, qhK g1⟩⟩)
  start hts
 refine key.le (jR.refl _) ?_
 rintro v h' ⟨hh, ⟨g1, rfl⟩ | ⟨s, g1, rfl⟩⟩
 ·have hl := hS _ _ g1
  exact ⟨v, VLe.refl _, hh, .ready, ts, L, rfl, hl.1, fun o ho => (hl.2 o ho).imp (fun h => h) And.left, done hh g1⟩
 ·cases s with
  | ready => exact g1.elim
  | busy => exact g1.elim
  | ret =>
   have hl := hE _ _ g1
   exact ⟨v, VLe.refl _, hh, .ret, ts, L, rfl, hl.1, fun o ho => (hl.2 o ho).imp (fun h => h) And.left, doneE _ _ g1⟩
  | exit id =>
   have hl := hE _ _ g1
   exact ⟨v, VLe.refl _, hh, .exit id, ts, L, rfl, hl.1, fun o ho => (hl.2 o ho).imp (fun h => h) And.left, doneE _ _ g1⟩
theorem qhq {rs : List RV} {h0 h' : List AObj} {K : AV → List AObj → Prop} {t : List AV} {r : AV} (hok : j6 t h' rs) (hl : h'.length = h0.length) (hlow : ∀ o ∈ h', o ∈ h0 ∨ qc8 h0.length o) (hK : K r h')
  (hv : VLe (frz (fun k => decide (h0.length ≤ k)) h' 8 (qgM (zU t h' rs))) r) : fnQ rs h0 K .ret t h' :=
 ⟨r, h', hK, hok, ⟨[], (List.append_nil _).symm⟩, hl, hlow, VOut.of 8 hv⟩
theorem qc0 {rs : List RV} {h0 h' : List AObj} {K : AV → List AObj → Prop} {t : List AV} {r : AV} (hok : j6 t h' rs) (hl : h'.length = h0.length) (hlow : ∀ o ∈ h', o ∈ h0 ∨ qc8 h0.length o) (hK : K r h')
  (hv : VLe (frz (fun k => decide (h0.length ≤ k)) h' 8 (qgM (zU t h' rs))) r) : fnQ rs h0 K .normal t h' :=
 ⟨r, h', hK, hok, ⟨[], (List.append_nil _).symm⟩, hl, hlow, VOut.of 8 hv⟩
end AF
end
section
namespace AF
open Go
section
variable {P : Program} {b : Nat} {r : List RO} {K : Nx} {t : List AV} {h : List AObj} {xs : List X}
theorem qxz {d : Nat} : opsA P b (⟨some d, none, .b2s, xs⟩ :: r) K t h = (flags (evs t xs) ∧ okL h .b2s (strips (evs t xs)) ∧ opsA P b r K (zF d t (valL h .b2s (strips (evs t xs)))) h) := by simp only [opsA, stepO, stepA, R.kd, qY]
theorem qvX {d j : Nat} {u : Bool} : opsA P b (⟨some d, some (j, u), .b2s, xs⟩ :: r) K t h = (qO (qW j t) = true ∧ (qG (qW j t) u = true → flags (evs t xs) ∧ okL h .b2s (strips (evs t xs))) ∧ opsA P b r K (zF d t (.gd (qG (qW j t) u) (valL h .b2s (strips (evs t xs))))) h) := by simp only [opsA, stepO, zY, R.kd, qY]
theorem qxH {d : Option Nat} : opsA P b (⟨d, none, .s2b, xs⟩ :: r) K t h = (flags (evs t xs) ∧ effE b h .s2b (strips (evs t xs)) t d (opsA P b r K)) := by simp only [opsA, stepO, stepA, R.kd]
theorem qwx {nx : List AV → List AObj → Prop} {d : Option Nat} {s : List UInt8} : effE b h .s2b [.str s] t d nx = ((s.length : Int) ≤ 140737488355328 ∧ nx (qY t d (.sl s.length fun i => [.int .u8 ((s.getD i 0).toNat : Int)])) h) := (rfl)
end
theorem w_s2bo {P : Program} {b : Nat} {r : List RO} {K : Nx} {t : List AV} {h : List AObj} {xs : List X} {d : Option Nat} {j : Nat} {ty : TypeId} : opsA P b (⟨d, none, .s2bo j ty, xs⟩ :: r) K t h = (flags (evs t xs) ∧ effE b h (.s2bo j ty) (strips (evs t xs)) t d (opsA P b r K)) := by simp only [opsA, stepO, stepA, R.kd]
theorem qtV {b : Nat} {t : List AV} {h : List AObj} {nx : List AV → List AObj → Prop} {d : Option Nat} {s : List UInt8} {j : Nat} {ty : TypeId} : effE b h (.s2bo j ty) [.str s] t d nx = ((zc h (b + j) = true ∧ (s.length : Int) ≤ 140737488355328) ∧ nx (qY t d (.osl (b + j) (qz (qK (b + j) h) + 1) 1 0 s.length)) (qN (b + j) h (.mem (qz (qK (b + j) h) + 1) (ty + qaP) (qQ s)))) := (rfl)
attribute [go_sem] w_s2bo qtV
theorem qe4 (c : UInt8) : kD (.int .u8 (c.toNat : Int)) = c := by simp [kD]
theorem qfs (c : UInt8) : qc3 (.int .u8 (c.toNat : Int)) := by
 have := c.toNat_lt
 exact ⟨by omega, by omega⟩
theorem qej (s : List UInt8) : (qQ s).map kD = s := by
 induction s with
 | nil => rfl
 | cons c s ih => show kD _ :: List.map kD (qQ s) = _; rw [ih, qe4]
theorem jk (s : List UInt8) : (qQ s).length = s.length := by simp [qQ]
theorem qes {s : List UInt8} : ∀ c ∈ qQ s, qc3 c := by
 intro c hc
 unfold qQ at hc
 rw [List.mem_map] at hc
 obtain ⟨x, _, rfl⟩ := hc
 exact qfs x
theorem qg6 {g : List AObj} {s : List UInt8} : valL g .b2s [.sl s.length fun i => [.int .u8 ((s.getD i 0).toNat : Int)]] = .str s := by
 show AV.str ((List.range s.length).map fun i => kD (.int .u8 ((s.getD i 0).toNat : Int))) = _
 congr 1
 apply List.ext_getElem
 ·simp
 ·intro i h1 h2
  simp only [List.getElem_map, List.getElem_range, qe4]
  rw [List.getD_eq_getElem?_getD, List.getElem?_eq_getElem h2]; rfl
theorem qiO {g : List AObj} {s : List UInt8} : okL g .b2s [.sl s.length fun i => [.int .u8 ((s.getD i 0).toNat : Int)]] = True := eq_true (fun i _ => qfs _)
theorem qg5 {g : List AObj} : valL g .b2s [.nl] = .str [] := rfl
theorem qiN {g : List AObj} : okL g .b2s [.nl] = True := rfl
theorem qf8 {g : List AObj} {k v z p n : Nat} : valL g .b2s [.osl k v z p n] = .str (((((cellsOf g k v).getD []).drop p).take n).map kD) := rfl
theorem qgG {g : List AObj} {k v z p n : Nat} : okL g .b2s [.osl k v z p n] = (zn g k v = true ∧ z = 1 ∧ p + n ≤ ((cellsOf g k v).getD []).length ∧ ∀ c ∈ ((((cellsOf g k v).getD []).drop p).take n), qc3 c) := rfl
theorem qsl {x : AV} {q : Bool} : jM (.bool false) x (.bool q) = .bool q := by
 unfold jM
 simp only [AV.strip, qbc]
 split
 ·rename_i p' q' h1 h2
  cases h2
  simp
 ·simp
theorem qsm {y : AV} {p : Bool} : jM (.bool true) (.bool p) y = .bool p := by
 unfold jM
 simp only [AV.strip, qbc]
 split
 ·rename_i p' q' h1 h2
  cases h1
  simp
 ·simp
attribute [go_sem] qsl qsm
theorem zR {P : Program} {f : Nat} {first cap args : List AV} {d : Option Nat} {nx : Nx} {t : List AV} {h : List AObj} {v : AV} (hc : qs P f (first ++ args ++ cap) h v h) (hn : nx (qY t d v) h) : qbM P (.fn (.func f) first cap :: args) d nx t h := ⟨v, h, hc, hn⟩
attribute [go_sem] qxz qvX qxH qwx qg6 qiO qg5 qiN qf8 qgG
end AF
end
section
namespace AF
open Go
section
variable {P : Program} {b : Nat} {r : List RO} {K : Nx} {t : List AV} {h : List AObj} {xs : List X}
theorem qxC {d : Nat} : opsA P b (⟨some d, none, .cap, xs⟩ :: r) K t h = (flags (evs t xs) ∧ okL h .cap (strips (evs t xs)) ∧ opsA P b r K (zF d t (valL h .cap (strips (evs t xs)))) h) := by simp only [opsA, stepO, stepA, R.kd, qY]
theorem qvH {d : Option Nat} {j z m : Nat} {ty : TypeId} {zs : List AV} : opsA P b (⟨d, none, .appz j z ty zs m, xs⟩ :: r) K t h = (flags (evs t xs) ∧ effE b h (.appz j z ty zs m) (strips (evs t xs)) t d (opsA P b r K)) := by simp only [opsA, stepO, stepA, R.kd]
theorem qtS {nx : List AV → List AObj → Prop} {d : Option Nat} {j sz : Nat} {ty : TypeId} {z : List AV} {bytes : Nat} {n : Int} : effE b h (.appz j sz ty z bytes) [.nl, .int .i64 n] t d nx = ((zc h (b + j) = true ∧ z.length = sz ∧ 0 < n ∧ n * (bytes : Int) ≤ 140737488355328 ∧ n ≤ 140737488355328) ∧
   nx (qY t d (.osl (b + j) (qz (qK (b + j) h) + 1) sz 0 n.toNat)) (qN (b + j) h (.mem (qz (qK (b + j) h) + 1) ty (qM z n.toNat)))) := (rfl)
end
theorem valL_capnl {g : List AObj} : valL g .cap [.nl] = .int .i64 0 := rfl
theorem qmg {g : List AObj} : okL g .cap [.nl] = True := rfl
theorem qjA {g : List AObj} {z : Nat} {lo hi : Bool} {bs : List AV} : valL g (.slc z lo hi) (.nl :: bs) = .nl := rfl
theorem qgH {g : List AObj} {z : Nat} {k : IntKind} {c : Int} : okL g (.slc z false true) [.nl, .int k c] = (c = 0) := by
 simp [okL, loB, hiB, qaK]
 omega
theorem qfD {g : List AObj} {z : Nat} {k m : IntKind} {a c : Int} : okL g (.slc z true true) [.nl, .int m a, .int k c] = (a = 0 ∧ c = 0) := by
 simp [okL, loB, hiB, qaK]
 omega
theorem qgI {g : List AObj} {z : Nat} {m : IntKind} {a : Int} : okL g (.slc z true false) [.nl, .int m a] = (a = 0) := by
 simp [okL, loB, hiB, qaK]
 omega
attribute [go_sem] qxC qvH qtS valL_capnl qmg qjA qgH qfD qgI
end AF
end
section
namespace AF
open Go
section
variable {P : Program} {b : Nat} {K : Nx} {t : List AV} {h : List AObj}
theorem t_nil : qb0 P b .nil K t h = K t h := (rfl)
theorem t_one {o : RO} {r : DT} : qb0 P b (.one o r) K t h = opsA P b [o] (qb0 P b r K) t h := (rfl)
theorem t_two {x y : DT} : qb0 P b (.two x y) K t h = (qb0 P b x K t h ∧ qb0 P b y K t h) := (rfl)
theorem t_univ {r : DT} {d : Option Nat} {xs : List X} : qb0 P b (.uni ⟨d, none, .callv, xs⟩ r) K t h = qkM P (evs t xs) d (qb0 P b r K) t h := (rfl)
theorem qcR {f : Nat} {first cap args : List AV} {d : Option Nat} {nx : Nx} {v : AV} (hc : ∀ h0, qs P f (first ++ strips args ++ cap) h0 v h0) (hf : flags (.fn (.func f) first cap :: args)) (hn : nx (qY t d v) h) : qkM P (.fn (.func f) first cap :: args) d nx t h := ⟨hf, v, hc, hn⟩
theorem t_uni {r : DT} {d : Option Nat} {f : Nat} {p : Bool} {xs : List X} : qb0 P b (.uni ⟨d, none, .call f p, xs⟩ r) K t h = qrm P f (evs t xs) d (qb0 P b r K) t h := (rfl)
theorem tg_uni {r : DT} {d : Option Nat} {f : Nat} {p : Bool} {xs : List X} {j : Nat} {u : Bool} : qb0 P b (.uni ⟨d, some (j, u), .call f p, xs⟩ r) K t h = (qO (qW j t) = true ∧ qqH P f (qG (qW j t) u) (evs t xs) d (qb0 P b r K) t h) := (rfl)
theorem qgu {d : DT} {Q : Ex → Nx} (T : List AV) (H : List AObj) (h1 : qb0 P b d (fun t' h' => t' = T ∧ h' = H) t h) (h2 : Q .normal T H) : zl P b (.draw d) Q t h :=
 ⟨_, h1, fun t' h' ⟨e1, e2⟩ => by subst e1; subst e2; exact h2⟩
theorem qo {f : Nat} {vs : List AV} {d : Option Nat} {nx : Nx} {r : AV} (hc : ∀ h0, qs P f (strips vs) h0 r h0) (hf : flags vs) (hn : nx (qY t d r) h) : qrm P f vs d nx t h := ⟨hf, r, hc, hn⟩
end
attribute [go_sem] t_univ t_nil t_one t_two t_uni tg_uni
end AF
end
section
namespace AF
open Go
section
variable {P : Program} {b : Nat} {r : List RO} {K : Nx} {t : List AV} {h l : List AObj} {xs : List X} {ks : AK} {ok : Bool} {z : AV} {d : Option Nat} {nx : List AV → List AObj → Prop}
theorem w_mlk {d : Nat} : opsA P b (⟨some d, none, .mlk ks ok z, xs⟩ :: r) K t h = (flags (evs t xs) ∧ okL h (.mlk ks ok z) (strips (evs t xs)) ∧ opsA P b r K (zF d t (valL h (.mlk ks ok z) (strips (evs t xs)))) h) := by simp only [opsA, stepO, stepA, R.kd, qY]
theorem wg_mlk {d j : Nat} {u : Bool} : opsA P b (⟨some d, some (j, u), .mlk ks ok z, xs⟩ :: r) K t h = (qO (qW j t) = true ∧ (qG (qW j t) u = true → flags (evs t xs) ∧ okL h (.mlk ks ok z) (strips (evs t xs))) ∧ opsA P b r K (zF d t (.gd (qG (qW j t) u) (valL h (.mlk ks ok z) (strips (evs t xs))))) h) := by simp only [opsA, stepO, zY, R.kd, qY]
theorem w_mkmap {j : Nat} : opsA P b (⟨d, none, .mkmap j, xs⟩ :: r) K t h = (flags (evs t xs) ∧ effE b h (.mkmap j) (strips (evs t xs)) t d (opsA P b r K)) := by simp only [opsA, stepO, stepA, R.kd]
theorem w_mupd : opsA P b (⟨d, none, .mupd ks, xs⟩ :: r) K t h = (flags (evs t xs) ∧ effE b h (.mupd ks) (strips (evs t xs)) t d (opsA P b r K)) := by simp only [opsA, stepO, stepA, R.kd]
theorem e_mkmap {j : Nat} : effE b h (.mkmap j) [] t d nx = (zc h (b + j) = true ∧ nx (qY t d (.mp (b + j) (qz (qK (b + j) h) + 1))) (qN (b + j) h (.map (qz (qK (b + j) h) + 1) []))) := (rfl)
theorem e_mupd {k ver : Nat} {x v : AV} : effE b h (.mupd ks) [.mp k ver, x, v] t d nx = (((je h k ver).isSome = true ∧ okK ks x ∧ (qaL ks x ((je h k ver).getD []) 0).isSome = true) ∧
  nx (qY t d (.tup [])) (qN k h (.map ver (qr1 ks x v ((je h k ver).getD []))))) := (rfl)
end
section
variable {h l : List AObj} {ks : AK} {ok : Bool} {z x : AV} {k ver n v w : Nat} {es : List (AV × AV)} {o : AObj}
theorem valL_mlk_t : valL h (.mlk ks true z) [.mp k ver, x] = .tup [(qfB ks x z ((je h k ver).getD [])).1, .bool (qfB ks x z ((je h k ver).getD [])).2] := rfl
theorem valL_mlk_f : valL h (.mlk ks false z) [.mp k ver, x] = (qfB ks x z ((je h k ver).getD [])).1 := rfl
theorem okL_mlk : okL h (.mlk ks ok z) [.mp k ver, x] = ((je h k ver).isSome = true ∧ okK ks x ∧ (qaL ks x ((je h k ver).getD []) 0).isSome = true) := rfl
theorem mapOf_app : je (h ++ l) (h.length + n) v = je l n v := by unfold je; rw [getO_app]; rfl
theorem mapOf_app0 : je (h ++ l) h.length v = je l 0 v := by unfold je; rw [getO_app0]; rfl
theorem mapOf_0 : je (.map w es :: l) 0 v = if w = v then some es else none := rfl
theorem mapOf_s : je (o :: l) (n + 1) v = je l n v := rfl
theorem site_0_map : zc (.map v es :: l) 0 = true := rfl
theorem verOf_map : qz (some (.map v es)) = v := rfl
theorem strip_mp : (AV.mp k v).strip = AV.mp k v := rfl
theorem flag_mp : (AV.mp k v).flag = true := rfl
theorem solid_mp : (AV.mp k v).solid = true := rfl
theorem cells_mp : (AV.mp k v).cells = [AV.mp k v] := rfl
theorem okK_str {s : List UInt8} : okK .str (.str s) = True := rfl
theorem okK_int {q : IntKind} {i : Int} : okK .int (.int q i) = True := rfl
theorem okK_bool {q : Bool} : okK .bool (.bool q) = True := rfl
theorem frz_mp {fz : Nat → Bool} : frz fz h (n + 1) (.mp k v) = if fz k then .undef else .mp k v := rfl
end
attribute [go_sem] w_mlk wg_mlk w_mkmap w_mupd e_mkmap e_mupd valL_mlk_t valL_mlk_f okL_mlk mapOf_app mapOf_app0 mapOf_0 mapOf_s site_0_map verOf_map strip_mp flag_mp solid_mp cells_mp okK_str okK_int okK_bool frz_mp
def qgf (m : List (List UInt8 × Int)) : List (AV × AV) := m.map fun p => (.str p.1, .int .i64 p.2)
theorem qaF (s : List UInt8) : ∀ (m : List (List UInt8 × Int)) (i : Nat), (m.lookup s = none ∧ qaL .str (.str s) (qgf m) i = some none) ∨ ∃ n v, m.lookup s = some v ∧ qaL .str (.str s) (qgf m) i = some (some (i + n, .int .i64 v)) := by
 intro m
 induction m with
 | nil => intro i; exact .inl ⟨rfl, rfl⟩
 | cons p m ih =>
  intro i
  obtain ⟨k, v⟩ := p
  have e : qaL .str (.str s) (qgf ((k, v) :: m)) i = match some (decide (s = k)) with
   | some true => some (some (i, AV.int .i64 v))
   | some false => qaL .str (.str s) (qgf m) (i + 1)
   | none => none := rfl
  by_cases h : s = k
  ·subst h
   rw [e, decide_eq_true rfl]
   exact .inr ⟨0, v, by simp, rfl⟩
  ·rw [e, decide_eq_false h]
   have hl : ((k, v) :: m).lookup s = m.lookup s := by
    rw [List.lookup_cons, show (s == k) = false from beq_eq_false_iff_ne.2 h]
   rcases ih (i + 1) with ⟨h1, h2⟩ | ⟨n, u, h1, h2⟩
   ·exact .inl ⟨by rw [hl]; exact h1, h2⟩
   ·exact .inr ⟨n + 1, u, by rw [hl]; exact h1, by rw [show i + (n + 1) = i + 1 + n by omega]; exact h2⟩
theorem qaQ {s : List UInt8} {m : List (List UInt8 × Int)} {z : AV} (h : m.lookup s = none) : qfB .str (.str s) z (qgf m) = (z, false) := by
 unfold qfB
 rcases qaF s m 0 with ⟨_, h2⟩ | ⟨n, u, h1, _⟩
 ·rw [h2]
 ·rw [h] at h1; cases h1
theorem qaR {s : List UInt8} {m : List (List UInt8 × Int)} {z : AV} {v : Int} (h : m.lookup s = some v) : qfB .str (.str s) z (qgf m) = (.int .i64 v, true) := by
 unfold qfB
 rcases qaF s m 0 with ⟨h1, _⟩ | ⟨n, u, h1, h2⟩
 ·rw [h] at h1; cases h1
 ·rw [h] at h1; cases h1; rw [h2]
theorem ql6 {s : List UInt8} {m : List (List UInt8 × Int)} {v : Int} (h : m.lookup s = none) : qr1 .str (.str s) (.int .i64 v) (qgf m) = qgf (m ++ [(s, v)]) := by
 unfold qr1
 rcases qaF s m 0 with ⟨_, h2⟩ | ⟨n, u, h1, _⟩
 ·rw [h2]; simp [qgf]
 ·rw [h] at h1; cases h1
theorem qI {s : List UInt8} {m : List (List UInt8 × Int)} : (qaL .str (.str s) (qgf m) 0).isSome = true := by
 rcases qaF s m 0 with ⟨_, h2⟩ | ⟨n, u, _, h2⟩ <;> rw [h2] <;> rfl
end AF
end
section
namespace AF
open Go
theorem dvP {a b : Int} (h : 0 ≤ a) : a.tdiv b = a / b := Int.tdiv_eq_ediv_of_nonneg h
theorem mdP {a b : Int} (h : 0 ≤ a) : a.tmod b = a % b := Int.tmod_eq_emod_of_nonneg h
theorem lcP {α : Type} (a : α) (l : List α) : (a :: l).length = l.length + 1 := rfl
theorem lnP {α : Type} : ([] : List α).length = 0 := rfl
theorem caP {α : Type} (a : α) (l m : List α) : (a :: l) ++ m = a :: (l ++ m) := rfl
theorem naP {α : Type} (l : List α) : [] ++ l = l := rfl
theorem flk {p : Prop} (h : p := by (try intro _); repeat' first | exact qrQ | refine qrP (by first | rfl | assumption) ?_) : p := h
theorem rvk {p : Prop} (h : p := by repeat' first | exact qxk | refine qxl ?_ | (simp [go_sem] <;> fail)) : p := h
theorem clz {p : Prop} (h : p := by first | omega | (rename_i hx; revert hx; simp <;> fail) | (simp <;> fail)) : p := h
end AF
end

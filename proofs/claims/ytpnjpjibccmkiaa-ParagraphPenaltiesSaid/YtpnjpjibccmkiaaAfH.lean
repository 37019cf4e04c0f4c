/-
  AFH: the walk's rules for objects: a function's own objects stand behind those of its caller.
-/
import Derived.Test.YtpnjpjibccmkiaaAfW
set_option linter.all false
set_option linter.unusedSimpArgs false
set_option linter.unusedVariables false
set_option linter.unusedSectionVars false
namespace AF
open Go
section
variable {h : List AObj} {l : List AObj} {n k v : Nat} {o : AObj} {ty : TypeId} {cs : List AV}
theorem getO_app0 : getO h.length (h ++ l) = l[0]? := by unfold getO; rw [List.getElem?_append_right (Nat.le_refl _), Nat.sub_self]
theorem getO_app : getO (h.length + n) (h ++ l) = l[n]? := by unfold getO; rw [List.getElem?_append_right (by omega), Nat.add_sub_cancel_left]
theorem setO_app0 : setO h.length (h ++ l) o = h ++ l.set 0 o := by unfold setO; rw [List.set_append_right _ _ (Nat.le_refl _), Nat.sub_self]
theorem setO_app : setO (h.length + n) (h ++ l) o = h ++ l.set n o := by unfold setO; rw [List.set_append_right _ _ (by omega), Nat.add_sub_cancel_left]
theorem verOf_mem : verOf (some (.mem v ty cs)) = v := rfl
theorem verOf_emp : verOf (some (.emp v)) = v := rfl
theorem tyOf_mem : tyOf (some (.mem v ty cs)) = ty := rfl
theorem site_app0_mem {v : Nat} : site (h ++ .mem v ty cs :: l) h.length = true := by unfold site; rw [getO_app0]; rfl
theorem site_app0_emp {v : Nat} : site (h ++ .emp v :: l) h.length = true := by unfold site; rw [getO_app0]; rfl
theorem site_app : site (h ++ l) (h.length + n) = site l n := by unfold site; rw [getO_app]; rfl
theorem site_app0 : site (h ++ l) h.length = site l 0 := by unfold site; rw [getO_app0]; rfl
theorem site_0_mem {v : Nat} : site (.mem v ty cs :: l) 0 = true := rfl
theorem site_0_emp {v : Nat} : site (.emp v :: l) 0 = true := rfl
theorem site_s : site (o :: l) (n + 1) = site l n := rfl
theorem cellsOf_app : cellsOf (h ++ l) (h.length + n) v = cellsOf l n v := by unfold cellsOf; rw [getO_app]; rfl
theorem cellsOf_app0 : cellsOf (h ++ l) h.length v = cellsOf l 0 v := by unfold cellsOf; rw [getO_app0]; rfl
theorem cellsOf_0 {w : Nat} : cellsOf (.mem w ty cs :: l) 0 v = if w = v then some cs else none := rfl
theorem cellsOf_s : cellsOf (o :: l) (n + 1) v = cellsOf l n v := rfl
theorem liveS_app : liveS (h ++ l) (h.length + n) v = liveS l n v := by unfold liveS; rw [getO_app]; rfl
theorem liveS_app0 : liveS (h ++ l) h.length v = liveS l 0 v := by unfold liveS; rw [getO_app0]; rfl
theorem liveS_0_mem {w : Nat} : liveS (.mem w ty cs :: l) 0 v = (w == v) := rfl
theorem liveS_0_emp {w : Nat} : liveS (.emp w :: l) 0 v = (w == v) := rfl
theorem liveS_s : liveS (o :: l) (n + 1) v = liveS l n v := rfl
theorem tyOk_mem {t : TypeId} : tyOk (some (.mem v t cs)) ty = (t == ty) := rfl
theorem tyOk_emp : tyOk (some (.emp v)) ty = true := rfl
theorem b_add0 {b : Nat} : b + 0 = b := rfl
theorem appO_mem {t : TypeId} {ds : List AV} {c m : Nat} : appO (some (.mem k t ds)) ty v c m cs = .mem (v + 1) ty (ds.take c ++ cs) := rfl
theorem appO_emp {c m : Nat} : appO (some (.emp k)) ty v c m cs = if m = 0 then .emp (v + 1) else .mem (v + 1) ty cs := rfl
end
section
variable {b : Nat} {h : List AObj} {t : List AV} {d : Option Nat} {nx : List AV → List AObj → Prop}
theorem e_nilo {j sz : Nat} {ty : TypeId} : effE b h (.nilo j sz ty) [] t d nx = (site h (b + j) = true ∧ nx (putA t d (.osl (b + j) (verOf (getO (b + j) h) + 1) sz 0 0)) (setO (b + j) h (.emp (verOf (getO (b + j) h) + 1)))) := (rfl)
theorem e_alloc {j : Nat} {ty : TypeId} {z : List AV} : effE b h (.alloc j ty z) [] t d nx = (site h (b + j) = true ∧ nx (putA t d (.op (b + j) (verOf (getO (b + j) h) + 1) 0)) (setO (b + j) h (.mem (verOf (getO (b + j) h) + 1) ty z))) := (rfl)
theorem e_box {j : Nat} {ty : TypeId} {v : AV} : effE b h (.box j ty) [v] t d nx = ((site h (b + j) = true ∧ v.solid = true) ∧ nx (putA t d (.op (b + j) (verOf (getO (b + j) h) + 1) 0)) (setO (b + j) h (.mem (verOf (getO (b + j) h) + 1) ty v.cells))) := (rfl)
theorem e_store {n k ver off : Nat} {v : AV} : effE b h (.store n) [.op k ver off, v] t d nx = (((cellsOf h k ver).isSome = true ∧ v.solid = true ∧ v.cells.length = n ∧ off + n ≤ ((cellsOf h k ver).getD []).length) ∧
    nx (putA t d (.tup [])) (setO k h (.mem ver (tyOf (getO k h)) (((cellsOf h k ver).getD []).take off ++ v.cells ++ ((cellsOf h k ver).getD []).drop (off + n))))) := (rfl)
theorem e_mkslc {j sz : Nat} {ty : TypeId} {z : List AV} {bytes : Nat} {l c : Int} : effE b h (.mkslc j sz ty z bytes) [.int .i64 l, .int .i64 c] t d nx = ((site h (b + j) = true ∧ z.length = sz ∧ 0 ≤ l ∧ l = c ∧ c * (bytes : Int) ≤ 140737488355328 ∧ c ≤ 140737488355328) ∧
      nx (putA t d (.osl (b + j) (verOf (getO (b + j) h) + 1) sz 0 l.toNat)) (setO (b + j) h (.mem (verOf (getO (b + j) h) + 1) ty (madeA z l.toNat)))) := (rfl)
theorem e_bslc {j sz n : Nat} {ty : TypeId} {z : List AV} {ps : List (Nat × Nat)} {vs : List AV} : effE b h (.bslc j sz n ty z ps) vs t d nx = ((site h (b + j) = true ∧ z.length = sz ∧ fillOk (n * sz) ps vs ∧ n ≤ 140737488355328) ∧
      nx (putA t d (.osl (b + j) (verOf (getO (b + j) h) + 1) sz 0 n)) (setO (b + j) h (.mem (verOf (getO (b + j) h) + 1) ty (fillA (madeA z n) ps vs)))) := by
  cases vs <;> rfl
theorem e_appnl {j sz : Nat} {ty : TypeId} {bytes : Nat} {y : AV} : effE b h (.app j sz ty bytes) [.nl, y] t d nx = (((sliceCells h y).isSome = true ∧ site h (b + j) = true ∧ ((sliceCells h y).getD (0, [])).2.length = ((sliceCells h y).getD (0, [])).1 * sz ∧
        (((sliceCells h y).getD (0, [])).1 : Int) * bytes ≤ 140737488355328 ∧ (((sliceCells h y).getD (0, [])).1 : Int) ≤ 140737488355328) ∧
      nx (putA t d (.osl (b + j) (verOf (getO (b + j) h) + 1) sz 0 ((sliceCells h y).getD (0, [])).1))
        (setO (b + j) h (if ((sliceCells h y).getD (0, [])).1 = 0 then .emp (verOf (getO (b + j) h) + 1) else .mem (verOf (getO (b + j) h) + 1) ty ((sliceCells h y).getD (0, [])).2))) := (rfl)
theorem e_app {j sz : Nat} {ty : TypeId} {bytes k ver sz' off m : Nat} {y : AV} : effE b h (.app j sz ty bytes) [.osl k ver sz' off m, y] t d nx = (((sliceCells h y).isSome = true ∧ liveS h k ver = true ∧ tyOk (getO k h) ty = true ∧ m * sz ≤ ((cellsOf h k ver).getD []).length ∧ apartS (.osl k ver sz' off m) y = true ∧ sz' = sz ∧ off = 0 ∧
        ((sliceCells h y).getD (0, [])).2.length = ((sliceCells h y).getD (0, [])).1 * sz ∧
        ((m + ((sliceCells h y).getD (0, [])).1 : Nat) : Int) * bytes ≤ 140737488355328 ∧ ((m + ((sliceCells h y).getD (0, [])).1 : Nat) : Int) ≤ 140737488355328) ∧
      nx (putA t d (.osl k (ver + 1) sz 0 (m + ((sliceCells h y).getD (0, [])).1)))
        (setO k h (appO (getO k h) ty ver (m * sz) ((sliceCells h y).getD (0, [])).1 ((sliceCells h y).getD (0, [])).2))) := (rfl)
theorem e_appsnl {j : Nat} {ty : TypeId} {s : List UInt8} : effE b h (.apps j ty) [.nl, .str s] t d nx = ((site h (b + j) = true ∧ (s.length : Int) ≤ 140737488355328) ∧
      nx (putA t d (.osl (b + j) (verOf (getO (b + j) h) + 1) 1 0 s.length))
        (setO (b + j) h (if s.length = 0 then .emp (verOf (getO (b + j) h) + 1) else .mem (verOf (getO (b + j) h) + 1) ty (bytesA s)))) := (rfl)
theorem e_apps {j : Nat} {ty : TypeId} {s : List UInt8} {k ver sz' off m : Nat} : effE b h (.apps j ty) [.osl k ver sz' off m, .str s] t d nx = ((liveS h k ver = true ∧ tyOk (getO k h) ty = true ∧ m ≤ ((cellsOf h k ver).getD []).length ∧ sz' = 1 ∧ off = 0 ∧ ((m + s.length : Nat) : Int) ≤ 140737488355328) ∧
      nx (putA t d (.osl k (ver + 1) 1 0 (m + s.length)))
        (setO k h (appO (getO k h) ty ver m s.length (bytesA s)))) := (rfl)
theorem putA_some {n : Nat} {v : AV} : putA t (some n) v = setA n t v := rfl
theorem putA_none {v : AV} : putA t none v = t := rfl
theorem sliceCells_nl : sliceCells h .nl = some (0, []) := rfl
theorem sliceCells_sl {n : Nat} {f : Nat → List AV} : sliceCells h (.sl n f) = some (n, (List.range n).flatMap f) := rfl
end
attribute [go_sem] getO_app0 getO_app setO_app0 setO_app verOf_mem verOf_emp tyOf_mem site_app site_app0 site_0_mem site_0_emp site_s cellsOf_app cellsOf_app0 cellsOf_0 cellsOf_s liveS_app liveS_app0 liveS_0_mem liveS_0_emp liveS_s tyOk_mem tyOk_emp b_add0 appO_mem appO_emp
attribute [go_sem] e_nilo e_alloc e_box e_store e_mkslc e_bslc e_appnl e_app e_appsnl e_apps putA_some putA_none sliceCells_nl sliceCells_sl
attribute [go_sem] List.set_cons_zero List.set_cons_succ Option.isSome_some List.take_zero List.take_succ_cons List.take_nil List.drop_nil List.nil_append List.cons_append List.append_nil Nat.reduceAdd Nat.reduceMul Nat.reduceSub Nat.reduceLeDiff Nat.reduceEqDiff Nat.zero_add
end AF

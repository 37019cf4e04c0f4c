import Derived.Shelf.Strings.BuilderX
import Derived.Shelf.RegionOpenPlain
import Derived.Lib.Strings
import Derived.Lib.Slices
import Derived.Lib.Walk
import Derived.Lib.Builder
import Derived.Lib.AppendStr
import Derived.Lib.UnsafeStr
import Derived.Lib.MakeNoZero
import Derived.WalkKit
import Derived.Laws.Externs
import Derived.Test.YtbccfgnihmfgmaaProg
set_option linter.all false
set_option linter.unusedSimpArgs false
set_option linter.unusedVariables false
set_option linter.unusedSectionVars false
section
/-! the text BL -/
set_option linter.unusedVariables false
namespace Go.Proofs
open Go.Shelf Go.RowKit
set_option maxHeartbeats 1000000 in
set_option maxRecDepth 100000 in
theorem cc_used (b : Nat) (w : World) (h0 : w.cell? ⟨b, 0, none⟩ = some (.pointer (some ⟨b, 0, none⟩))) :
    Calls Try.prog 97 #[.pointer (some ⟨b, 0, none⟩)] w fun e w' => e = .returned (.tuple #[]) ∧ w' = w := by
  obtain ⟨j, hj, _⟩ := Option.map_eq_some_iff.1 (show (Try.prog.info? 112).map (·.size) = some 2 by kernel_rfl)
  go_enter Try.func97, Try.ntmps97
  go_wp2
  rw [Lib.run_neq_ptr_same w _ Try.underlying109 hj]
  go_wp2
  go_end0
  exact ⟨rfl, rfl⟩
theorem lies112 (n : Nat) (hn : 2 ≤ n) : liesAt Try.prog Try.prog.depth 112 (n / Try.prog.cellsOf 112) 0 112 1 = true := by
  have e : Try.prog.cellsOf 112 = 2 := by kernel_rfl
  have hf : sameLayout Try.prog Try.prog.depth 112 112 = true := by kernel_rfl
  have h1 : 1 ≤ n / 2 := by omega
  rw [e]
  obtain ⟨d, hd⟩ : ∃ d, Try.prog.depth = d + 1 := ⟨2 * (Try.prog.types.size + Made.depth) + 1, rfl⟩
  have hr : rowAt Try.prog (sameLayout Try.prog Try.prog.depth · 112) Try.prog.depth 112 (n / 2) 0 1 = true := by
    conv => lhs; arg 3; rw [hd]
    unfold rowAt
    simp only [e]
    rw [if_neg (by omega)]
    simp [hf, h1]
  conv => lhs; arg 2; rw [hd]
  unfold liesAt
  rw [hr]
  rfl
set_option maxHeartbeats 1000000 in
set_option maxRecDepth 100000 in
theorem cc_fresh (b : Nat) (w : World) (h0 : w.cell? ⟨b, 0, none⟩ = some (.pointer none)) (n : Nat) (hn : 2 ≤ n) (hsh : w.shape? b = some (112, n)) (hfz : w.frozen? ⟨b, 0, none⟩ = false) :
    Calls Try.prog 97 #[.pointer (some ⟨b, 0, none⟩)] w fun e w' => e = .returned (.tuple #[]) ∧ w' = w.setCell ⟨b, 0, none⟩ (.pointer (some ⟨b, 0, none⟩)) := by
  obtain ⟨j, hj, hjs⟩ := Option.map_eq_some_iff.1 (show (Try.prog.info? 112).map (·.size) = some 2 by kernel_rfl)
  go_enter Try.func97, Try.ntmps97
  go_wp2
  rw [Lib.run_to_unsafe w ⟨b, 0, none⟩ Try.underlying109 Try.underlying153 hj (by rw [hjs]; decide) hsh (Nat.lt_of_lt_of_le (Nat.zero_lt_succ 1) hn)]
  simp only [Result.andThen]
  rw [Oper.upon_value]
  go_wp2
  rw [run_callFunc_extern Try.func123 (by kernel_rfl) (by kernel_rfl) (by kernel_rfl) (e := Extern.AbiNoEscape.same) (by kernel_rfl)]
  rw [Lib.run_noEscape]
  simp only [Result.andThen]
  rw [Oper.upon_value]
  go_wp2
  rw [Lib.run_from_unsafe w ⟨b, 0, none⟩ Try.underlying153 Try.underlying109 hj hsh (lies112 n hn)]
  simp only [Result.andThen]
  rw [Oper.upon_value]
  go_wp2
  go_end0
  exact ⟨rfl, rfl⟩
set_option maxHeartbeats 1000000 in
set_option maxRecDepth 100000 in
theorem str_some (b g cap : Nat) (l : List UInt8) (cur : Array Value) (w : World) (h0 : l ≠ []) (c0 : w.cell? ⟨b, 1, none⟩ = some (.slice (some ⟨g, 0, none⟩) l.length cap)) (hg : w.heap[g]? = some (.cells cur 5 (0, 0)))
    (hnc : l.length ≤ cap) (hcm : cap ≤ maxLen) (hcs : cap ≤ cur.size) (hcell : ∀ (j : Nat) x, l[j]? = some x → w.cell? ⟨g, j, none⟩ = some (.int .u8 x.toNat)) :
    Calls Try.prog 80 #[.pointer (some ⟨b, 0, none⟩)] w fun e w' => e = .returned (.string ⟨l.toArray⟩) ∧ w' = w.drew.freeze ⟨g, 0, none⟩ l.length := by
  have hl0 : l.length ≠ 0 := by simpa using h0
  have c1 : w.drew.cell? ⟨b, 1, none⟩ = some (.slice (some ⟨g, 0, none⟩) l.length cap) := c0
  have hSD : (Builtin.unsafeSliceData_ #[110] 132 #[.slice (some ⟨g, 0, none⟩) l.length cap]).run Try.prog w.drew = .ok (.pointer (some ⟨g, 0, none⟩)) w.drew :=
    Lib.run_unsafeSliceData_row _ _ _ _ _ _ (by omega)
  have hUS : (Builtin.unsafeString_ #[132, 3] 9 #[.pointer (some ⟨g, 0, none⟩), .int .i64 l.length]).run Try.prog w.drew = .ok (.string ⟨l.toArray⟩) (w.drew.freeze ⟨g, 0, none⟩ l.length) := by
    refine Lib.run_unsafeString_row w.drew 132 3 9 5 Try.underlying132 (by kernel_rfl) g cur.size (by have hg' : w.drew.heap[g]? = some (.cells cur 5 (0, 0)) := hg; simp [World.shape?, hg']) l h0 (by omega) (by unfold maxLen at hcm; omega) ?_
    intro j x hx
    have := hcell j x hx
    cases j with
    | zero => exact this
    | succ j =>
      have e : (⟨g, 0, none⟩ : Addr).add (j + 1) = ⟨g, j + 1, none⟩ := by
        unfold Addr.add
        rw [if_neg (Nat.succ_ne_zero j)]
        simp only [Nat.zero_add]
      rw [e]
      exact this
  have mixed : Try.prog.follows .mixedOrders = true := by kernel_rfl
  go_enter Try.func80, Try.ntmps80
  go_wp2
  go_region_o
  all_goals (go_wp2; go_ret; exact ⟨rfl, rfl⟩)
set_option maxHeartbeats 2000000 in
set_option maxRecDepth 100000 in
theorem str_none (b : Nat) (w : World) (c0 : w.cell? ⟨b, 1, none⟩ = some (.slice none 0 0)) :
    Calls Try.prog 80 #[.pointer (some ⟨b, 0, none⟩)] w fun e w' => e = .returned (.string ⟨#[]⟩) ∧ w' = w.drew := by
  have hUS : ∀ (W : World) (q : Option Addr), (Builtin.unsafeString_ #[132, 3] 9 #[.pointer q, .int .i64 0]).run Try.prog W = .ok (.string .empty) W := fun W q => Lib.run_unsafeString_none W _ _ _ q
  have c1 : w.drew.cell? ⟨b, 1, none⟩ = some (.slice none 0 0) := c0
  have hSD : (Builtin.unsafeSliceData_ #[110] 132 #[.slice none 0 0]).run Try.prog w.drew = .ok (.pointer none) w.drew := rfl
  have mixed : Try.prog.follows .mixedOrders = true := by kernel_rfl
  go_enter Try.func80, Try.ntmps80
  go_wp2
  go_region_o
  all_goals (go_wp2; go_ret; exact ⟨rfl, rfl⟩)
end Go.Proofs
end

/-
  The walks of a cell that is not there.
-/
import Derived.Test.YtfegglolblglpabC02t
namespace Go.Proofs.Ytfegglolblglpab
open Go.RowKit
set_option linter.unusedVariables false

theorem come_none (w : World) : Calls Try.prog 36 #[.pointer none] w (fun e w' => e = .returned (.bool false) ∧ w' = w) := by
  go_enter Try.func36, Try.ntmps36
  go_wp2_with fail
  go_ret
  exact ⟨rfl, rfl⟩

theorem Load_none (w : World) : Calls Try.prog 18 #[.pointer none] w (fun e w' => e = .returned (.int .i64 0) ∧ Below w.heap.size w w') := by
  go_enter Try.func18, Try.ntmps18
  go_wp2_with fail
  refine (come_none w).mono ?_
  rintro e w' ⟨rfl, hw⟩
  obtain rfl := hw.symm
  clear hw
  go_wp2_with fail
  go_ret
  exact ⟨rfl, Below.refl _ _⟩

theorem Store_none (v : Int) (w : World) : Calls Try.prog 23 #[.pointer none, .int .i64 v] w (fun e w' => e = .returned (.tuple #[]) ∧ Below w.heap.size w w') := by
  have hB : Below w.heap.size w (w.alloc (Obj.cells #[.int .i64 v] 3)) := (Below.refl _ _).alloc (Nat.le_refl _) _
  go_enter Try.func23, Try.ntmps23
  go_wp2_with fail
  refine (come_none _).mono ?_
  rintro e w' ⟨rfl, rfl⟩
  go_wp2_with fail
  refine bodyPost_end (v := .tuple #[]) (by simp [results, Try.results23, go_sem]) rfl ⟨rfl, hB⟩

theorem Swap_none (v : Int) (w : World) : Calls Try.prog 22 #[.pointer none, .int .i64 v] w (fun e w' => e = .returned (.int .i64 0) ∧ Below w.heap.size w w') := by
  have hB : Below w.heap.size w (w.alloc (Obj.cells #[.int .i64 v] 3)) := (Below.refl _ _).alloc (Nat.le_refl _) _
  go_enter Try.func22, Try.ntmps22
  go_wp2_with fail
  refine (come_none _).mono ?_
  rintro e w' ⟨rfl, rfl⟩
  go_wp2_with fail
  go_ret
  exact ⟨rfl, hB⟩

theorem Cas_none (u v : Int) (w : World) : Calls Try.prog 24 #[.pointer none, .int .i64 u, .int .i64 v] w (fun e w' => e = .returned (.bool (u == 0)) ∧ Below w.heap.size w w') := by
  have hB : Below w.heap.size w (w.alloc (Obj.cells #[.int .i64 v] 3)) := (Below.refl _ _).alloc (Nat.le_refl _) _
  go_enter Try.func24, Try.ntmps24
  go_wp2_with fail
  refine (come_none _).mono ?_
  rintro e w' ⟨rfl, rfl⟩
  go_wp2_with fail
  go_ret
  exact ⟨rfl, hB⟩

theorem Accesses_none (w : World) : Calls Try.prog 16 #[.pointer none] w (fun e w' => e = .returned (.int .i64 0) ∧ Below w.heap.size w w') := by
  go_enter Try.func16, Try.ntmps16
  go_wp2_with fail
  go_ret
  exact ⟨rfl, Below.refl _ _⟩

end Go.Proofs.Ytfegglolblglpab

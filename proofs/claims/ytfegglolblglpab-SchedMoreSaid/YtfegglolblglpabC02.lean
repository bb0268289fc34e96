/-
  The walks of the library's atomic pointers and counters as the cells use them.
-/
import Derived.Test.YtfegglolblglpabAt
import Derived.Test.YtfegglolblglpabBase
import Derived.Lib.Hide
namespace Go.Proofs.Ytfegglolblglpab
open Go.RowKit
set_option linter.unusedVariables false

theorem Try.un57 : Try.prog.underlying 57 = some .unsafePointer := by kernel_rfl
theorem Try.un53 : Try.prog.underlying 53 = some (.pointer 3) := by kernel_rfl
theorem Try.size3 : (Try.prog.info? 3).map (fun i => decide (i.size = 0)) = some false := by kernel_rfl
theorem Try.info3 : (Try.prog.info? 3).map (fun i => (i.zero, i.size, i.bytes)) = some (some (.int .i64 0), 1, 8) := by kernel_rfl
theorem Try.lies3 : liesAt Try.prog Try.prog.depth 3 (1 / Try.prog.cellsOf 3) 0 3 1 = true := by kernel_rfl

/-- Block b holds one number. -/
def One (b : Nat) (n : Int) (w : World) : Prop := w.heap[b]? = some (.cells #[.int .i64 n] 3 (0, 0))
theorem One.at {b : Nat} {n : Int} {w : World} (h : One b n w) : w.cell? ⟨b, 0, none⟩ = some (.int .i64 n) := by
  have h1 : w.heap[b]? = _ := h
  simp [World.cell?, h1]

set_option maxHeartbeats 1000000 in
theorem StoreP_calls (c b : Nat) (u : Value) (n : Int) (w : World) (hc : w.cell? ⟨c, 0, none⟩ = some u) (hz : w.frozen? ⟨c, 0, none⟩ = false) (hb : One b n w) :
    Calls Try.prog 34 #[.pointer (some ⟨c, 0, none⟩), .pointer (some ⟨b, 0, none⟩)] w (fun e w' => e = .returned (.tuple #[]) ∧ w' = w.setCell ⟨c, 0, none⟩ (.pointer (some ⟨b, 0, none⟩))) := by
  have h1 := run_convert_to_unsafe (P := Try.prog) Try.un53 Try.un57 Try.size3 hb.at
  have h2 := call_storep (P := Try.prog) (f := 47) Try.func47 (by kernel_rfl) (by kernel_rfl) (by kernel_rfl) (by kernel_rfl) (p := some ⟨b, 0, none⟩) hc hz
  go_enter Try.func34, Try.ntmps34
  go_wp2_with fail
  refine bodyPost_end (v := .tuple #[]) (by simp [results, Try.results34, go_sem]) rfl ⟨rfl, rfl⟩

theorem One.other {b : Nat} {n : Int} {w : World} (h : One b n w) {p : Addr} (hp : p.block ≠ b) (u : Value) : One b n (w.setCell p u) :=
  (Below.heap_setCell w p u b (fun e => hp e.symm)).trans h
theorem One.below {b B : Nat} {n : Int} {w w' : World} (h : One b n w) (hb : Below B w w') (hB : b < B) : One b n w' := (hb.block b hB).trans h
theorem One.lt {b : Nat} {n : Int} {w : World} (h : One b n w) : b < w.heap.size := (Array.getElem?_eq_some_iff.1 h).1

set_option maxHeartbeats 1000000 in
theorem LoadP_calls (c b : Nat) (n : Int) (w : World) (hc : w.cell? ⟨c, 0, none⟩ = some (.pointer (some ⟨b, 0, none⟩))) (hb : One b n w) :
    Calls Try.prog 37 #[.pointer (some ⟨c, 0, none⟩)] w (fun e w' => e = .returned (.pointer (some ⟨b, 0, none⟩)) ∧ w' = w) := by
  obtain ⟨i, hi, _, _, _⟩ := info_parts Try.info3
  have h1 := convert_back (P := Try.prog) Try.un57 Try.un53 hi Try.lies3 hb
  have h2 := call_loadp (P := Try.prog) (f := 50) Try.func50 (by kernel_rfl) (by kernel_rfl) (by kernel_rfl) (by kernel_rfl) hc
  go_enter Try.func37, Try.ntmps37
  go_wp2_with fail
  go_ret
  exact ⟨rfl, rfl⟩

set_option maxHeartbeats 1000000 in
theorem SwapP_calls (c b b' : Nat) (n n' : Int) (w : World) (hc : w.cell? ⟨c, 0, none⟩ = some (.pointer (some ⟨b, 0, none⟩))) (hz : w.frozen? ⟨c, 0, none⟩ = false) (hb : One b n w) (hb' : One b' n' w) (hne : c ≠ b) :
    Calls Try.prog 42 #[.pointer (some ⟨c, 0, none⟩), .pointer (some ⟨b', 0, none⟩)] w (fun e w' => e = .returned (.pointer (some ⟨b, 0, none⟩)) ∧ w' = w.setCell ⟨c, 0, none⟩ (.pointer (some ⟨b', 0, none⟩))) := by
  obtain ⟨i, hi, _, _, _⟩ := info_parts Try.info3
  have h1 := run_convert_to_unsafe (P := Try.prog) Try.un53 Try.un57 Try.size3 hb'.at
  have h2 := call_swapp (P := Try.prog) (f := 52) Try.func52 (by kernel_rfl) (by kernel_rfl) (by kernel_rfl) (by kernel_rfl) (p := some ⟨b', 0, none⟩) hc hz
  have h3 := convert_back (P := Try.prog) Try.un57 Try.un53 hi Try.lies3 (hb.other (p := ⟨c, 0, none⟩) hne (.pointer (some ⟨b', 0, none⟩)))
  go_enter Try.func42, Try.ntmps42
  go_wp2_with fail
  go_ret
  exact ⟨rfl, rfl⟩

set_option maxHeartbeats 1000000 in
theorem CasP_calls (c b b' : Nat) (n n' : Int) (w : World) (hc : w.cell? ⟨c, 0, none⟩ = some (.pointer (some ⟨b, 0, none⟩))) (hz : w.frozen? ⟨c, 0, none⟩ = false) (hb : One b n w) (hb' : One b' n' w) :
    Calls Try.prog 43 #[.pointer (some ⟨c, 0, none⟩), .pointer (some ⟨b, 0, none⟩), .pointer (some ⟨b', 0, none⟩)] w (fun e w' => e = .returned (.bool true) ∧ w' = w.setCell ⟨c, 0, none⟩ (.pointer (some ⟨b', 0, none⟩))) := by
  have h0 := run_convert_to_unsafe (P := Try.prog) Try.un53 Try.un57 Try.size3 hb.at
  have h1 := run_convert_to_unsafe (P := Try.prog) Try.un53 Try.un57 Try.size3 hb'.at
  have h2 := call_casp (P := Try.prog) (f := 51) Try.func51 (by kernel_rfl) (by kernel_rfl) (by kernel_rfl) (by kernel_rfl) (p := some ⟨b', 0, none⟩) hc hz
  go_enter Try.func43, Try.ntmps43
  go_wp2_with fail
  go_ret
  exact ⟨rfl, rfl⟩

set_option maxHeartbeats 1000000 in
theorem LoadN_calls (c : Nat) (k : Int) (w : World) (hc : w.cell? ⟨c, 1, none⟩ = some (.int .i64 k)) :
    Calls Try.prog 35 #[.pointer (some ⟨c, 1, none⟩)] w (fun e w' => e = .returned (.int .i64 k) ∧ w' = w) := by
  have h2 := run_call_load (P := Try.prog) (f := 48) Try.func48 (by kernel_rfl) (by kernel_rfl) (by kernel_rfl) .i64 (by kernel_rfl) hc
  go_enter Try.func35, Try.ntmps35
  go_wp2_with fail
  go_ret
  exact ⟨rfl, rfl⟩

end Go.Proofs.Ytfegglolblglpab

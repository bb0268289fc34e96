/-
  A block of one number, and a row of cells: how they are read, and kept while others are written.
-/
import Derived.Test.YtfegglolblglpabProg
import Derived.Test.YtfegglolblglpabBase
import Derived.Lib.Hide
namespace Go.Proofs.Ytfegglolblglpab
open Go.RowKit
set_option linter.unusedVariables false

theorem Try.info3 : (Try.prog.info? 3).map (fun i => (i.zero, i.size, i.bytes)) = some (some (.int .i64 0), 1, 8) := by kernel_rfl

/-- Block b holds one number. -/
def One (b : Nat) (n : Int) (w : World) : Prop := w.heap[b]? = some (.cells #[.int .i64 n] 3 (0, 0))
theorem One.other {b : Nat} {n : Int} {w : World} (h : One b n w) {p : Addr} (hp : p.block ≠ b) (u : Value) : One b n (w.setCell p u) :=
  (Below.heap_setCell w p u b (fun e => hp e.symm)).trans h
theorem One.below {b B : Nat} {n : Int} {w w' : World} (h : One b n w) (hb : Below B w w') (hB : b < B) : One b n w' := (hb.block b hB).trans h
theorem One.lt {b : Nat} {n : Int} {w : World} (h : One b n w) : b < w.heap.size := (Array.getElem?_eq_some_iff.1 h).1

theorem set_here {c : Nat} {vs : Array Value} {t : Nat} {w : World} (h : w.heap[c]? = some (.cells vs t (0, 0))) (i : Nat) (u : Value) : (w.setCell ⟨c, i, none⟩ u).heap[c]? = some (.cells (vs.setIfInBounds i u) t (0, 0)) := by
  obtain ⟨hlt, hk⟩ := Array.getElem?_eq_some_iff.1 h
  show (w.heap.modify c _)[c]? = _
  rw [Array.getElem?_eq_getElem (by rw [Array.size_modify]; exact hlt), Array.getElem_modify_self, hk]
  simp
theorem row_cell {c t i : Nat} {vs : Array Value} {v : Value} {w : World} (h : w.heap[c]? = some (.cells vs t (0, 0))) (hv : vs[i]? = some v) : w.cell? ⟨c, i, none⟩ = some v ∧ w.frozen? ⟨c, i, none⟩ = false := by
  constructor
  · unfold World.cell?
    rw [h]
    simpa using hv
  · unfold World.frozen?
    rw [h]
    simp

end Go.Proofs.Ytfegglolblglpab

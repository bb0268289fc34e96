/-
  The walks of layer 9: the ring of numbers, Pick and the document's Pick.
-/
import Derived.Test.YtfegglolblglpabOne
import Derived.Test.YtfegglolblglpabT09
namespace Go.Proofs.Ytfegglolblglpab
open Go.RowKit
set_option linter.unusedVariables false

/-- A ring: its counter (one less than k) in block bi, its slice in block bl. -/
def Ring (bi bl : Nat) (a : Option Addr) (n cap k : Nat) (w : World) : Prop := One bi ((k : Int) - 1) w ∧ w.heap[bl]? = some (.cells #[.slice a n cap] 22 (0, 0)) ∧ bi ≠ bl

theorem Ring.put {bi bl : Nat} {a : Option Addr} {n cap k : Nat} {w : World} (h : Ring bi bl a n cap k w) : Ring bi bl a n cap (k % n + 1) (w.setCell ⟨bi, 0, none⟩ (.int .i64 ((k : Int) % (n : Int)))) := by
  refine ⟨?_, ?_, h.2.2⟩
  · have := set_here h.1 0 (.int .i64 ((k : Int) % (n : Int)))
    show (w.setCell ⟨bi, 0, none⟩ (.int .i64 ((k : Int) % (n : Int)))).heap[bi]? = _
    rw [this]; simp
  · exact (Below.heap_setCell w ⟨bi, 0, none⟩ _ bl (fun e => h.2.2 e.symm)).trans h.2.1
theorem Ring.below {bi bl B : Nat} {a : Option Addr} {n cap k : Nat} {w w' : World} (h : Ring bi bl a n cap k w) (hb : Below B w w') (h1 : bi < B) (h2 : bl < B) : Ring bi bl a n cap k w' :=
  ⟨h.1.below hb h1, (hb.block bl h2).trans h.2.1, h.2.2⟩

set_option maxHeartbeats 1000000 in
theorem ring_calls (a : Option Addr) (n cap : Nat) (w : World) :
    Calls Try.prog 44 #[.slice a n cap] w (fun e w' => e = .returned (.func (.func 53) #[] #[.pointer (some ⟨w.heap.size + 1, 0, none⟩), .pointer (some ⟨w.heap.size, 0, none⟩)]) ∧ Ring (w.heap.size + 1) w.heap.size a n cap 0 w' ∧ Below w.heap.size w w' ∧ w'.heap.size = w.heap.size + 2) := by
  have h1 := heap_alloc_new w (Obj.cells #[.slice a n cap] 22)
  have h3 : ((w.alloc (Obj.cells #[.slice a n cap] 22)).alloc (Obj.cells #[.int .i64 (-1)] 3)).heap[w.heap.size]? = some (.cells #[.slice a n cap] 22 (0, 0)) := (heap_alloc_old (w.alloc (Obj.cells #[.slice a n cap] 22)) (Obj.cells #[.int .i64 (-1)] 3) (by simp)).trans h1
  have h4 : One (w.heap.size + 1) (-1) ((w.alloc (Obj.cells #[.slice a n cap] 22)).alloc (Obj.cells #[.int .i64 (-1)] 3)) := by
    have := heap_alloc_new (w.alloc (Obj.cells #[.slice a n cap] 22)) (Obj.cells #[.int .i64 (-1)] 3)
    rw [World.size_alloc] at this
    exact this
  have hB : Below w.heap.size w ((w.alloc (Obj.cells #[.slice a n cap] 22)).alloc (Obj.cells #[.int .i64 (-1)] 3)) := ((Below.refl _ w).alloc (Nat.le_refl _) _).alloc (by simp) _
  go_enter Try.func44, Try.ntmps44
  go_wp2_with fail
  go_ret
  exact ⟨rfl, ⟨h4, h3, by omega⟩, hB, by simp⟩

set_option maxHeartbeats 1000000 in
theorem next_calls (bi bl b o n cap k : Nat) (x : Int) (w : World) (h : Ring bi bl (some ⟨b, o, none⟩) n cap k w) (hn : 0 < n) (hm : n ≤ 9223372036854775807) (hk : k ≤ n) (hb : b ≠ bi) (hc : w.cell? ⟨b, o + k % n, none⟩ = some (.int .i64 x)) :
    Calls Try.prog 53 #[.pointer (some ⟨bi, 0, none⟩), .pointer (some ⟨bl, 0, none⟩)] w (fun e w' => e = .returned (.int .i64 x) ∧ w' = w.setCell ⟨bi, 0, none⟩ (.int .i64 ((k : Int) % (n : Int)))) := by
  obtain ⟨h1, h1'⟩ := row_cell (i := 0) (v := .int .i64 ((k : Int) - 1)) (h.1 : w.heap[bi]? = _) rfl
  obtain ⟨h2, h2'⟩ := row_cell (i := 0) (v := .slice (some ⟨b, o, none⟩) n cap) h.2.1 rfl
  obtain ⟨h3, h3'⟩ := row_cell (i := 0) (v := .int .i64 ((k : Int) % (n : Int))) (set_here (h.1 : w.heap[bi]? = _) 0 (.int .i64 ((k : Int) % (n : Int)))) (by simp)
  obtain ⟨h4, h4'⟩ := row_cell (i := 0) (v := .slice (some ⟨b, o, none⟩) n cap) h.put.2.1 rfl
  have h5 : (w.setCell ⟨bi, 0, none⟩ (.int .i64 ((k : Int) % (n : Int)))).cell? ⟨b, o + k % n, none⟩ = some (.int .i64 x) := (World.cell?_of_block (a := ⟨b, o + k % n, none⟩) (Below.heap_setCell w ⟨bi, 0, none⟩ _ b hb)).trans hc
  have m1 : 0 ≤ (k : Int) % (n : Int) := Int.emod_nonneg _ (by omega)
  have m2 : (k : Int) % (n : Int) < (n : Int) := Int.emod_lt_of_pos _ (by omega)
  have hz : ((n : Int) == 0) = false := by simp; omega
  clear h
  go_enter Try.func53, Try.ntmps53
  go_wp2_with fail
  go_ret
  exact ⟨rfl, rfl⟩

end Go.Proofs.Ytfegglolblglpab

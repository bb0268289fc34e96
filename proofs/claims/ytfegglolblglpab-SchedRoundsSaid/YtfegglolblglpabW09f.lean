/-
  The walk of picked: the chapter's example.
-/
import Derived.Test.YtfegglolblglpabW09c
import Derived.Test.YtfegglolblglpabW09d
import Derived.Test.YtfegglolblglpabSame
namespace Go.Proofs.Ytfegglolblglpab
open Go.RowKit
set_option linter.unusedVariables false

theorem lit_cells (w : World) (xs : List Int) : Cells (w.alloc (.cells (iv xs).toArray 3)) (some ⟨w.heap.size, 0, none⟩) (iv xs) := by
  intro i x hx
  refine ⟨w.heap.size, 0, rfl, ?_⟩
  exact (row_cell (heap_alloc_new w (.cells (iv xs).toArray 3)) (i := 0 + i) (by simpa using hx)).1

theorem GivesE.of {w : World} {xs ys : List Int} {E F : Int} {e : Ending} {w' : World} (h : GivesE w (Ints xs) E e w') (hx : xs = ys) (hE : E = F) : GivesE w (Ints ys) F e w' := by subst hx; subst hE; exact h

set_option maxRecDepth 100000 in
set_option maxHeartbeats 4000000 in
theorem picked_calls (w : World) : Calls Try.prog 29 #[] w (fun e w' => e = .returned (.bool true) ∧ Below w.heap.size w w') := by
  go_enter Try.func29, Try.ntmps29
  go_wp2_with fail
  have P1 := Pick_calls 5 (some ⟨w.heap.size, 0, none⟩) [4, 7, 9] 3 (by simp) (w.alloc (.cells #[.int .i64 4, .int .i64 7, .int .i64 9] 3)) (lit_cells w [4, 7, 9])
  rw [show pickV 5 [4, 7, 9] = 9 by decide, show pickE 5 [4, 7, 9] = 0 by decide] at P1
  refine P1.mono ?_
  clear P1
  rintro e w1 ⟨rfl, b1⟩
  have B1 := Lib.hid (((Below.refl _ w).alloc (Nat.le_refl _) _).trans (b1.mono (by simp)))
  clear b1
  go_wp2_with fail
  have P2 := Pick_calls 5 none [] 0 (by simp) w1 (Cells.nil _ _)
  rw [show pickV 5 [] = 0 by decide, show pickE 5 [] = 5 by decide] at P2
  refine P2.mono ?_
  clear P2
  rintro e w2 ⟨rfl, b2⟩
  have B2 := Lib.hid (B1.out.trans (b2.mono B1.out.size))
  clear b2 B1
  go_wp2_with fail
  have P3 := Pick_calls (-1) (some ⟨w2.heap.size, 0, none⟩) [1] 1 (by simp) (w2.alloc (.cells #[.int .i64 1] 3)) (lit_cells w2 [1])
  rw [show pickV (-1) [1] = 0 by decide, show pickE (-1) [1] = 1 by decide] at P3
  refine P3.mono ?_
  clear P3
  rintro e w3 ⟨rfl, b3⟩
  have B3 := Lib.hid (B2.out.trans (((Below.refl _ w2).alloc (Nat.le_refl _) _).trans (b3.mono (by simp)) |>.mono B2.out.size))
  clear b3 B2
  go_wp2_with fail
  refine (Round_calls 3 5 w3).mono ?_
  intro e w4 h4
  obtain ⟨v4, rfl, ⟨la, lc, rfl, l1, l2, l3⟩, b4⟩ := h4.of (ys := [0, 1, 2, 0, 1]) (F := 0) (by decide) (by decide)
  have B4 := Lib.hid (B3.out.trans (b4.mono B3.out.size))
  have L4 := Lib.hid l3
  clear b4 B3 h4 l3
  rw [show ([0, 1, 2, 0, 1] : List Int).length = 5 from rfl]
  go_wp2_with fail
  refine (Round_calls 9 1 w4).mono ?_
  intro e w5 h5
  obtain ⟨v5, rfl, ⟨_, _, rfl, _, _, _⟩, b5⟩ := h5.of (ys := []) (F := 1) (by decide) (by decide)
  have B5 := Lib.hid (B4.out.trans (b5.mono B4.out.size))
  have L5 := Lib.hid (L4.out.below b5)
  clear b5 B4 h5 L4
  go_wp2_with fail
  have hw6 : Below w5.heap.size w5 (w5.alloc (.cells #[.int .i64 0, .int .i64 1, .int .i64 2, .int .i64 0, .int .i64 1] 3)) := (Below.refl _ w5).alloc (Nat.le_refl _) _
  have P6 := Same_calls la (some ⟨w5.heap.size, 0, none⟩) [0, 1, 2, 0, 1] [0, 1, 2, 0, 1] lc 5 (by simp) (w5.alloc (.cells #[.int .i64 0, .int .i64 1, .int .i64 2, .int .i64 0, .int .i64 1] 3)) (L5.out.below hw6) (lit_cells w5 [0, 1, 2, 0, 1])
  rw [show eqI [0, 1, 2, 0, 1] [0, 1, 2, 0, 1] = true by decide] at P6
  refine P6.mono ?_
  clear P6
  rintro e w6 ⟨rfl, b6⟩
  have hb6 := hw6.trans (b6.mono hw6.size)
  have B6 := Lib.hid (B5.out.trans (hb6.mono B5.out.size))
  have L6 := Lib.hid (L5.out.below hb6)
  clear b6 hb6 hw6 B5 L5
  go_wp2_with fail
  have P7 := Fair_calls la [0, 1, 2, 0, 1] lc (by simp) 3 3 w6 L6.out
  rw [show fairL [0, 1, 2, 0, 1] 3 3 = true by decide] at P7
  refine P7.mono ?_
  clear P7
  rintro e w7 ⟨rfl, hw⟩
  obtain rfl := hw.symm
  clear hw
  go_wp2_with fail
  have P8 := Fair_calls la [0, 1, 2, 0, 1] lc (by simp) 3 2 w6 L6.out
  rw [show fairL [0, 1, 2, 0, 1] 3 2 = false by decide] at P8
  refine P8.mono ?_
  clear P8
  rintro e w8 ⟨rfl, hw⟩
  obtain rfl := hw.symm
  clear hw
  go_wp2_with fail
  have P9 := Most_calls (some ⟨w6.heap.size, 0, none⟩) [0, 0, 1, 0] 4 (by simp) 2 (w6.alloc (.cells #[.int .i64 0, .int .i64 0, .int .i64 1, .int .i64 0] 3)) (lit_cells w6 [0, 0, 1, 0])
  rw [show mostL [0, 0, 1, 0] 2 = 3 by decide] at P9
  refine P9.mono ?_
  clear P9
  rintro e w9 ⟨rfl, hw⟩
  have B9 := Lib.hid (show Below w.heap.size w w9 by rw [hw]; exact B6.out.alloc B6.out.size _)
  clear hw B6 L6
  go_wp2_with fail
  have P10 := Most_calls none [] 0 (by simp) 2 w9 (Cells.nil _ _)
  rw [show mostL [] 2 = 1 by decide] at P10
  refine P10.mono ?_
  clear P10
  rintro e w10 ⟨rfl, hw⟩
  obtain rfl := hw.symm
  clear hw
  go_wp2_with fail
  have P11 := Most_calls none [] 0 (by simp) 0 w9 (Cells.nil _ _)
  rw [show mostL [] 0 = 0 by decide] at P11
  refine P11.mono ?_
  clear P11
  rintro e w11 ⟨rfl, hw⟩
  obtain rfl := hw.symm
  clear hw
  go_wp2_with fail
  go_ret
  exact ⟨rfl, B9.out⟩

end Go.Proofs.Ytfegglolblglpab

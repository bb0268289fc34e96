/-
  The walk of the statement CellCas.
-/
import Derived.Test.YtfegglolblglpabHeld
namespace Go.Proofs.Ytfegglolblglpab
open Go.RowKit
set_option linter.unusedVariables false

set_option maxHeartbeats 2000000 in
theorem cellCas_walk (v a b : Int) (w : World) : Calls Try.prog 7 #[.int .i64 v, .int .i64 a, .int .i64 b] w (fun e w' => e = .returned (.bool true) ∧ Below w.heap.size w w') := by
  by_cases ha : a = v
  · subst ha
    go_enter Try.func7, Try.ntmps7
    go_wp2_with fail
    refine (New_calls a w).mono ?_
    rintro e w1 ⟨rfl, h1, b1⟩
    have c1 : Cell (w.heap.size + 1) a 0 w1 := ⟨_, h1⟩
    have hwc : w.heap.size ≤ w.heap.size + 1 := by omega
    have B1 := Lib.hid b1
    have C1 := Lib.hid c1
    clear h1 c1 b1
    generalize hcc : w.heap.size + 1 = c at *
    clear hcc
    go_wp2_with fail
    refine (Cas_cell a a C1.out).mono ?_
    rintro e w2 ⟨rfl, cc, l⟩
    rw [show inc64 0 = 1 by decide, if_pos rfl] at cc
    rw [show ((a : Int) == a) = true by simp]
    have B2 := Lib.hid (l.below B1.out B1.out.size hwc)
    have C2 := Lib.hid cc
    clear cc l B1 C1
    go_wp2_with fail
    refine (Cas_cell a b C2.out).mono ?_
    rintro e w3 ⟨rfl, cc, l⟩
    rw [show inc64 1 = 2 by decide, if_pos rfl] at cc
    rw [show ((a : Int) == a) = true by simp]
    have B3 := Lib.hid (l.below B2.out B2.out.size hwc)
    have C3 := Lib.hid cc
    clear cc l B2 C2
    go_wp2_with fail
    refine (Load_cell C3.out).mono ?_
    rintro e w4 ⟨rfl, cc, l⟩
    rw [show inc64 2 = 3 by decide] at cc
    have B4 := Lib.hid (l.below B3.out B3.out.size hwc)
    have C4 := Lib.hid cc
    clear cc l B3 C3
    go_wp2_with fail
    refine (held_calls w4).mono ?_
    rintro e w5 ⟨rfl, b5⟩
    have B5 := Lib.hid (B4.out.trans (b5.mono B4.out.size))
    obtain ⟨b9, hb9⟩ := C4.out.below b5
    have q1 : ((a : Int) == a) = true := by simp
    have q2 : ((b : Int) == b) = true := by simp
    clear b5 B4 C4
    go_wp2_with fail
    refine (Accesses_calls _ b9 _ _ w5 hb9).mono ?_
    rintro e w9 ⟨rfl, hw⟩
    obtain rfl := hw.symm
    clear hw
    go_wp2_with fail
    go_ret
    exact ⟨rfl, B5.out⟩
  · have hv : v ≠ a := fun h => ha h.symm
    have n1 : ((a : Int) == v) = false := by simpa using ha
    by_cases hb : a = b
    · subst hb
      go_enter Try.func7, Try.ntmps7
      go_wp2_with fail
      refine (New_calls v w).mono ?_
      rintro e w1 ⟨rfl, h1, b1⟩
      have c1 : Cell (w.heap.size + 1) v 0 w1 := ⟨_, h1⟩
      have hwc : w.heap.size ≤ w.heap.size + 1 := by omega
      have B1 := Lib.hid b1
      have C1 := Lib.hid c1
      clear h1 c1 b1
      generalize hcc : w.heap.size + 1 = c at *
      clear hcc
      go_wp2_with fail
      refine (Cas_cell v a C1.out).mono ?_
      rintro e w2 ⟨rfl, cc, l⟩
      rw [show inc64 0 = 1 by decide, if_pos rfl] at cc
      rw [show ((v : Int) == v) = true by simp]
      have B2 := Lib.hid (l.below B1.out B1.out.size hwc)
      have C2 := Lib.hid cc
      clear cc l B1 C1
      go_wp2_with fail
      refine (Cas_cell v a C2.out).mono ?_
      rintro e w3 ⟨rfl, cc, l⟩
      rw [show inc64 1 = 2 by decide, if_neg ha] at cc
      rw [show ((a : Int) == v) = false from n1]
      have B3 := Lib.hid (l.below B2.out B2.out.size hwc)
      have C3 := Lib.hid cc
      clear cc l B2 C2
      go_wp2_with fail
      refine (Load_cell C3.out).mono ?_
      rintro e w4 ⟨rfl, cc, l⟩
      rw [show inc64 2 = 3 by decide] at cc
      have B4 := Lib.hid (l.below B3.out B3.out.size hwc)
      have C4 := Lib.hid cc
      clear cc l B3 C3
      go_wp2_with fail
      refine (held_calls w4).mono ?_
      rintro e w5 ⟨rfl, b5⟩
      have B5 := Lib.hid (B4.out.trans (b5.mono B4.out.size))
      obtain ⟨b9, hb9⟩ := C4.out.below b5
      have q1 : ((a : Int) == a) = true := by simp
      clear b5 B4 C4
      go_wp2_with fail
      refine (Accesses_calls _ b9 _ _ w5 hb9).mono ?_
      rintro e w9 ⟨rfl, hw⟩
      obtain rfl := hw.symm
      clear hw
      go_wp2_with fail
      go_ret
      exact ⟨rfl, B5.out⟩
    · have n2 : ((a : Int) == b) = false := by simpa using hb
      go_enter Try.func7, Try.ntmps7
      go_wp2_with fail
      refine (New_calls v w).mono ?_
      rintro e w1 ⟨rfl, h1, b1⟩
      have c1 : Cell (w.heap.size + 1) v 0 w1 := ⟨_, h1⟩
      have hwc : w.heap.size ≤ w.heap.size + 1 := by omega
      have B1 := Lib.hid b1
      have C1 := Lib.hid c1
      clear h1 c1 b1
      generalize hcc : w.heap.size + 1 = c at *
      clear hcc
      go_wp2_with fail
      refine (Cas_cell v a C1.out).mono ?_
      rintro e w2 ⟨rfl, cc, l⟩
      rw [show inc64 0 = 1 by decide, if_pos rfl] at cc
      rw [show ((v : Int) == v) = true by simp]
      have B2 := Lib.hid (l.below B1.out B1.out.size hwc)
      have C2 := Lib.hid cc
      clear cc l B1 C1
      go_wp2_with fail
      refine (Cas_cell v b C2.out).mono ?_
      rintro e w3 ⟨rfl, cc, l⟩
      rw [show inc64 1 = 2 by decide, if_neg ha] at cc
      rw [show ((a : Int) == v) = false from n1]
      have B3 := Lib.hid (l.below B2.out B2.out.size hwc)
      have C3 := Lib.hid cc
      clear cc l B2 C2
      go_wp2_with fail
      refine (Load_cell C3.out).mono ?_
      rintro e w4 ⟨rfl, cc, l⟩
      rw [show inc64 2 = 3 by decide] at cc
      have B4 := Lib.hid (l.below B3.out B3.out.size hwc)
      have C4 := Lib.hid cc
      clear cc l B3 C3
      go_wp2_with fail
      refine (held_calls w4).mono ?_
      rintro e w5 ⟨rfl, b5⟩
      have B5 := Lib.hid (B4.out.trans (b5.mono B4.out.size))
      obtain ⟨b9, hb9⟩ := C4.out.below b5
      clear b5 B4 C4
      go_wp2_with fail
      refine (Accesses_calls _ b9 _ _ w5 hb9).mono ?_
      rintro e w9 ⟨rfl, hw⟩
      obtain rfl := hw.symm
      clear hw
      go_wp2_with fail
      go_ret
      exact ⟨rfl, B5.out⟩

end Go.Proofs.Ytfegglolblglpab

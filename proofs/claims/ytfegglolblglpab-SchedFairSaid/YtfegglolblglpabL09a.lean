/-
  The walks of the statements SchedPicks and SchedFair.
-/
import Derived.Test.YtfegglolblglpabW09e
import Derived.Test.YtfegglolblglpabW09f
namespace Go.Proofs.Ytfegglolblglpab
open Go.RowKit
set_option linter.unusedVariables false

theorem rdL_le (t n : Int) : (rdL t n).length ≤ 9223372036854775807 := by
  unfold rdL
  split
  · rename_i h; rw [roundL_length]; unfold rdOk at h; omega
  · simp

set_option maxRecDepth 100000 in
set_option maxHeartbeats 2000000 in
theorem schedPicks_walk (p : Int) (a : Option Addr) (xs : List Int) (cap : Nat) (t n : Int) (hll : xs.length ≤ 9223372036854775807) (w : World) (hC : Cells w a (iv xs)) :
    Calls Try.prog 8 #[.int .i64 p, .slice a xs.length cap, .int .i64 t, .int .i64 n] w (fun e w' => e = .returned (.bool true) ∧ Below w.heap.size w w') := by
  by_cases hl : xs.length ≤ 1000
  · have g1 : decide ((xs.length : Int) > 1000) = false := by simp; omega
    go_enter Try.func8, Try.ntmps8
    go_wp2_with fail
    refine (Pick_calls p a xs cap hll w hC).mono ?_
    rintro e w1 ⟨rfl, b1⟩
    have B1 := Lib.hid b1
    clear b1
    go_wp2_with fail
    refine (refPick_calls p a xs cap hll w1 (hC.below B1.out)).mono ?_
    rintro e w2 ⟨rfl, b2⟩
    have B2 := Lib.hid (B1.out.trans (b2.mono B1.out.size))
    clear b2 B1
    go_wp2_with fail
    refine (Round_calls t n w2).mono ?_
    rintro e w3 ⟨v3, rfl, ⟨la, lc, rfl, l1, l2, l3⟩, b3⟩
    have B3 := Lib.hid (B2.out.trans (b3.mono B2.out.size))
    have L3 := Lib.hid l3
    clear b3 l3 B2
    go_wp2_with fail
    refine (refRound_calls t n w3).mono ?_
    rintro e w4 ⟨v4, rfl, ⟨ma, mc, rfl, m1, m2, m3⟩, b4⟩
    have B4 := Lib.hid (B3.out.trans (b4.mono B3.out.size))
    have L4 := Lib.hid (L3.out.below b4)
    have M4 := Lib.hid m3
    clear b4 m3 B3 L3
    go_wp2_with fail
    refine (picked_calls w4).mono ?_
    rintro e w5 ⟨rfl, b5⟩
    have B5 := Lib.hid (B4.out.trans (b5.mono B4.out.size))
    have L5 := Lib.hid (L4.out.below b5)
    have M5 := Lib.hid (M4.out.below b5)
    clear b5 B4 L4 M4
    go_wp2_with fail
    refine (Same_calls la ma _ _ lc mc (rdL_le t n) w5 L5.out M5.out).mono ?_
    rintro e w6 ⟨rfl, b6⟩
    have B6 := Lib.hid (B5.out.trans (b6.mono B5.out.size))
    rw [show eqI (rdL t n) (rdL t n) = true by simp [eqI]]
    clear b6 B5
    go_wp2_with fail
    go_ret
    exact ⟨rfl, B6.out⟩
  · have g1 : decide ((xs.length : Int) > 1000) = true := by simp; omega
    go_enter Try.func8, Try.ntmps8
    go_wp2_with fail
    go_ret
    exact ⟨rfl, Below.refl _ _⟩

set_option maxRecDepth 100000 in
set_option maxHeartbeats 2000000 in
theorem schedFair_walk (a : Option Addr) (xs : List Int) (cap : Nat) (t n : Int) (hcap : xs.length ≤ cap) (hcm : cap ≤ 9223372036854775807) (hn : n ≤ 9223372036854775807) (w : World) (hC : Cells w a (iv xs)) :
    Calls Try.prog 9 #[.slice a xs.length cap, .int .i64 t, .int .i64 n] w (fun e w' => e = .returned (.bool true) ∧ Below w.heap.size w w') := by
  by_cases hl : xs.length ≤ 60
  · have g1 : decide ((xs.length : Int) > 60) = false := by simp; omega
    by_cases ht : t ≤ 20
    · have g2 : decide (t > 20) = false := by simp; omega
      go_enter Try.func9, Try.ntmps9
      go_wp2_with fail
      refine (picked_calls w).mono ?_
      rintro e w5 ⟨rfl, b5⟩
      have B5 := Lib.hid b5
      have L5 := Lib.hid (hC.below b5)
      clear b5
      go_wp2_with fail
      refine (Fair_calls a xs cap (by omega) t n w5 L5.out).mono ?_
      rintro e w' ⟨rfl, hw⟩
      obtain rfl := hw.symm
      clear hw
      go_wp2_with fail
      refine (refFair_calls a xs cap hcap hcm (by omega) t n (by omega) hn w5 L5.out).mono ?_
      rintro e w' ⟨rfl, hw⟩
      obtain rfl := hw.symm
      clear hw
      go_wp2_with fail
      refine (Most_calls a xs cap (by omega) t w5 L5.out).mono ?_
      rintro e w' ⟨rfl, hw⟩
      obtain rfl := hw.symm
      clear hw
      go_wp2_with fail
      refine (refMost_calls a xs cap hcap hcm (by omega) t (by omega) w5 L5.out).mono ?_
      rintro e w' ⟨rfl, hw⟩
      obtain rfl := hw.symm
      clear hw
      go_wp2_with fail
      go_ret
      exact ⟨rfl, B5.out⟩
    · have g2 : decide (t > 20) = true := by simp; omega
      clear ht
      go_enter Try.func9, Try.ntmps9
      go_wp2_with fail
      go_ret
      exact ⟨rfl, Below.refl _ _⟩
  · have g1 : decide ((xs.length : Int) > 60) = true := by simp; omega
    go_enter Try.func9, Try.ntmps9
    go_wp2_with fail
    go_ret
    exact ⟨rfl, Below.refl _ _⟩

end Go.Proofs.Ytfegglolblglpab

/-
  The walk of the statement SchedRounds.
-/
import Derived.Test.YtfegglolblglpabW09f
namespace Go.Proofs.Ytfegglolblglpab
open Go.RowKit
set_option linter.unusedVariables false

set_option maxRecDepth 100000 in
set_option maxHeartbeats 1000000 in
theorem rounds_bad (t n : Int) (h : ¬ rdOk t n) (w : World) :
    Calls Try.prog 11 #[.int .i64 t, .int .i64 n] w (fun e w' => e = .returned (.bool true) ∧ Below w.heap.size w w') := by
  have hE : rdE t n = 1 := by simp [rdE, h]
  have HE := Lib.hid hE
  clear hE
  unfold rdOk at h
  have H1 := Lib.hid h
  clear h
  go_enter Try.func11, Try.ntmps11
  go_wp2_with fail
  refine (Round_calls t n w).mono ?_
  rintro e w3 ⟨v3, rfl, ⟨la, lc, rfl, l1, l2, l3⟩, b3⟩
  rw [HE.out]
  have B3 := Lib.hid b3
  clear l1 l3 b3
  go_wp2_with fail
  refine (picked_calls w3).mono ?_
  rintro e w5 ⟨rfl, b5⟩
  have B5 := Lib.hid (B3.out.trans (b5.mono B3.out.size))
  clear b5
  have h := H1.out
  by_cases h1 : 1 ≤ t
  · have g1 : decide (t ≥ 1) = true := by simpa using h1
    by_cases h2 : t ≤ 8
    · have g2 : decide (t ≤ 8) = true := by simpa using h2
      by_cases h3 : 0 ≤ n
      · have g3 : decide (n ≥ 0) = true := by simpa using h3
        have g4 : decide (n ≤ 4000) = false := by simp; omega
        clear h h1 h2 h3
        go_wp2_with fail
        go_ret
        exact ⟨rfl, B5.out⟩
      · have g3 : decide (n ≥ 0) = false := by simp; omega
        clear h h1 h2 h3
        go_wp2_with fail
        go_ret
        exact ⟨rfl, B5.out⟩
    · have g2 : decide (t ≤ 8) = false := by simp; omega
      clear h h1 h2
      go_wp2_with fail
      go_ret
      exact ⟨rfl, B5.out⟩
  · have g1 : decide (t ≥ 1) = false := by simp; omega
    clear h h1
    go_wp2_with fail
    go_ret
    exact ⟨rfl, B5.out⟩

set_option maxRecDepth 100000 in
set_option maxHeartbeats 1000000 in
theorem rounds_long (t n : Int) (h : rdOk t n) (hn : 300 < n) (w : World) :
    Calls Try.prog 11 #[.int .i64 t, .int .i64 n] w (fun e w' => e = .returned (.bool true) ∧ Below w.heap.size w w') := by
  have hE : rdE t n = 0 := by simp [rdE, h]
  have HE := Lib.hid hE
  clear hE
  unfold rdOk at h
  obtain ⟨h1, h2, h3, h4⟩ := h
  have g0 : decide (n > 300) = true := by simpa using hn
  go_enter Try.func11, Try.ntmps11
  go_wp2_with fail
  refine (Round_calls t n w).mono ?_
  rintro e w3 ⟨v3, rfl, ⟨la, lc, rfl, l1, l2, l3⟩, b3⟩
  rw [HE.out]
  have B3 := Lib.hid b3
  clear l1 l3 b3
  go_wp2_with fail
  refine (picked_calls w3).mono ?_
  rintro e w5 ⟨rfl, b5⟩
  have B5 := Lib.hid (B3.out.trans (b5.mono B3.out.size))
  clear b5
  have g1 : decide (t ≥ 1) = true := by simpa using h1
  have g2 : decide (t ≤ 8) = true := by simpa using h2
  have g3 : decide (n ≥ 0) = true := by simpa using h3
  have g4 : decide (n ≤ 4000) = true := by simpa using h4
  go_wp2_with fail
  go_ret
  exact ⟨rfl, B5.out⟩

set_option maxRecDepth 100000 in
set_option maxHeartbeats 1000000 in
theorem rounds_good (m k : Nat) (h1 : 1 ≤ m) (h2 : m ≤ 8) (h3 : k ≤ 300) (w : World) :
    Calls Try.prog 11 #[.int .i64 m, .int .i64 k] w (fun e w' => e = .returned (.bool true) ∧ Below w.heap.size w w') := by
  have hok : rdOk m k := by unfold rdOk; omega
  have hE : rdE m k = 0 := by simp [rdE, hok]
  have hL : rdL m k = roundL m k := by simp [rdL, hok]
  have HE := Lib.hid hE
  have HL := Lib.hid hL
  have HN := Lib.hid (roundL_length m k)
  have g0 : decide ((k : Int) > 300) = false := by simp; omega
  clear hE hL hok
  have hR := Round_calls m k w
  rw [HE.out, HL.out] at hR
  go_enter Try.func11, Try.ntmps11
  go_wp2_with fail
  refine hR.mono ?_
  clear hR
  rintro e w3 ⟨v3, rfl, ⟨la, lc, rfl, l1, l2, l3⟩, b3⟩
  have B3 := Lib.hid b3
  have L3 := Lib.hid l3
  have hF := Fair_calls la (roundL m k) lc (by rw [HN.out]; omega) m m w3 L3.out
  rw [roundL_fair (by omega)] at hF
  rw [HN.out] at hF ⊢
  clear l1 l3 b3
  have hkk : ((k : Int) != (k : Int)) = false := by simp
  go_wp2_with fail
  refine hF.mono ?_
  clear hF
  rintro e w' ⟨rfl, hw⟩
  obtain rfl := hw.symm
  clear hw
  go_wp2_with fail
  refine (picked_calls w3).mono ?_
  rintro e w5 ⟨rfl, b5⟩
  have B5 := Lib.hid (B3.out.trans (b5.mono B3.out.size))
  have L5 := Lib.hid (L3.out.below b5)
  clear b5 L3 B3
  by_cases hkm : k < m
  · have g1 : decide ((k : Int) < (m : Int)) = true := by simpa using hkm
    go_wp2_with fail
    go_ret
    exact ⟨rfl, B5.out⟩
  · have g1 : decide ((k : Int) < (m : Int)) = false := by simpa using hkm
    have hM := Most_calls la (roundL m k) lc (by rw [HN.out]; omega) m w5 L5.out
    rw [roundL_most (by omega) (by omega), HN.out] at hM
    go_wp2_with fail
    refine hM.mono ?_
    clear hM
    rintro e w' ⟨rfl, hw⟩
    obtain rfl := hw.symm
    clear hw
    go_wp2_with fail
    go_ret
    exact ⟨rfl, B5.out⟩

theorem schedRounds_walk (t n : Int) (w : World) :
    Calls Try.prog 11 #[.int .i64 t, .int .i64 n] w (fun e w' => e = .returned (.bool true) ∧ Below w.heap.size w w') := by
  by_cases h : rdOk t n
  · by_cases hn : 300 < n
    · exact rounds_long t n h hn w
    · unfold rdOk at h
      obtain ⟨m, rfl⟩ := Int.eq_ofNat_of_zero_le (show 0 ≤ t by omega)
      obtain ⟨k, rfl⟩ := Int.eq_ofNat_of_zero_le (show 0 ≤ n by omega)
      exact rounds_good m k (by omega) (by omega) (by omega) w
  · exact rounds_bad t n h w

end Go.Proofs.Ytfegglolblglpab

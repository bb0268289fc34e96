/-
  The walks of the statements SchedMore and SchedRounds.
-/
import Derived.Test.YtfegglolblglpabW09e
import Derived.Test.YtfegglolblglpabW09f
namespace Go.Proofs.Ytfegglolblglpab
open Go.RowKit
set_option linter.unusedVariables false

theorem fairL_more {xs : List Int} {t b : Int} (h : fairL xs t b = true) : fairL xs t (b + 1) = true := by
  simp only [fairL, decide_eq_true_eq] at h ⊢; omega
theorem fairL_part {xs : List Int} {t b : Int} (h : fairL xs t b = true) (i n : Nat) : fairL (winL xs i n) t b = true := by
  have := mostL_part xs i n t
  simp only [fairL, decide_eq_true_eq] at h ⊢; omega
theorem win_end {xs : List Int} {w : World} {i n : Nat} (a : Option Addr) (h : xs.length ≤ i) : Cells w a (iv (winL xs i n)) := by
  have : winL xs i n = [] := by simp [winL, List.drop_eq_nil_of_le h]
  rw [this]
  exact Cells.nil _ _
theorem fairL_most {xs : List Int} {t b : Int} (h : fairL xs t b = true) : 1 ≤ b ∧ (mostL xs t : Int) ≤ b := by
  simp only [fairL, decide_eq_true_eq] at h; omega


set_option maxRecDepth 100000 in
set_option maxHeartbeats 1000000 in
theorem more_long (a : Option Addr) (xs : List Int) (cap : Nat) (t b from' to' : Int) (hl : 200 < xs.length) (w : World) (hC : Cells w a (iv xs)) :
    Calls Try.prog 10 #[.slice a xs.length cap, .int .i64 t, .int .i64 b, .int .i64 from', .int .i64 to'] w (fun e w' => e = .returned (.bool true) ∧ Below w.heap.size w w') := by
  have g1 : decide ((xs.length : Int) > 200) = true := by simp; omega
  go_enter Try.func10, Try.ntmps10
  go_wp2_with fail
  refine (picked_calls w).mono ?_
  rintro e w5 ⟨rfl, b5⟩
  go_wp2_with fail
  go_ret
  exact ⟨rfl, b5⟩


set_option maxRecDepth 100000 in
set_option maxHeartbeats 1000000 in
theorem more_t (a : Option Addr) (xs : List Int) (cap : Nat) (t b from' to' : Int) (hl : xs.length ≤ 200) (ht : 20 < t) (w : World) (hC : Cells w a (iv xs)) :
    Calls Try.prog 10 #[.slice a xs.length cap, .int .i64 t, .int .i64 b, .int .i64 from', .int .i64 to'] w (fun e w' => e = .returned (.bool true) ∧ Below w.heap.size w w') := by
  have g1 : decide ((xs.length : Int) > 200) = false := by simp; omega
  have g2 : decide (t > 20) = true := by simp; omega
  go_enter Try.func10, Try.ntmps10
  go_wp2_with fail
  refine (picked_calls w).mono ?_
  rintro e w5 ⟨rfl, b5⟩
  go_wp2_with fail
  go_ret
  exact ⟨rfl, b5⟩


set_option maxRecDepth 100000 in
set_option maxHeartbeats 1000000 in
theorem more_b (a : Option Addr) (xs : List Int) (cap : Nat) (t b from' to' : Int) (hl : xs.length ≤ 200) (ht : t ≤ 20) (hb : 1000 < b) (w : World) (hC : Cells w a (iv xs)) :
    Calls Try.prog 10 #[.slice a xs.length cap, .int .i64 t, .int .i64 b, .int .i64 from', .int .i64 to'] w (fun e w' => e = .returned (.bool true) ∧ Below w.heap.size w w') := by
  have g1 : decide ((xs.length : Int) > 200) = false := by simp; omega
  have g2 : decide (t > 20) = false := by simp; omega
  have g3 : decide (b > 1000) = true := by simp; omega
  go_enter Try.func10, Try.ntmps10
  go_wp2_with fail
  refine (picked_calls w).mono ?_
  rintro e w5 ⟨rfl, b5⟩
  go_wp2_with fail
  go_ret
  exact ⟨rfl, b5⟩


set_option maxRecDepth 100000 in
set_option maxHeartbeats 1000000 in
theorem more_f (a : Option Addr) (xs : List Int) (cap : Nat) (t b from' to' : Int) (hl : xs.length ≤ 200) (ht : t ≤ 20) (hb : b ≤ 1000) (hf : fairL xs t b = false) (w : World) (hC : Cells w a (iv xs)) :
    Calls Try.prog 10 #[.slice a xs.length cap, .int .i64 t, .int .i64 b, .int .i64 from', .int .i64 to'] w (fun e w' => e = .returned (.bool true) ∧ Below w.heap.size w w') := by
  have g1 : decide ((xs.length : Int) > 200) = false := by simp; omega
  have g2 : decide (t > 20) = false := by simp; omega
  have g3 : decide (b > 1000) = false := by simp; omega
  have HF := Lib.hid hf
  clear hf
  go_enter Try.func10, Try.ntmps10
  go_wp2_with fail
  refine (Fair_calls a xs cap (by omega) t b w hC).mono ?_
  rintro e w' ⟨rfl, hw⟩
  obtain rfl := hw.symm
  clear hw
  rw [HF.out]
  go_wp2_with fail
  refine (picked_calls w).mono ?_
  rintro e w5 ⟨rfl, b5⟩
  go_wp2_with fail
  go_ret
  exact ⟨rfl, b5⟩


set_option maxRecDepth 100000 in
set_option maxHeartbeats 1000000 in
theorem more_from (a : Option Addr) (xs : List Int) (cap : Nat) (t b from' to' : Int) (hl : xs.length ≤ 200) (ht : t ≤ 20) (hb : b ≤ 1000) (hf : fairL xs t b = true) (h5 : from' < 0) (w : World) (hC : Cells w a (iv xs)) :
    Calls Try.prog 10 #[.slice a xs.length cap, .int .i64 t, .int .i64 b, .int .i64 from', .int .i64 to'] w (fun e w' => e = .returned (.bool true) ∧ Below w.heap.size w w') := by
  have g1 : decide ((xs.length : Int) > 200) = false := by simp; omega
  have g2 : decide (t > 20) = false := by simp; omega
  have g3 : decide (b > 1000) = false := by simp; omega
  have g5 : decide (from' < 0) = true := by simpa using h5
  have HF := Lib.hid hf
  clear hf
  go_enter Try.func10, Try.ntmps10
  go_wp2_with fail
  refine (Fair_calls a xs cap (by omega) t b w hC).mono ?_
  rintro e w' ⟨rfl, hw⟩
  obtain rfl := hw.symm
  clear hw
  rw [HF.out]
  go_wp2_with fail
  refine (picked_calls w).mono ?_
  rintro e w5 ⟨rfl, b5⟩
  go_wp2_with fail
  go_ret
  exact ⟨rfl, b5⟩


set_option maxRecDepth 100000 in
set_option maxHeartbeats 1000000 in
theorem more_to (a : Option Addr) (xs : List Int) (cap : Nat) (t b from' to' : Int) (hl : xs.length ≤ 200) (ht : t ≤ 20) (hb : b ≤ 1000) (hf : fairL xs t b = true) (h5 : 0 ≤ from') (h6 : to' < from') (w : World) (hC : Cells w a (iv xs)) :
    Calls Try.prog 10 #[.slice a xs.length cap, .int .i64 t, .int .i64 b, .int .i64 from', .int .i64 to'] w (fun e w' => e = .returned (.bool true) ∧ Below w.heap.size w w') := by
  have g1 : decide ((xs.length : Int) > 200) = false := by simp; omega
  have g2 : decide (t > 20) = false := by simp; omega
  have g3 : decide (b > 1000) = false := by simp; omega
  have g5 : decide (from' < 0) = false := by simp; omega
  have g6 : decide (to' < from') = true := by simpa using h6
  have HF := Lib.hid hf
  clear hf
  go_enter Try.func10, Try.ntmps10
  go_wp2_with fail
  refine (Fair_calls a xs cap (by omega) t b w hC).mono ?_
  rintro e w' ⟨rfl, hw⟩
  obtain rfl := hw.symm
  clear hw
  rw [HF.out]
  go_wp2_with fail
  refine (picked_calls w).mono ?_
  rintro e w5 ⟨rfl, b5⟩
  go_wp2_with fail
  go_ret
  exact ⟨rfl, b5⟩


set_option maxRecDepth 100000 in
set_option maxHeartbeats 1000000 in
theorem more_len (a : Option Addr) (xs : List Int) (cap : Nat) (t b from' to' : Int) (hl : xs.length ≤ 200) (ht : t ≤ 20) (hb : b ≤ 1000) (hf : fairL xs t b = true) (h5 : 0 ≤ from') (h6 : from' ≤ to') (h7 : (xs.length : Int) < to') (w : World) (hC : Cells w a (iv xs)) :
    Calls Try.prog 10 #[.slice a xs.length cap, .int .i64 t, .int .i64 b, .int .i64 from', .int .i64 to'] w (fun e w' => e = .returned (.bool true) ∧ Below w.heap.size w w') := by
  have g1 : decide ((xs.length : Int) > 200) = false := by simp; omega
  have g2 : decide (t > 20) = false := by simp; omega
  have g3 : decide (b > 1000) = false := by simp; omega
  have g5 : decide (from' < 0) = false := by simp; omega
  have g6 : decide (to' < from') = false := by simp; omega
  have g7 : decide (to' > (xs.length : Int)) = true := by simp; omega
  have HF := Lib.hid hf
  clear hf
  go_enter Try.func10, Try.ntmps10
  go_wp2_with fail
  refine (Fair_calls a xs cap (by omega) t b w hC).mono ?_
  rintro e w' ⟨rfl, hw⟩
  obtain rfl := hw.symm
  clear hw
  rw [HF.out]
  go_wp2_with fail
  refine (picked_calls w).mono ?_
  rintro e w5 ⟨rfl, b5⟩
  go_wp2_with fail
  go_ret
  exact ⟨rfl, b5⟩


set_option maxRecDepth 100000 in
set_option maxHeartbeats 1000000 in
theorem more_good (b o : Nat) (xs : List Int) (cap : Nat) (hcap : xs.length ≤ cap) (hcm : cap ≤ 9223372036854775807) (t bd : Int) (i j : Nat) (hl : xs.length ≤ 200) (ht : t ≤ 20) (hb : bd ≤ 1000) (hf : fairL xs t bd = true) (h6 : i ≤ j) (h7 : j ≤ xs.length) (hic : i < cap) (w : World) (hC : Cells w (some ⟨b, o, none⟩) (iv xs)) :
    Calls Try.prog 10 #[.slice (some ⟨b, o, none⟩) xs.length cap, .int .i64 t, .int .i64 bd, .int .i64 i, .int .i64 j] w (fun e w' => e = .returned (.bool true) ∧ Below w.heap.size w w') := by
  have g1 : decide ((xs.length : Int) > 200) = false := by simp; omega
  have g2 : decide (t > 20) = false := by simp; omega
  have g3 : decide (bd > 1000) = false := by simp; omega
  have g5 : decide ((i : Int) < 0) = false := by simp
  have g6 : decide ((j : Int) < (i : Int)) = false := by simp; omega
  have g7 : decide ((j : Int) > (xs.length : Int)) = false := by simp; omega
  have hne : ¬ cap = i := by omega
  obtain ⟨q1, q2⟩ := fairL_most hf
  have HF := Lib.hid hf
  have HW := Lib.hid (winL_length (xs := xs) (i := i) (n := j - i) (by omega))
  clear hf
  go_enter Try.func10, Try.ntmps10
  go_wp2_with fail
  refine (Fair_calls _ xs cap (by omega) t bd w hC).mono ?_
  rintro e w' ⟨rfl, hw⟩
  obtain rfl := hw.symm
  clear hw
  rw [HF.out]
  go_wp2_with fail
  refine (picked_calls w).mono ?_
  rintro e w5 ⟨rfl, b5⟩
  have B5 := Lib.hid b5
  have C5 := Lib.hid (hC.below b5)
  clear b5
  go_wp2_with fail
  refine (Fair_calls _ xs cap (by omega) t (bd + 1) w5 C5.out).mono ?_
  rintro e w' ⟨rfl, hw⟩
  obtain rfl := hw.symm
  clear hw
  rw [fairL_more HF.out]
  go_wp2_with fail
  have HCW := C5.out.win i (j - i)
  have hF := Fair_calls (some ⟨b, o + i, none⟩) (winL xs i (j - i)) (cap - i) (by rw [HW.out]; omega) t bd w5 HCW
  rw [HW.out, fairL_part HF.out] at hF
  refine hF.mono ?_
  clear hF HCW
  rintro e w' ⟨rfl, hw⟩
  obtain rfl := hw.symm
  clear hw
  go_wp2_with fail
  refine (Most_calls _ xs cap (by omega) t w5 C5.out).mono ?_
  rintro e w' ⟨rfl, hw⟩
  obtain rfl := hw.symm
  clear hw
  go_wp2_with fail
  go_ret
  exact ⟨rfl, B5.out⟩


set_option maxRecDepth 100000 in
set_option maxHeartbeats 1000000 in
theorem more_end (b o : Nat) (xs : List Int) (t bd : Int) (hl : xs.length ≤ 200) (ht : t ≤ 20) (hb : bd ≤ 1000) (hf : fairL xs t bd = true) (w : World) (hC : Cells w (some ⟨b, o, none⟩) (iv xs)) :
    Calls Try.prog 10 #[.slice (some ⟨b, o, none⟩) xs.length xs.length, .int .i64 t, .int .i64 bd, .int .i64 xs.length, .int .i64 xs.length] w (fun e w' => e = .returned (.bool true) ∧ Below w.heap.size w w') := by
  have g1 : decide ((xs.length : Int) > 200) = false := by simp; omega
  have g2 : decide (t > 20) = false := by simp; omega
  have g3 : decide (bd > 1000) = false := by simp; omega
  have g5 : decide ((xs.length : Int) < 0) = false := by simp
  
  
  obtain ⟨q1, q2⟩ := fairL_most hf
  have HF := Lib.hid hf
  clear hf
  go_enter Try.func10, Try.ntmps10
  go_wp2_with fail
  refine (Fair_calls _ xs xs.length (by omega) t bd w hC).mono ?_
  rintro e w' ⟨rfl, hw⟩
  obtain rfl := hw.symm
  clear hw
  rw [HF.out]
  go_wp2_with fail
  refine (picked_calls w).mono ?_
  rintro e w5 ⟨rfl, b5⟩
  have B5 := Lib.hid b5
  have C5 := Lib.hid (hC.below b5)
  clear b5
  go_wp2_with fail
  refine (Fair_calls _ xs xs.length (by omega) t (bd + 1) w5 C5.out).mono ?_
  rintro e w' ⟨rfl, hw⟩
  obtain rfl := hw.symm
  clear hw
  rw [fairL_more HF.out]
  go_wp2_with fail
  have hF := Fair_calls (some ⟨b, o, none⟩) [] 0 (by simp) t bd w5 (Cells.nil _ _)
  have hp := fairL_part HF.out 0 0
  rw [show winL xs 0 0 = [] by simp [winL]] at hp
  rw [hp] at hF
  refine hF.mono ?_
  clear hF hp
  rintro e w' ⟨rfl, hw⟩
  obtain rfl := hw.symm
  clear hw
  go_wp2_with fail
  refine (Most_calls _ xs xs.length (by omega) t w5 C5.out).mono ?_
  rintro e w' ⟨rfl, hw⟩
  obtain rfl := hw.symm
  clear hw
  go_wp2_with fail
  go_ret
  exact ⟨rfl, B5.out⟩
set_option maxRecDepth 100000 in
set_option maxHeartbeats 1000000 in
theorem more_nil (t bd : Int) (ht : t ≤ 20) (hb : bd ≤ 1000) (hf : fairL [] t bd = true) (w : World) :
    Calls Try.prog 10 #[.slice none 0 0, .int .i64 t, .int .i64 bd, .int .i64 0, .int .i64 0] w (fun e w' => e = .returned (.bool true) ∧ Below w.heap.size w w') := by
  have g2 : decide (t > 20) = false := by simp; omega
  have g3 : decide (bd > 1000) = false := by simp; omega
  obtain ⟨q1, q2⟩ := fairL_most hf
  have HF := Lib.hid hf
  clear hf
  go_enter Try.func10, Try.ntmps10
  go_wp2_with fail
  have hF := Fair_calls none [] 0 (by simp) t bd w (Cells.nil _ _)
  rw [HF.out] at hF
  refine hF.mono ?_
  clear hF
  rintro e w' ⟨rfl, hw⟩
  obtain rfl := hw.symm
  clear hw
  go_wp2_with fail
  refine (picked_calls w).mono ?_
  rintro e w5 ⟨rfl, b5⟩
  have B5 := Lib.hid b5
  clear b5
  go_wp2_with fail
  have hF := Fair_calls none [] 0 (by simp) t (bd + 1) w5 (Cells.nil _ _)
  rw [fairL_more HF.out] at hF
  refine hF.mono ?_
  clear hF
  rintro e w' ⟨rfl, hw⟩
  obtain rfl := hw.symm
  clear hw
  go_wp2_with fail
  have hF := Fair_calls none [] 0 (by simp) t bd w5 (Cells.nil _ _)
  rw [HF.out] at hF
  refine hF.mono ?_
  clear hF
  rintro e w' ⟨rfl, hw⟩
  obtain rfl := hw.symm
  clear hw
  go_wp2_with fail
  refine (Most_calls none [] 0 (by simp) t w5 (Cells.nil _ _)).mono ?_
  rintro e w' ⟨rfl, hw⟩
  obtain rfl := hw.symm
  clear hw
  go_wp2_with fail
  go_ret
  exact ⟨rfl, B5.out⟩

set_option maxRecDepth 100000 in
set_option maxHeartbeats 1000000 in
theorem more_none (ad : Addr) (cap : Nat) (t bd : Int) (ht : t ≤ 20) (hb : bd ≤ 1000) (hf : fairL [] t bd = true) (w : World) :
    Calls Try.prog 10 #[.slice (some ad) 0 cap, .int .i64 t, .int .i64 bd, .int .i64 0, .int .i64 0] w (fun e w' => e = .returned (.bool true) ∧ Below w.heap.size w w') := by
  have g2 : decide (t > 20) = false := by simp; omega
  have g3 : decide (bd > 1000) = false := by simp; omega
  obtain ⟨q1, q2⟩ := fairL_most hf
  have HF := Lib.hid hf
  clear hf
  go_enter Try.func10, Try.ntmps10
  go_wp2_with fail
  have hF := Fair_calls (some ad) [] cap (by simp) t bd w (Cells.nil _ _)
  rw [HF.out] at hF
  refine hF.mono ?_
  clear hF
  rintro e w' ⟨rfl, hw⟩
  obtain rfl := hw.symm
  clear hw
  go_wp2_with fail
  refine (picked_calls w).mono ?_
  rintro e w5 ⟨rfl, b5⟩
  have B5 := Lib.hid b5
  clear b5
  go_wp2_with fail
  have hF := Fair_calls (some ad) [] cap (by simp) t (bd + 1) w5 (Cells.nil _ _)
  rw [fairL_more HF.out] at hF
  refine hF.mono ?_
  clear hF
  rintro e w' ⟨rfl, hw⟩
  obtain rfl := hw.symm
  clear hw
  go_wp2_with fail
  have hF := Fair_calls (some ad) [] cap (by simp) t bd w5 (Cells.nil _ _)
  rw [HF.out] at hF
  refine hF.mono ?_
  clear hF
  rintro e w' ⟨rfl, hw⟩
  obtain rfl := hw.symm
  clear hw
  go_wp2_with fail
  refine (Most_calls (some ad) [] cap (by simp) t w5 (Cells.nil _ _)).mono ?_
  rintro e w' ⟨rfl, hw⟩
  obtain rfl := hw.symm
  clear hw
  go_wp2_with fail
  go_ret
  exact ⟨rfl, B5.out⟩

theorem schedMore_walk (a : Option Addr) (xs : List Int) (cap : Nat) (t b i j : Int) (hcap : xs.length ≤ cap) (hcm : cap ≤ 9223372036854775807) (hn : a = none → xs = [] ∧ cap = 0) (w : World) (hC : Cells w a (iv xs)) :
    Calls Try.prog 10 #[.slice a xs.length cap, .int .i64 t, .int .i64 b, .int .i64 i, .int .i64 j] w (fun e w' => e = .returned (.bool true) ∧ Below w.heap.size w w') := by
  by_cases hl : xs.length ≤ 200
  · by_cases ht : t ≤ 20
    · by_cases hb : b ≤ 1000
      · cases hf : fairL xs t b with
        | false => exact more_f a xs cap t b i j hl ht hb hf w hC
        | true =>
          by_cases h5 : i < 0
          · exact more_from a xs cap t b i j hl ht hb hf h5 w hC
          · by_cases h6 : j < i
            · exact more_to a xs cap t b i j hl ht hb hf (by omega) h6 w hC
            · by_cases h7 : (xs.length : Int) < j
              · exact more_len a xs cap t b i j hl ht hb hf (by omega) (by omega) h7 w hC
              · obtain ⟨i', rfl⟩ := Int.eq_ofNat_of_zero_le (show 0 ≤ i by omega)
                obtain ⟨j', rfl⟩ := Int.eq_ofNat_of_zero_le (show 0 ≤ j by omega)
                rcases a with _ | ad
                · obtain ⟨rfl, rfl⟩ := hn rfl
                  obtain rfl : j' = 0 := by simp at h7; omega
                  obtain rfl : i' = 0 := by omega
                  exact more_nil t b ht hb hf w
                · by_cases hx : xs.length = 0
                  · obtain rfl := List.length_eq_zero_iff.1 hx
                    obtain rfl : j' = 0 := by simp at h7; omega
                    obtain rfl : i' = 0 := by omega
                    exact more_none ad cap t b ht hb hf w
                  · obtain ⟨x0, hx0⟩ := get_of_lt (xs := xs) (k := 0) (by omega)
                    obtain ⟨bb, o, e, hc⟩ := hC _ _ (iv_get hx0)
                    cases e
                    by_cases hic : i' < cap
                    · exact more_good bb o xs cap hcap hcm t b i' j' hl ht hb hf (by omega) (by omega) hic w hC
                    · obtain rfl : i' = xs.length := by omega
                      obtain rfl : j' = xs.length := by omega
                      obtain rfl : cap = xs.length := by omega
                      exact more_end bb o xs t b hl ht hb hf w hC
      · exact more_b a xs cap t b i j hl ht (by omega) w hC
    · exact more_t a xs cap t b i j hl (by omega) w hC
  · exact more_long a xs cap t b i j (by omega) w hC

end Go.Proofs.Ytfegglolblglpab

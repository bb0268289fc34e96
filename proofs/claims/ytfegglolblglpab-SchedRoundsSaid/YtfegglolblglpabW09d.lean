/-
  The walks of layer 9: gap, Most, Fair.
-/
import Derived.Test.YtfegglolblglpabOne
import Derived.Test.YtfegglolblglpabT09
namespace Go.Proofs.Ytfegglolblglpab
open Go.RowKit
set_option linter.unusedVariables false

theorem gapTo_hit {xs : List Int} {t : Int} {k : Nat} (h : xs[k]? = some t) : gapTo xs t (k + 1) = ((gapTo xs t k).1, 0) := by simp [gapTo, h]
theorem gapTo_miss {xs : List Int} {t x : Int} {k : Nat} (h : xs[k]? = some x) (hne : x ≠ t) : gapTo xs t (k + 1) = (max (gapTo xs t k).1 ((gapTo xs t k).2 + 1), (gapTo xs t k).2 + 1) := by simp [gapTo, h, hne]

theorem max_if (a b : Nat) : (if (a : Int) < (b : Int) + 1 then (b : Int) + 1 else (a : Int)) = ((max a (b + 1) : Nat) : Int) := by split <;> omega
theorem max_if2 (a b : Nat) : (if a < b then (b : Int) else (a : Int)) = ((max a b : Nat) : Int) := by split <;> omega

theorem min_if (a b : Nat) : (if (b : Int) + 1 < (a : Int) then (b : Int) + 1 else (a : Int)) = ((min a (b + 1) : Nat) : Int) := by split <;> omega

set_option maxHeartbeats 1000000 in
theorem gap_calls (a : Option Addr) (xs : List Int) (cap : Nat) (hl : xs.length ≤ 1000) (t : Int) (w : World) (hC : Cells w a (iv xs)) :
    Calls Try.prog 46 #[.slice a xs.length cap, .int .i64 t] w (fun e w' => e = .returned (.int .i64 (gapL xs t)) ∧ w' = w) := by
  unfold gapL
  go_enter Try.func46, Try.ntmps46
  go_wp2_with fail
  go_loop [5, 6, 11] (fun lv nv kv => ∃ k : Nat, k ≤ xs.length ∧ kv = .int .i64 k ∧ lv = .int .i64 ((gapTo xs t k).1 : Nat) ∧ nv = .int .i64 ((gapTo xs t k).2 : Nat))
    (fun _ _ kv => xs.length - (intOf kv).toNat)
  case atStart => exact ⟨0, Nat.zero_le _, rfl, rfl, rfl⟩
  case round =>
    obtain ⟨k, hk, rfl, rfl, rfl⟩ := hrel
    obtain ⟨s1, s2, _⟩ := gapTo_spec xs t k hk
    by_cases hlt : k < xs.length
    · obtain ⟨x, hx⟩ := get_of_lt hlt
      obtain ⟨b, o, rfl, hc⟩ := hC _ _ (iv_get hx)
      by_cases hxt : x = t
      · subst hxt
        have HG := Lib.hid (gapTo_hit hx)
        have hb : ((x : Int) == x) = true := by simp
        clear hx
        go_wp2_with fail
        go_round
        case rel => exact ⟨k + 1, by omega, by go_num, by rw [HG.out], by rw [HG.out]; rfl⟩
        case measure => simp [intOf]; omega
      · have HG := Lib.hid (gapTo_miss hx hxt)
        have hb : ((x : Int) == t) = false := by simpa using hxt
        clear hx hxt
        go_wp2_with fail
        go_round
        case rel => exact ⟨k + 1, by omega, by go_num, by rw [HG.out, max_if], by rw [HG.out]; go_num⟩
        case measure => simp [intOf]; omega
    · obtain rfl : k = xs.length := by omega
      go_wp2_with fail
      go_ret
      exact ⟨rfl, rfl⟩

set_option maxHeartbeats 1000000 in
theorem Most_calls (a : Option Addr) (xs : List Int) (cap : Nat) (hl : xs.length ≤ 1000) (threads : Int) (w : World) (hC : Cells w a (iv xs)) :
    Calls Try.prog 32 #[.slice a xs.length cap, .int .i64 threads] w (fun e w' => e = .returned (.int .i64 (mostL xs threads)) ∧ w' = w) := by
  by_cases ht : threads < 1
  · have e : mostL xs threads = 0 := by simp [mostL, ht]
    rw [e]
    clear e
    go_enter Try.func32, Try.ntmps32
    go_wp2_with fail
    go_ret
    exact ⟨rfl, rfl⟩
  · by_cases hx : xs.length = 0
    · obtain rfl := List.length_eq_zero_iff.1 hx
      rw [mostL_nil threads ht, List.length_nil]
      clear hx hC
      go_enter Try.func32, Try.ntmps32
      go_wp2_with fail
      go_ret
      exact ⟨rfl, rfl⟩
    · rw [mostL_some xs threads ht]
      obtain ⟨m, rfl⟩ := Int.eq_ofNat_of_zero_le (show 0 ≤ threads by omega)
      have hz : ((xs.length : Int) == 0) = false := by simpa using hx
      have hmn := min_if m xs.length
      simp only [Int.toNat_natCast]
      have hb : min m (xs.length + 1) ≤ 1001 := by omega
      clear hx
      generalize min m (xs.length + 1) = r at *
      go_enter Try.func32, Try.ntmps32
      go_wp2_with fail
      go_loop [5, 17] (fun lv kv => ∃ k : Nat, k ≤ r ∧ kv = .int .i64 k ∧ lv = .int .i64 (mx xs k : Nat))
        (fun _ kv => r - (intOf kv).toNat)
      case atStart => exact ⟨0, Nat.zero_le _, rfl, rfl⟩
      case round =>
        obtain ⟨k, hk, rfl, rfl⟩ := hrel
        have s1 := mx_le xs k
        by_cases hlt : k < r
        · have s2 := gapL_le xs (k : Int)
          go_wp2_with fail
          refine (gap_calls a xs cap hl (k : Int) w hC).mono ?_
          rintro e w' ⟨rfl, hw⟩
          obtain rfl := hw.symm
          clear hw
          go_wp2_with fail
          go_round
          case rel => exact ⟨k + 1, by omega, by go_num, by rw [max_if2]; rfl⟩
          case measure => simp [intOf]; omega
        · obtain rfl : k = r := by omega
          go_wp2_with fail
          go_ret
          exact ⟨by go_num, rfl⟩

theorem Fair_calls (a : Option Addr) (xs : List Int) (cap : Nat) (hl : xs.length ≤ 1000) (threads bound : Int) (w : World) (hC : Cells w a (iv xs)) :
    Calls Try.prog 30 #[.slice a xs.length cap, .int .i64 threads, .int .i64 bound] w (fun e w' => e = .returned (.bool (fairL xs threads bound)) ∧ w' = w) := by
  by_cases h1 : 1 ≤ threads
  · have g1 : decide (threads ≥ 1) = true := by simpa using h1
    by_cases h2 : 1 ≤ bound
    · have g2 : decide (bound ≥ 1) = true := by simpa using h2
      rw [fairL_iff h1 h2]
      clear h1 h2
      go_enter Try.func30, Try.ntmps30
      go_wp2_with fail
      refine (Most_calls a xs cap hl threads w hC).mono ?_
      rintro e w' ⟨rfl, hw⟩
      obtain rfl := hw.symm
      clear hw
      go_wp2_with fail
      go_ret
      exact ⟨rfl, rfl⟩
    · have g2 : decide (bound ≥ 1) = false := by simp; omega
      rw [fairL_bad (.inr (by omega))]
      clear h1 h2
      go_enter Try.func30, Try.ntmps30
      go_wp2_with fail
      go_ret
      exact ⟨rfl, rfl⟩
  · have g1 : decide (threads ≥ 1) = false := by simp; omega
    rw [fairL_bad (.inl (by omega))]
    clear h1
    go_enter Try.func30, Try.ntmps30
    go_wp2_with fail
    go_ret
    exact ⟨rfl, rfl⟩

end Go.Proofs.Ytfegglolblglpab

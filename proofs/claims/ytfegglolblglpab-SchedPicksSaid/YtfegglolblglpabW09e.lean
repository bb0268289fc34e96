/-
  The walks of layer 9: the document's Fair and Most.
-/
import Derived.Test.YtfegglolblglpabOne
import Derived.Test.YtfegglolblglpabT09
namespace Go.Proofs.Ytfegglolblglpab
open Go.RowKit
set_option linter.unusedVariables false

/-- Is a number in a part? -/
def hasL (xs : List Int) (n : Int) : Bool := decide (n ∈ xs)

set_option maxHeartbeats 1000000 in
theorem has_calls (a : Option Addr) (xs : List Int) (cap : Nat) (hl : xs.length ≤ 1000) (n : Int) (w : World) (hC : Cells w a (iv xs)) :
    Calls Try.prog 45 #[.slice a xs.length cap, .int .i64 n] w (fun e w' => e = .returned (.bool (hasL xs n)) ∧ w' = w) := by
  go_enter Try.func45, Try.ntmps45
  go_wp2_with fail
  go_loop [5] (fun kv => ∃ k : Nat, k ≤ xs.length ∧ kv = .int .i64 k ∧ Hid (n ∉ xs.take k))
    (fun kv => xs.length - (intOf kv).toNat)
  case atStart => exact ⟨0, Nat.zero_le _, rfl, Lib.hid (by simp)⟩
  case round =>
    obtain ⟨k, hk, rfl, HN⟩ := hrel
    by_cases hlt : k < xs.length
    · obtain ⟨x, hx⟩ := get_of_lt hlt
      obtain ⟨b, o, rfl, hc⟩ := hC _ _ (iv_get hx)
      have HX := Lib.hid hx
      clear hx
      by_cases hxt : x = n
      · have hb : ((x : Int) == n) = true := by simpa using hxt
        have hr : hasL xs n = true := by simp only [hasL, decide_eq_true_eq]; rw [← hxt]; exact List.mem_of_getElem? HX.out
        have HR := Lib.hid hr
        clear hr hxt
        go_wp2_with fail
        go_ret
        exact ⟨by rw [HR.out]; rfl, rfl⟩
      · have hb : ((x : Int) == n) = false := by simpa using hxt
        have HT := Lib.hid hxt
        clear hxt
        go_wp2_with fail
        go_round
        case rel =>
          refine ⟨k + 1, by omega, by go_num, Lib.hid ?_⟩
          rw [List.take_add_one, HX.out]
          simp only [Option.toList_some, List.mem_append, List.mem_singleton, not_or]
          exact ⟨HN.out, fun e => HT.out e.symm⟩
        case measure => simp [intOf]; omega
    · obtain rfl : k = xs.length := by omega
      have hr : hasL xs n = false := by
        have := HN.out
        rw [List.take_of_length_le (Nat.le_refl _)] at this
        simpa [hasL] using this
      have HR := Lib.hid hr
      clear hr
      go_wp2_with fail
      go_ret
      exact ⟨by rw [HR.out]; rfl, rfl⟩

theorem Cells.win {w : World} {b o : Nat} {xs : List Int} (h : Cells w (some ⟨b, o, none⟩) (iv xs)) (i n : Nat) : Cells w (some ⟨b, o + i, none⟩) (iv (winL xs i n)) := by
  intro j x hx
  simp only [iv, winL, List.getElem?_map, List.getElem?_take, Option.map_eq_some_iff] at hx
  obtain ⟨y, hy, rfl⟩ := hx
  split at hy
  · rw [List.getElem?_drop] at hy
    obtain ⟨b', o', e, hc⟩ := h (i + j) _ (iv_get hy)
    cases e
    exact ⟨b, o + i, rfl, by rw [Nat.add_assoc]; exact hc⟩
  · cases hy
theorem winL_length {xs : List Int} {i n : Nat} (h : i + n ≤ xs.length) : (winL xs i n).length = n := by simp [winL]; omega

set_option maxRecDepth 100000 in
set_option maxHeartbeats 2000000 in
theorem refFair_good (b o : Nat) (xs : List Int) (cap : Nat) (hcap : xs.length ≤ cap) (hcm : cap ≤ 9223372036854775807) (hl : xs.length ≤ 1000) (m n : Nat) (hm : 1 ≤ m) (hm2 : m ≤ 1000) (hn : 1 ≤ n) (hnl : n ≤ xs.length) (w : World) (hC : Cells w (some ⟨b, o, none⟩) (iv xs)) :
    Calls Try.prog 31 #[.slice (some ⟨b, o, none⟩) xs.length cap, .int .i64 m, .int .i64 n] w (fun e w' => e = .returned (.bool (fairL xs m n)) ∧ w' = w) := by
  have g1 : decide ((m : Int) < 1) = false := by simp; omega
  have g2 : decide ((n : Int) < 1) = false := by simp; omega
  go_enter Try.func31, Try.ntmps31
  go_wp2_with fail
  go_loop [7] (fun kv => ∃ i : Nat, i ≤ xs.length ∧ kv = .int .i64 i ∧ Hid (∀ j, j < i → ∀ t : Nat, t < m → (t : Int) ∈ winL xs j n))
    (fun kv => xs.length - (intOf kv).toNat)
  case atStart => exact ⟨0, Nat.zero_le _, rfl, Lib.hid (fun j hj => by omega)⟩
  case round =>
    obtain ⟨i, hi, rfl, HA⟩ := hrel
    by_cases hlt : i + n ≤ xs.length
    · have q1 : (i : Int) + (n : Int) ≤ (xs.length : Int) := by omega
      have WL := Lib.hid (winL_length hlt)
      go_wp2_with fail
      go_loop [8] (fun kv => ∃ t : Nat, t ≤ m ∧ kv = .int .i64 t ∧ Hid (∀ s : Nat, s < t → (s : Int) ∈ winL xs i n))
        (fun kv => m - (intOf kv).toNat)
      case atStart => exact ⟨0, Nat.zero_le _, rfl, Lib.hid (fun j hj => by omega)⟩
      case round =>
        obtain ⟨t, ht, rfl, HB⟩ := hrel
        by_cases htm : t < m
        · have hin : i < cap := by omega
          go_wp2_with fail
          have hH := has_calls (some ⟨b, o + i, none⟩) (winL xs i n) (cap - i) (by rw [WL.out]; omega) (t : Int) w (hC.win i n)
          rw [WL.out] at hH
          refine hH.mono ?_
          rintro e w' ⟨rfl, hw⟩
          obtain rfl := hw.symm
          clear hw hH
          by_cases hmem : (t : Int) ∈ winL xs i n
          · have hb : hasL (winL xs i n) (t : Int) = true := by simpa [hasL] using hmem
            rw [hb]
            have HM := Lib.hid hmem
            clear hmem hb
            go_wp2_with fail
            go_round
            case rel =>
              refine ⟨t + 1, by omega, by go_num, Lib.hid fun s hs => ?_⟩
              by_cases e : s = t
              · subst e; exact HM.out
              · exact HB.out s (by omega)
            case measure => simp [intOf]; omega
          · have hb : hasL (winL xs i n) (t : Int) = false := by simpa [hasL] using hmem
            have hf : fairL xs m n = false := fairL_no (i := i) (t := t) (by simpa using hlt) (by simpa using htm) (by simpa using hmem)
            rw [hb]
            have HR := Lib.hid hf
            clear hmem hb hf
            go_wp2_with fail
            go_ret
            exact ⟨by rw [HR.out]; rfl, rfl⟩
        · obtain rfl : t = m := by omega
          go_wp2_with fail
          go_round
          case rel =>
            refine ⟨i + 1, by omega, by go_num, Lib.hid fun j hj => ?_⟩
            by_cases e : j = i
            · subst e; exact HB.out
            · exact HA.out j (by omega)
          case measure => simp [intOf]; omega
    · have q1 : ¬ (i : Int) + (n : Int) ≤ (xs.length : Int) := by omega
      have hf : fairL xs m n = true := fairL_yes (by omega) (by omega) fun j hj t ht => by
        simp only [Int.toNat_natCast] at hj ht ⊢
        exact HA.out j (by omega) t ht
      have HR := Lib.hid hf
      clear hf
      go_wp2_with fail
      go_ret
      exact ⟨by rw [HR.out]; rfl, rfl⟩

theorem refFair_bad (a : Option Addr) (n cap : Nat) (threads bound : Int) (h : threads < 1 ∨ bound < 1) (w : World) :
    Calls Try.prog 31 #[.slice a n cap, .int .i64 threads, .int .i64 bound] w (fun e w' => e = .returned (.bool false) ∧ w' = w) := by
  by_cases h1 : threads < 1
  · have g1 : decide (threads < 1) = true := by simpa using h1
    clear h
    go_enter Try.func31, Try.ntmps31
    go_wp2_with fail
    go_ret
    exact ⟨rfl, rfl⟩
  · have g1 : decide (threads < 1) = false := by simpa using h1
    have g2 : decide (bound < 1) = true := by simp; omega
    clear h h1
    go_enter Try.func31, Try.ntmps31
    go_wp2_with fail
    go_ret
    exact ⟨rfl, rfl⟩

theorem refFair_long (a : Option Addr) (n cap : Nat) (hl : n ≤ 1000) (threads bound : Int) (h1 : 1 ≤ threads) (h2 : (n : Int) < bound) (h3 : bound ≤ 9223372036854775807) (w : World) :
    Calls Try.prog 31 #[.slice a n cap, .int .i64 threads, .int .i64 bound] w (fun e w' => e = .returned (.bool true) ∧ w' = w) := by
  have g1 : decide (threads < 1) = false := by simp; omega
  have g2 : decide (bound < 1) = false := by simp; omega
  have g3 : decide (bound ≤ (n : Int)) = false := by simp; omega
  go_enter Try.func31, Try.ntmps31
  go_wp2_with fail
  refine wp_loop_once ?_
  go_wp2_with fail
  go_ret
  exact ⟨rfl, rfl⟩

theorem refFair_calls (a : Option Addr) (xs : List Int) (cap : Nat) (hcap : xs.length ≤ cap) (hcm : cap ≤ 9223372036854775807) (hl : xs.length ≤ 1000) (threads bound : Int) (ht : threads ≤ 1000) (hb : bound ≤ 9223372036854775807) (w : World) (hC : Cells w a (iv xs)) :
    Calls Try.prog 31 #[.slice a xs.length cap, .int .i64 threads, .int .i64 bound] w (fun e w' => e = .returned (.bool (fairL xs threads bound)) ∧ w' = w) := by
  by_cases h : threads < 1 ∨ bound < 1
  · rw [fairL_bad h]; exact refFair_bad a _ cap threads bound h w
  · by_cases h2 : (xs.length : Int) < bound
    · rw [fairL_yes (by omega) (by omega) fun i hi => by omega]
      exact refFair_long a _ cap hl threads bound (by omega) h2 hb w
    · obtain ⟨m, rfl⟩ := Int.eq_ofNat_of_zero_le (show 0 ≤ threads by omega)
      obtain ⟨n, rfl⟩ := Int.eq_ofNat_of_zero_le (show 0 ≤ bound by omega)
      obtain ⟨x0, hx0⟩ := get_of_lt (xs := xs) (k := 0) (by omega)
      obtain ⟨b, o, rfl, hc⟩ := hC _ _ (iv_get hx0)
      exact refFair_good b o xs cap hcap hcm hl m n (by omega) (by omega) (by omega) (by omega) w hC

set_option maxHeartbeats 1000000 in
theorem refMost_calls (a : Option Addr) (xs : List Int) (cap : Nat) (hcap : xs.length ≤ cap) (hcm : cap ≤ 9223372036854775807) (hl : xs.length ≤ 1000) (threads : Int) (ht : threads ≤ 1000) (w : World) (hC : Cells w a (iv xs)) :
    Calls Try.prog 33 #[.slice a xs.length cap, .int .i64 threads] w (fun e w' => e = .returned (.int .i64 (mostL xs threads)) ∧ w' = w) := by
  by_cases h1 : threads < 1
  · have e : mostL xs threads = 0 := by simp [mostL, h1]
    rw [e]
    clear e
    go_enter Try.func33, Try.ntmps33
    go_wp2_with fail
    go_ret
    exact ⟨rfl, rfl⟩
  · have hml := mostL_le xs threads
    go_enter Try.func33, Try.ntmps33
    go_wp2_with fail
    go_loop [5] (fun kv => ∃ c : Nat, 1 ≤ c ∧ c ≤ xs.length + 1 ∧ kv = .int .i64 c ∧ Hid (∀ d : Nat, 1 ≤ d → d < c → fairL xs threads (d : Nat) = false))
      (fun kv => xs.length + 1 - (intOf kv).toNat)
    case atStart => exact ⟨1, Nat.le_refl _, by omega, rfl, Lib.hid (fun d h1 h2 => by omega)⟩
    case round =>
      obtain ⟨c, hc1, hc2, rfl, HA⟩ := hrel
      by_cases hlt : c ≤ xs.length
      · cases hf : fairL xs threads (c : Nat) with
        | true =>
          have hr := mostL_least (by omega) hc1 hf HA.out
          have HR := Lib.hid hr
          have HF := Lib.hid hf
          clear hr hf
          go_wp2_with fail
          refine (refFair_calls a xs cap hcap hcm hl threads (c : Int) ht (by omega) w hC).mono ?_
          rintro e w' ⟨rfl, hw⟩
          obtain rfl := hw.symm
          clear hw
          rw [HF.out]
          go_wp2_with fail
          go_ret
          exact ⟨by rw [HR.out]; rfl, rfl⟩
        | false =>
          have HF := Lib.hid hf
          clear hf
          go_wp2_with fail
          refine (refFair_calls a xs cap hcap hcm hl threads (c : Int) ht (by omega) w hC).mono ?_
          rintro e w' ⟨rfl, hw⟩
          obtain rfl := hw.symm
          clear hw
          rw [HF.out]
          go_wp2_with fail
          go_round
          case rel =>
            refine ⟨c + 1, by omega, by omega, by go_num, Lib.hid fun d h1 h2 => ?_⟩
            by_cases e : d = c
            · subst e; exact HF.out
            · exact HA.out d h1 (by omega)
          case measure => simp [intOf]; omega
      · obtain rfl : c = xs.length + 1 := by omega
        have hr := mostL_none (by omega) HA.out
        have HR := Lib.hid hr
        clear hr
        go_wp2_with fail
        go_ret
        exact ⟨by rw [HR.out]; go_num, rfl⟩

end Go.Proofs.Ytfegglolblglpab

/-
  The walk of Same: are two rows of numbers the same?
-/
import Derived.WalkKit
import Derived.WalkSpells
import Derived.WalkLawsBesides
import Derived.Lib.Hide
import Derived.Deep.QuietTactic
import Derived.BigQuiet
import Derived.Test.YtfegglolblglpabProg
import Derived.Test.YtfegglolblglpabBase
namespace Go.Proofs.Ytfegglolblglpab
open Go.RowKit
set_option linter.unusedVariables false

/-- Are two rows of numbers the same? -/
def eqI (xs ys : List Int) : Bool := decide (xs = ys)

set_option maxHeartbeats 400000 in
theorem Same_calls (a b : Option Addr) (xs ys : List Int) (ca cb : Nat) (hl : xs.length ≤ 9223372036854775807) (w : World) (hA : Cells w a (iv xs)) (hB : Cells w b (iv ys)) :
    Calls Try.prog 17 #[.slice a xs.length ca, .slice b ys.length cb] w fun e w' => e = .returned (.bool (eqI xs ys)) ∧ Below w.heap.size w w' := by
  by_cases he : xs.length = ys.length
  · have he1 : ((xs.length : Int) != (ys.length : Int)) = false := by simp [he]
    have HE := Lib.hid he
    clear he
    go_enter Try.func17, Try.ntmps17
    go_wp2
    go_loopw [5] (fun i wr => ∃ k : Nat, k ≤ xs.length ∧ i = .int .i64 k ∧ xs.take k = ys.take k ∧ Below w.heap.size w wr)
      (fun i _ => xs.length - (intOf i).toNat)
    case atStart => exact ⟨0, Nat.zero_le _, rfl, by simp, Below.refl _ _⟩
    case round =>
      obtain ⟨k, hk, rfl, ht, hnx⟩ := hrel
      have HT := Lib.hid ht
      clear ht
      by_cases hlt : k < xs.length
      · obtain ⟨x, hx⟩ := get_of_lt hlt
        obtain ⟨y, hy⟩ := get_of_lt (xs := ys) (k := k) (by rw [← HE.out]; exact hlt)
        obtain ⟨b1, o1, rfl, hc1⟩ := (hA.below hnx) _ _ (iv_get hx)
        obtain ⟨b2, o2, rfl, hc2⟩ := (hB.below hnx) _ _ (iv_get hy)
        have hlt2 : (k : Int) < (ys.length : Int) := by have := HE.out; omega
        have hlt1 : (k : Int) < (xs.length : Int) := by omega
        have HX := Lib.hid hx
        have HY := Lib.hid hy
        have HN := Lib.hid hnx
        clear hx hy hnx
        by_cases hxy : x = y
        · have hb1 : (x != y) = false := by simp [hxy]
          have HXY := Lib.hid hxy
          clear hxy
          go_wp2_with fail
          go_quiet (fail)
          go_wp2
          go_roundw
          case rel =>
            refine ⟨k + 1, by omega, by go_num, ?_, below_drewN HN.out _⟩
            rw [List.take_add_one, List.take_add_one, HT.out, HX.out, HY.out, HXY.out]
          case measure => simp [intOf]; omega
        · have hb1 : (x != y) = true := by simp [hxy]
          have hres : eqI xs ys = false := by
            simp only [eqI, decide_eq_false_iff_not]
            rintro rfl
            have h1 := HX.out
            have h2 := HY.out
            rw [h1] at h2
            exact hxy (by simpa using h2)
          have HR := Lib.hid hres
          clear hxy hres
          go_wp2_with fail
          go_quiet (fail)
          go_wp2
          go_ret
          exact ⟨by rw [HR.out]; rfl, below_drewN HN.out _⟩
      · have hres : eqI xs ys = true := by
          have h1 := HT.out
          have h2 := HE.out
          rw [List.take_of_length_le (by omega), List.take_of_length_le (by omega)] at h1
          simp [eqI, h1]
        have HR := Lib.hid hres
        clear hres
        go_wp2
        go_ret
        exact ⟨by rw [HR.out]; rfl, hnx⟩
  · have he1 : ((xs.length : Int) != (ys.length : Int)) = true := by simp; omega
    have hres : eqI xs ys = false := by
      simp only [eqI, decide_eq_false_iff_not]
      rintro rfl
      exact he rfl
    rw [hres]
    clear he hres
    go_enter Try.func17, Try.ntmps17
    go_wp2
    go_ret
    exact ⟨rfl, Below.refl _ _⟩

end Go.Proofs.Ytfegglolblglpab

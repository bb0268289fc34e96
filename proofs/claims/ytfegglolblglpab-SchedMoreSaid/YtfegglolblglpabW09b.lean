/-
  The walks of layer 9: Pick and the document's Pick.
-/
import Derived.Test.YtfegglolblglpabW09a
namespace Go.Proofs.Ytfegglolblglpab
open Go.RowKit
set_option linter.unusedVariables false

def pickV (p : Int) (xs : List Int) : Int := if p < 0 then 0 else if xs = [] then 0 else xs.getD (p.toNat % xs.length) 0
def pickE (p : Int) (xs : List Int) : Int := if p < 0 then 1 else if xs = [] then 5 else 0

theorem Pick_neg (p : Int) (hp : p < 0) (a : Option Addr) (xs : List Int) (cap : Nat) (w : World) :
    Calls Try.prog 25 #[.int .i64 p, .slice a xs.length cap] w (fun e w' => e = .returned (.tuple #[.int .i64 (pickV p xs), .int .i64 (pickE p xs)]) ∧ Below w.heap.size w w') := by
  have e1 : pickV p xs = 0 := by simp [pickV, hp]
  have e2 : pickE p xs = 1 := by simp [pickE, hp]
  rw [e1, e2]
  clear e1 e2
  go_enter Try.func25, Try.ntmps25
  go_wp2_with fail
  go_ret2
  exact ⟨rfl, Below.refl _ _⟩

theorem Pick_none (p : Int) (hp : ¬ p < 0) (a : Option Addr) (cap : Nat) (w : World) :
    Calls Try.prog 25 #[.int .i64 p, .slice a 0 cap] w (fun e w' => e = .returned (.tuple #[.int .i64 (pickV p []), .int .i64 (pickE p [])]) ∧ Below w.heap.size w w') := by
  have e1 : pickV p [] = 0 := by simp [pickV, hp]
  have e2 : pickE p [] = 5 := by simp [pickE, hp]
  rw [e1, e2]
  clear e1 e2
  go_enter Try.func25, Try.ntmps25
  go_wp2_with fail
  go_ret2
  exact ⟨rfl, Below.refl _ _⟩

set_option maxRecDepth 100000 in
set_option maxHeartbeats 2000000 in
theorem Pick_some (p : Nat) (b o : Nat) (xs : List Int) (cap : Nat) (hx : 0 < xs.length) (hl : xs.length ≤ 9223372036854775807) (w : World) (hC : Cells w (some ⟨b, o, none⟩) (iv xs)) (hb : b < w.heap.size) :
    Calls Try.prog 25 #[.int .i64 p, .slice (some ⟨b, o, none⟩) xs.length cap] w (fun e w' => e = .returned (.tuple #[.int .i64 (pickV p xs), .int .i64 (pickE p xs)]) ∧ Below w.heap.size w w') := by
  have hne : xs ≠ [] := by intro e; simp [e] at hx
  have hr : p % xs.length < xs.length := Nat.mod_lt _ hx
  obtain ⟨y, hy⟩ := get_of_lt hr
  have e1 : pickV p xs = y := by simp [pickV, hne, List.getD, hy, show ¬ ((p : Int) < 0) by omega]
  have e2 : pickE p xs = 0 := by simp [pickE, hne, show ¬ ((p : Int) < 0) by omega]
  rw [e1, e2]
  have HY := Lib.hid hy
  obtain ⟨x0, hx0⟩ := get_of_lt hx
  have HX0 := Lib.hid hx0
  have hz : ((xs.length : Int) == 0) = false := by simp; omega
  have hrr : (p : Int) % (xs.length : Int) = ((p % xs.length : Nat) : Int) := by omega
  clear e1 e2 hne hy hx0
  have HRR := Lib.hid hrr
  clear hrr
  generalize hR : p % xs.length = r at *
  clear hR
  have hpz : decide ((p : Int) < 0) = false := by simp
  have m1 : 0 ≤ (p : Int) % (xs.length : Int) := Int.emod_nonneg _ (by omega)
  go_enter Try.func25, Try.ntmps25
  go_wp2_with fail
  refine (ring_calls _ _ _ w).mono ?_
  rintro e w1 ⟨rfl, r1, b1, s1⟩
  have R1 := Lib.hid r1
  have B1 := Lib.hid b1
  clear r1 b1
  generalize hbi : w.heap.size + 1 = bi at *
  have hib : b ≠ bi := by omega
  have hbi' : w.heap.size ≤ bi := by omega
  clear s1 hbi
  go_wp2_with fail
  refine (next_calls bi w.heap.size b o xs.length cap 0 x0 w1 R1.out hx hl (by omega) hib (by rw [Nat.zero_mod]; obtain ⟨_, _, e, hc⟩ := (hC.below B1.out) _ _ (iv_get HX0.out); cases e; exact hc)).mono ?_
  rintro e w2 ⟨rfl, hw2⟩
  have R2 := Lib.hid (show Ring bi w.heap.size (some ⟨b, o, none⟩) xs.length cap 1 w2 by rw [hw2]; have := R1.out.put; rwa [Nat.zero_mod] at this)
  have B2 := Lib.hid (show Below w.heap.size w w2 by rw [hw2]; exact B1.out.setCell hbi' _)
  clear hw2 R1 B1
  go_wp2_with fail
  go_loopw [7, 23] (fun xv kv wr => ∃ (j : Nat) (x : Int), j ≤ r ∧ kv = .int .i64 j ∧ xv = .int .i64 x ∧ xs[j]? = some x ∧ Ring bi w.heap.size (some ⟨b, o, none⟩) xs.length cap (j + 1) wr ∧ Below w.heap.size w wr)
    (fun _ kv _ => r - (intOf kv).toNat)
  case atStart => exact ⟨0, x0, Nat.zero_le _, rfl, rfl, HX0.out, R2.out, B2.out⟩
  case round =>
    obtain ⟨j, x, hj, rfl, rfl, hxj, hR, hB⟩ := hrel
    have RR := Lib.hid hR
    have BB := Lib.hid hB
    have HXJ := Lib.hid hxj
    clear hR hB hxj
    by_cases q : j < r
    · obtain ⟨x', hx'⟩ := get_of_lt (xs := xs) (k := j + 1) (by omega)
      have HX' := Lib.hid hx'
      clear hx'
      have q' : (j : Int) < (p : Int) % (xs.length : Int) := by rw [HRR.out]; omega
      go_wp2_with fail
      refine (next_calls bi w.heap.size b o xs.length cap (j + 1) x' wr RR.out hx hl (by omega) hib (by rw [Nat.mod_eq_of_lt (by omega)]; obtain ⟨_, _, e, hc⟩ := (hC.below BB.out) _ _ (iv_get HX'.out); cases e; exact hc)).mono ?_
      rintro e w3 ⟨rfl, hw3⟩
      have R3 := Lib.hid (show Ring bi w.heap.size (some ⟨b, o, none⟩) xs.length cap (j + 1 + 1) w3 by rw [hw3]; have := RR.out.put; rwa [Nat.mod_eq_of_lt (by omega)] at this)
      have B3 := Lib.hid (show Below w.heap.size w w3 by rw [hw3]; exact BB.out.setCell hbi' _)
      clear hw3 RR BB
      go_wp2_with fail
      go_roundw
      case rel => exact ⟨j + 1, x', by omega, by go_num, rfl, HX'.out, R3.out, B3.out⟩
      case measure => simp [intOf]; omega
    · obtain rfl : j = r := by omega
      have e := HXJ.out
      rw [HY.out] at e
      obtain rfl : y = x := by simpa using e
      clear e
      have q' : ¬ (j : Int) < (p : Int) % (xs.length : Int) := by rw [HRR.out]; omega
      go_wp2_with fail
      go_ret2
      exact ⟨rfl, BB.out⟩

theorem Pick_calls (p : Int) (a : Option Addr) (xs : List Int) (cap : Nat) (hl : xs.length ≤ 9223372036854775807) (w : World) (hC : Cells w a (iv xs)) :
    Calls Try.prog 25 #[.int .i64 p, .slice a xs.length cap] w (fun e w' => e = .returned (.tuple #[.int .i64 (pickV p xs), .int .i64 (pickE p xs)]) ∧ Below w.heap.size w w') := by
  by_cases hp : p < 0
  · exact Pick_neg p hp a xs cap w
  · by_cases hx : xs = []
    · subst hx; exact Pick_none p hp a cap w
    · have hpos := List.length_pos_iff.2 hx
      obtain ⟨x0, hx0⟩ := get_of_lt hpos
      obtain ⟨b, o, rfl, hc⟩ := hC _ _ (iv_get hx0)
      obtain ⟨P, rfl⟩ := Int.eq_ofNat_of_zero_le (show 0 ≤ p by omega)
      exact Pick_some P b o xs cap hpos hl w hC (World.block_lt_of_cell? w _ hc)

set_option maxHeartbeats 1000000 in
theorem refPick_calls (p : Int) (a : Option Addr) (xs : List Int) (cap : Nat) (hl : xs.length ≤ 9223372036854775807) (w : World) (hC : Cells w a (iv xs)) :
    Calls Try.prog 26 #[.int .i64 p, .slice a xs.length cap] w (fun e w' => e = .returned (.tuple #[.int .i64 (pickV p xs), .int .i64 (pickE p xs)]) ∧ Below w.heap.size w w') := by
  by_cases hp : p < 0
  · have e1 : pickV p xs = 0 := by simp [pickV, hp]
    have e2 : pickE p xs = 1 := by simp [pickE, hp]
    rw [e1, e2]
    clear e1 e2
    go_enter Try.func26, Try.ntmps26
    go_wp2_with fail
    go_ret2
    exact ⟨rfl, Below.refl _ _⟩
  · by_cases hx : xs = []
    · subst hx
      have e1 : pickV p [] = 0 := by simp [pickV, hp]
      have e2 : pickE p [] = 5 := by simp [pickE, hp]
      rw [e1, e2]
      clear e1 e2 hC
      rw [List.length_nil]
      go_enter Try.func26, Try.ntmps26
      go_wp2_with fail
      go_ret2
      exact ⟨rfl, Below.refl _ _⟩
    · have hpos := List.length_pos_iff.2 hx
      obtain ⟨P, rfl⟩ := Int.eq_ofNat_of_zero_le (show 0 ≤ p by omega)
      have hr : P % xs.length < xs.length := Nat.mod_lt _ hpos
      obtain ⟨y, hy⟩ := get_of_lt hr
      obtain ⟨b, o, rfl, hc⟩ := hC _ _ (iv_get hy)
      have e1 : pickV P xs = y := by simp [pickV, hx, List.getD, hy, show ¬ ((P : Int) < 0) by omega]
      have e2 : pickE P xs = 0 := by simp [pickE, hx, show ¬ ((P : Int) < 0) by omega]
      rw [e1, e2]
      have hz : ((xs.length : Int) == 0) = false := by simp; omega
      have m1 : 0 ≤ (P : Int) % (xs.length : Int) := Int.emod_nonneg _ (by omega)
      have m2 : (P : Int) % (xs.length : Int) < (xs.length : Int) := Int.emod_lt_of_pos _ (by omega)
      clear e1 e2 hy hx hp hC
      go_enter Try.func26, Try.ntmps26
      go_wp2_with fail
      go_ret2
      exact ⟨rfl, Below.refl _ _⟩

end Go.Proofs.Ytfegglolblglpab

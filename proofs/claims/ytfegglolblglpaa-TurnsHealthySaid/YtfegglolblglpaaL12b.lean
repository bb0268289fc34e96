/-
  The walk of the statement TurnsHealthy.
-/
import Derived.Test.YtfegglolblglpaaT12
import Derived.Deep.RegionHeld3
namespace Go.Proofs.Ytfegglolblglpaa
open Go.RowKit
set_option linter.unusedVariables false

set_option maxHeartbeats 2000000 in
theorem turnsHealthy_walk (c0 c1 c2 : Value) (a : Option Addr) (hs : List Bool) (cap : Nat) (hlen : hs.length ≤ 9223372036854775807) (t : Nat) (ht : t < 18446744073709551616) (w : World) (hC : Cells w a (bv hs)) :
    Calls Try.prog 4 #[.agg #[c0, c1, c2, .slice a hs.length cap], .int .u64 t] w fun e w' => e = .returned (.bool true) ∧ Below w.heap.size w w' := by
  by_cases hbig : 1000 < hs.length
  · go_enter Try.func4, Try.ntmps4
    go_wp2_with fail
    go_ret
    exact ⟨rfl, (Below.refl _ w).alloc (Nat.le_refl _) _⟩
  · have hlen2 : hs.length ≤ 1000 := by omega
    have hl3 : hs.length ≤ 17592186044416 := by omega
    have HT := Lib.hid ht
    clear ht hlen hbig
    have H0 : Below w.heap.size w (w.alloc (Obj.cells #[c0, c1, c2, Value.slice a hs.length cap] 24)) := (Below.refl _ w).alloc (Nat.le_refl _) _
    have B0 := Boxes.new w c0 c1 c2 (.slice a hs.length cap) 24
    by_cases hz : hl hs = []
    · have hE : turnE hs = 5 := by simp [turnE, hz]
      have hz2 : (((hl hs).length : Int) == 0) = true := by simp [hz]
      have HE := Lib.hid hE
      clear hz hE
      go_enter Try.func4, Try.ntmps4
      go_wp2_with fail
      refine (Turn_calls _ _ _ _ _ _ hl3 _ _ (hC.below H0)).mono ?_
      rintro e w1 ⟨rfl, hB1⟩
      rw [HE.out]
      have B1 := B0.below hB1
      have H1 := fur H0 hB1
      obtain ⟨b0, b1, b2, b3⟩ := B1
      clear B0 H0 hB1
      go_wp2_with fail
      refine (Healthy_calls _ _ _ _ _ _ hl3 _ (hC.below H1)).mono ?_
      rintro e w2 ⟨v2, rfl, ⟨a2, cap2, rfl, _, _, D2⟩, hB2⟩
      have H2 := fur H1 hB2
      go_wp2_with fail
      refine (turned_calls _).mono ?_
      rintro e w3 ⟨rfl, hB3⟩
      go_wp2_with fail
      go_ret
      exact ⟨rfl, fur H2 hB3⟩
    · have hpos : 0 < (hl hs).length := List.length_pos_iff.2 hz
      have hbd : (hl hs).length ≤ 1000 := Nat.le_trans (hl_le hs) (by omega)
      have hE : turnE hs = 0 := by simp [turnE, hz]
      obtain ⟨j, hj1, hj2, hj3⟩ := hl_get (Nat.mod_lt t hpos)
      have hA : turnA hs t = j := by simp [turnA, List.getD, hj1]
      have hA2 : turnA hs (t % (hl hs).length) = j := by simp [turnA, List.getD, hj1]
      have hz3 : (((hl hs).length : Int) == 0) = false := by simp; omega
      have m1 : 0 ≤ (t : Int) % ((hl hs).length : Int) := Int.emod_nonneg _ (by omega)
      have m2 : (t : Int) % ((hl hs).length : Int) < ((hl hs).length : Int) := Int.emod_lt_of_pos _ (by omega)
      have m3 : (t : Int) % ((hl hs).length : Int) = ((t % (hl hs).length : Nat) : Int) := by simp
      have M3 := Lib.hid m3
      clear m3
      have HE := Lib.hid hE
      have HA := Lib.hid hA
      have HA2 := Lib.hid hA2
      have HJ := Lib.hid hj1
      have HJ3 := Lib.hid hj3
      clear hz hE hA hA2 hj1 hj3
      go_enter Try.func4, Try.ntmps4
      go_wp2_with fail
      refine (Turn_calls _ _ _ _ _ _ hl3 _ _ (hC.below H0)).mono ?_
      rintro e w1 ⟨rfl, hB1⟩
      rw [HE.out, HA.out]
      have B1 := B0.below hB1
      have H1 := fur H0 hB1
      obtain ⟨b0, b1, b2, b3⟩ := B1
      clear B0 H0 hB1
      go_wp2_with fail
      refine (Healthy_calls _ _ _ _ _ _ hl3 _ (hC.below H1)).mono ?_
      rintro e w2 ⟨v2, rfl, ⟨a2, cap2, rfl, _, _, D2⟩, hB2⟩
      have B2 := (Boxes.mk b0 b1 b2 b3).below hB2
      have H2 := fur H1 hB2
      clear b0 b1 b2 b3 H1 hB2
      obtain ⟨b0, b1, b2, b3⟩ := B2
      obtain ⟨ba, oa, rfl, hca⟩ := (hC.below H2) _ _ (bv_get HJ3.out)
      obtain ⟨bl, ol, rfl, hcl⟩ := D2 _ _ (iv_get HJ.out)
      have HD2 := Lib.hid D2
      have HC2 := Lib.hid (hC.below H2)
      have HH2 := Lib.hid H2
      clear D2 H2
      have wl : IntKind.u64.wrap ((hl hs).length : Int) = ((hl hs).length : Int) := IntWalk.u64_in _ (by omega)
      have wn : ¬ hl hs = [] := List.length_pos_iff.1 hpos
      have wm : ((t : Int).tmod ((hl hs).length : Int)) = (t : Int) % ((hl hs).length : Int) := Int.tmod_eq_emod_of_nonneg (by omega)
      go_wp2_with fail
      go_region_held3 (fun w' => w'.cell? ⟨w.heap.size, 0, none⟩ = some c0 ∧ w'.cell? ⟨w.heap.size, 1, none⟩ = some c1 ∧ w'.cell? ⟨w.heap.size, 2, none⟩ = some c2 ∧ w'.cell? ⟨w.heap.size, 3, none⟩ = some (.slice (some ⟨ba, oa, none⟩) hs.length cap) ∧ Hid (Below w2.heap.size w2 w'))
        (first | exact held_step (by assumption) hBa | exact held_start ⟨b0, b1, b2, b3⟩)
        (first
          | (go_at_call 15; rw [M3.out]; refine (Turn_calls _ _ _ _ _ _ hl3 _ _ (HC2.out.below (Hid.out (by go_split_ands; assumption)))).mono ?_; rintro e w3 ⟨rfl, hBa⟩; rw [HE.out, HA2.out]; have H3 := fur HH2.out.drew hBa))
      go_wp2_with fail
      refine (turned_calls _).mono ?_
      rintro e w4 ⟨rfl, hB4⟩
      have D4 := ((HD2.out.below ((Below.refl _ w2).drew)).below hBa).below hB4
      obtain ⟨bl2, ol2, el, hcl4⟩ := D4 _ _ (iv_get HJ.out)
      cases el
      have H4 := fur H3 hB4
      clear hcl D4
      go_wp2_with fail
      go_ret
      exact ⟨rfl, H4⟩

end Go.Proofs.Ytfegglolblglpaa

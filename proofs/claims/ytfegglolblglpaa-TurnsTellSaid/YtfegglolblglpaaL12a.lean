/-
  The walk of the statement TurnsTell.
-/
import Derived.Test.YtfegglolblglpaaT12
import Derived.Deep.RegionHeld3
namespace Go.Proofs.Ytfegglolblglpaa
open Go.RowKit
set_option linter.unusedVariables false

set_option maxHeartbeats 2000000 in
theorem turnsTell_walk (c0 c1 c2 : Value) (a : Option Addr) (hs : List Bool) (cap : Nat) (hlen : hs.length ≤ 9223372036854775807) (t : Nat) (ht : t < 18446744073709551616) (n : Int) (w : World) (hC : Cells w a (bv hs)) :
    Calls Try.prog 3 #[.agg #[c0, c1, c2, .slice a hs.length cap], .int .u64 t, .int .i64 n] w fun e w' => e = .returned (.bool true) ∧ Below w.heap.size w w' := by
  by_cases hbig : 1000 < hs.length
  · go_enter Try.func3, Try.ntmps3
    go_wp2_with fail
    go_ret
    exact ⟨rfl, (Below.refl _ w).alloc (Nat.le_refl _) _⟩
  · have hlen2 : hs.length ≤ 1000 := by omega
    have hl3 : hs.length ≤ 17592186044416 := by omega
    have HT := Lib.hid ht
    clear ht hlen hbig
    have H0 : Below w.heap.size w (w.alloc (Obj.cells #[c0, c1, c2, Value.slice a hs.length cap] 24)) := (Below.refl _ w).alloc (Nat.le_refl _) _
    have B0 := Boxes.new w c0 c1 c2 (.slice a hs.length cap) 24
    go_enter Try.func3, Try.ntmps3
    go_wp2_with fail
    refine (Turn_calls _ _ _ _ _ _ hl3 _ _ (hC.below H0)).mono ?_
    rintro e w1 ⟨rfl, hB1⟩
    have B1 := B0.below hB1
    have H1 := H0.trans (hB1.mono H0.size)
    obtain ⟨b0, b1, b2, b3⟩ := B1
    clear B0 H0 hB1
    go_wp2_with fail
    refine (refTurn_calls _ _ _ _ _ _ hl3 _ _ (hC.below H1)).mono ?_
    rintro e w2 ⟨rfl, hB2⟩
    have B2 := (Boxes.mk b0 b1 b2 b3).below hB2
    have H2 := H1.trans (hB2.mono H1.size)
    clear b0 b1 b2 b3 H1 hB2
    obtain ⟨b0, b1, b2, b3⟩ := B2
    go_wp2_with fail
    refine (Spread_calls _ _ _ _ _ _ hl3 _ HT.out _ _ (hC.below H2)).mono ?_
    rintro e w3 ⟨v3, rfl, ⟨a3, cap3, rfl, _, _, D3⟩, hB3⟩
    have B3 := (Boxes.mk b0 b1 b2 b3).below hB3
    have H3 := H2.trans (hB3.mono H2.size)
    clear b0 b1 b2 b3 H2 hB3
    obtain ⟨b0, b1, b2, b3⟩ := B3
    go_wp2_with fail
    refine (refSpread_calls _ _ _ _ _ _ hl3 _ HT.out _ _ (hC.below H3)).mono ?_
    rintro e w4 ⟨v4, rfl, ⟨a4, cap4, rfl, _, _, D4⟩, hB4⟩
    have B4 := (Boxes.mk b0 b1 b2 b3).below hB4
    have H4 := H3.trans (hB4.mono H3.size)
    have D3 := D3.below hB4
    clear b0 b1 b2 b3 H3 hB4
    obtain ⟨b0, b1, b2, b3⟩ := B4
    have HC4 := Lib.hid (hC.below H4)
    have HD3 := Lib.hid D3
    have HD4 := Lib.hid D4
    have HH4 := Lib.hid H4
    clear hC D3 D4 H4
    have hq1 : eqI (spL hs t n) (spL hs t n) = true := by simp [eqI]
    have hq2 : eqI (hl hs) (hl hs) = true := by simp [eqI]
    have hsl : (spL hs t n).length ≤ 9223372036854775807 := by
      unfold spL; split
      · rw [spTo_length]; omega
      · simp
    have hhl : (hl hs).length ≤ 9223372036854775807 := Nat.le_trans (hl_le hs) (by omega)
    go_wp2_with fail
    go_region_held3 (fun w' => w'.cell? ⟨w.heap.size, 0, none⟩ = some c0 ∧ w'.cell? ⟨w.heap.size, 1, none⟩ = some c1 ∧ w'.cell? ⟨w.heap.size, 2, none⟩ = some c2 ∧ w'.cell? ⟨w.heap.size, 3, none⟩ = some (.slice a hs.length cap) ∧ Hid (Below w4.heap.size w4 w'))
      (first | exact held_step (by assumption) hBe | exact held_step (by assumption) hBd | exact held_step (by assumption) hBc | exact held_step (by assumption) hBb | exact held_step (by assumption) hBa | exact held_start ⟨b0, b1, b2, b3⟩)
      (first
        | (go_at_call 19; refine (turned_calls _).mono ?_; rintro e w5a ⟨rfl, hBa⟩)
        | (go_at_call_of 20 a3; refine (Same_calls a3 a4 _ _ _ _ hsl _ ?_ ?_).mono ?_; exact HD3.out.below (Hid.out (by go_split_ands; assumption)); exact HD4.out.below (Hid.out (by go_split_ands; assumption)); rintro e w5 ⟨rfl, hBb⟩; rw [hq1])
        | (go_at_call 21; refine (Healthy_calls _ _ _ _ _ _ hl3 _ (HC4.out.below (Hid.out (by go_split_ands; assumption)))).mono ?_; rintro e w6 ⟨v6, rfl, ⟨a6, cap6, rfl, _, _, D6⟩, hBc⟩)
        | (go_at_call 22; refine (refHealthy_calls _ _ _ _ _ _ hl3 _ (HC4.out.below (Hid.out (by go_split_ands; assumption)))).mono ?_; rintro e w7 ⟨v7, rfl, ⟨a7, cap7, rfl, _, _, D7⟩, hBd⟩; have D6' := D6.below hBd)
        | (go_at_call_of 20 a6; refine (Same_calls a6 a7 _ _ _ _ hhl _ D6' D7).mono ?_; rintro e w8 ⟨rfl, hBe⟩; rw [hq2]))
    go_wp2_with fail
    go_ret
    exact ⟨rfl, fur (fur (fur (fur (fur HH4.out.drew hBa) hBb) hBc) hBd) hBe⟩

end Go.Proofs.Ytfegglolblglpaa

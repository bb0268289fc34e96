/-
  The walk of the statement TurnsRound.
-/
import Derived.Test.YtfegglolblglpaaT12
import Derived.Test.YtfegglolblglpaaCount
namespace Go.Proofs.Ytfegglolblglpaa
open Go.RowKit
set_option linter.unusedVariables false

set_option maxRecDepth 100000 in
set_option maxHeartbeats 4000000 in
theorem turnsRound_walk (c0 c1 c2 : Value) (a : Option Addr) (hs : List Bool) (cap : Nat) (hl3 : hs.length ≤ 17592186044416) (t : Nat) (ht : t < 18446744073709551616) (w : World) (hC : Cells w a (bv hs)) :
    Calls Try.prog 6 #[.agg #[c0, c1, c2, .slice a hs.length cap], .int .u64 t] w fun e w' => e = .returned (.bool true) ∧ Below w.heap.size w w' := by
  have H0 : Below w.heap.size w (w.alloc (Obj.cells #[c0, c1, c2, Value.slice a hs.length cap] 24)) := (Below.refl _ w).alloc (Nat.le_refl _) _
  have B0 := Boxes.new w c0 c1 c2 (.slice a hs.length cap) 24
  have HT := Lib.hid ht
  clear ht
  have hll := hl_le hs
  by_cases hbig : 500 < hs.length
  · go_enter Try.func6, Try.ntmps6
    go_wp2_with fail
    refine (Healthy_calls _ _ _ _ _ _ hl3 _ (hC.below H0)).mono ?_
    rintro e w1 ⟨v1, rfl, ⟨a1, cap1, rfl, _, _, D1⟩, hB1⟩
    have H1 := fur H0 hB1
    obtain ⟨b0, b1, b2, b3⟩ := B0.below hB1
    clear B0 H0 hB1
    go_wp2_with fail
    refine (turned_calls _).mono ?_
    rintro e w2 ⟨rfl, hB2⟩
    go_wp2_with fail
    go_ret
    exact ⟨rfl, fur H1 hB2⟩
  by_cases hz : hl hs = []
  · have hz2 : (((hl hs).length : Int) == 0) = true := by simp [hz]
    have hsm : hs.length ≤ 500 := by omega
    clear hz hll hbig
    go_enter Try.func6, Try.ntmps6
    go_wp2_with fail
    refine (Healthy_calls _ _ _ _ _ _ hl3 _ (hC.below H0)).mono ?_
    rintro e w1 ⟨v1, rfl, ⟨a1, cap1, rfl, _, _, D1⟩, hB1⟩
    have H1 := fur H0 hB1
    obtain ⟨b0, b1, b2, b3⟩ := B0.below hB1
    clear B0 H0 hB1
    go_wp2_with fail
    refine (turned_calls _).mono ?_
    rintro e w2 ⟨rfl, hB2⟩
    go_wp2_with fail
    go_ret
    exact ⟨rfl, fur H1 hB2⟩
  have hpos : 0 < (hl hs).length := List.length_pos_iff.2 hz
  have hbd : (hl hs).length ≤ 500 := by omega
  have hsm : hs.length ≤ 500 := by omega
  have hz2 : (((hl hs).length : Int) == 0) = false := by simp [hz]
  by_cases hov : t + (hl hs).length < 18446744073709551616
  · have hw : IntKind.u64.wrap ((t : Int) + ((hl hs).length : Int)) = ((t + (hl hs).length : Nat) : Int) := by
      have := HT.out
      simp only [IntKind.wrap, IntKind.bits, IntKind.signed]; simp; omega
    have hge : (t : Int) ≤ ((t + (hl hs).length : Nat) : Int) := by omega
    have dmt : decide (t + (hl hs).length < t) = false := by simp
    have hE : spE hs ((hl hs).length : Int) = 0 := by simp [spE, hz]; omega
    have hL : spL hs t ((hl hs).length : Int) = spTo (hl hs) hs.length t (hl hs).length := by simp [spL, hE]
    have hlen : (spTo (hl hs) hs.length t (hl hs).length).length = hs.length := spTo_length _ _ _ _
    have hS : ∀ w', Cells w' a (bv hs) → Calls Try.prog 17 #[.agg #[c0, c1, c2, .slice a hs.length cap], .int .u64 t, .int .i64 ((hl hs).length : Int)] w' (GivesE w' (Ints (spTo (hl hs) hs.length t (hl hs).length)) 0) := fun w' h => by
      have := Spread_calls c0 c1 c2 a hs cap hl3 t HT.out ((hl hs).length : Int) w' h
      rwa [hE, hL] at this
    have hsick : ∀ i : Nat, hs[i]? = some false → (spTo (hl hs) hs.length t (hl hs).length)[i]? = some (0 : Int) := fun i h => spTo_sick hz h _
    have hone : ∀ i : Nat, hs[i]? = some true → (spTo (hl hs) hs.length t (hl hs).length)[i]? = some (1 : Int) := fun i h => spread_one (by omega) h
    have HS := Lib.hid hS
    generalize spTo (hl hs) hs.length t (hl hs).length = L at hsick hone hlen HS
    have l0 : ((L.length : Int) != (hs.length : Int)) = false := by simp [hlen]
    have l1 : L.length ≤ hs.length := by omega
    have l2 : hs.length ≤ L.length := by omega
    have HSI := Lib.hid hsick
    have HON := Lib.hid hone
    have dbig : decide ((500 : Int) < (hs.length : Int)) = false := by simp; omega
    clear hS hsick hone hlen hE hL hov hz hbig hll
    go_enter Try.func6, Try.ntmps6
    go_wp2_with fail
    refine (Healthy_calls _ _ _ _ _ _ hl3 _ (hC.below H0)).mono ?_
    rintro e w1 ⟨v1, rfl, ⟨a1, cap1, rfl, _, _, D1⟩, hB1⟩
    have H1 := fur H0 hB1
    have B1 := B0.below hB1
    obtain ⟨b0, b1, b2, b3⟩ := B1
    clear B0 H0 hB1
    go_wp2_with fail
    refine (HS.out _ (hC.below H1)).mono ?_
    rintro e w2 ⟨v2, rfl, ⟨a2, cap2, rfl, _, _, D2⟩, hB2⟩
    have H2 := fur H1 hB2
    have B2 := (Boxes.mk b0 b1 b2 b3).below hB2
    have HC2 := Lib.hid (hC.below H2)
    have HD2 := Lib.hid D2
    have HH2 := Lib.hid H2
    clear b0 b1 b2 b3 hB2 hC D2 H1 D1 H2
    obtain ⟨b0, b1, b2, b3⟩ := B2
    go_wp2_with fail
    go_loop [8] (fun i => ∃ k : Nat, k ≤ L.length ∧ i = .int .i64 k) (fun i => L.length - (intOf i).toNat)
    case atStart => exact ⟨0, Nat.zero_le _, rfl⟩
    case round =>
      obtain ⟨i, hi, rfl⟩ := hrel
      by_cases hlt : i < L.length
      · obtain ⟨h, hh⟩ := get_of_lt (xs := hs) (k := i) (by omega)
        obtain ⟨ba, oa, rfl, hca⟩ := HC2.out _ _ (bv_get hh)
        have i1 : (i : Int) < (hs.length : Int) := by omega
        cases h with
        | false =>
          have hx := HSI.out i hh
          obtain ⟨bl, ol, rfl, hcl⟩ := HD2.out _ _ (iv_get hx)
          clear hh hx
          go_wp2_with fail
          go_round
          case rel => exact ⟨i + 1, by omega, by go_num⟩
          case measure => simp [intOf]; omega
        | true =>
          have hx := HON.out i hh
          obtain ⟨bl, ol, rfl, hcl⟩ := HD2.out _ _ (iv_get hx)
          clear hh hx
          go_wp2_with fail
          go_round
          case rel => exact ⟨i + 1, by omega, by go_num⟩
          case measure => simp [intOf]; omega
      · go_wp2_with fail
        refine (turned_calls _).mono ?_
        rintro e w3 ⟨rfl, hB3⟩
        go_wp2_with fail
        go_ret
        exact ⟨rfl, fur HH2.out hB3⟩
  · have hw : IntKind.u64.wrap ((t : Int) + ((hl hs).length : Int)) = ((t + (hl hs).length - 18446744073709551616 : Nat) : Int) := by
      have := HT.out
      simp only [IntKind.wrap, IntKind.bits, IntKind.signed]; simp; omega
    have hlt : ((t + (hl hs).length - 18446744073709551616 : Nat) : Int) < (t : Int) := by have := HT.out; omega
    obtain ⟨m, hm⟩ : ∃ m, m = t + (hl hs).length - 18446744073709551616 := ⟨_, rfl⟩
    rw [← hm] at hw hlt
    clear hm hov hz hbig hll
    go_enter Try.func6, Try.ntmps6
    go_wp2_with fail
    refine (Healthy_calls _ _ _ _ _ _ hl3 _ (hC.below H0)).mono ?_
    rintro e w1 ⟨v1, rfl, ⟨a1, cap1, rfl, _, _, D1⟩, hB1⟩
    have H1 := fur H0 hB1
    obtain ⟨b0, b1, b2, b3⟩ := B0.below hB1
    clear B0 H0 hB1
    go_wp2_with fail
    refine (turned_calls _).mono ?_
    rintro e w2 ⟨rfl, hB2⟩
    go_wp2_with fail
    go_ret
    exact ⟨rfl, fur H1 hB2⟩

end Go.Proofs.Ytfegglolblglpaa

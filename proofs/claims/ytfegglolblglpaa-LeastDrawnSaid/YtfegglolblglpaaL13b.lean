/-
  The walk of the statement LeastDrawn.
-/
import Derived.Test.YtfegglolblglpaaL13a
namespace Go.Proofs.Ytfegglolblglpaa
open Go.RowKit
set_option linter.unusedVariables false

set_option maxRecDepth 100000 in
set_option maxHeartbeats 2000000 in
theorem leastDrawn_walk (c0 c1 c2 : Value) (a : Option Addr) (hs : List Bool) (cap : Nat) (hl0 : hs.length ≤ 9223372036854775807) (d0 d1 : Int) (r0 : -9223372036854775808 ≤ d0 ∧ d0 ≤ 9223372036854775807) (r1 : -9223372036854775808 ≤ d1 ∧ d1 ≤ 9223372036854775807)
    (aa : Option Addr) (act : List Int) (ca : Nat) (hal : act.length ≤ 9223372036854775807) (w : World) (hC : Cells w a (bv hs)) (hA : Cells w aa (iv act)) :
    Calls Try.prog 12 #[.agg #[c0, c1, c2, .slice a hs.length cap], .int .i64 d0, .int .i64 d1, .slice aa act.length ca] w fun e w' => e = .returned (.bool true) ∧ Below w.heap.size w w' := by
  have H0 : Below w.heap.size w (w.alloc (Obj.cells #[c0, c1, c2, Value.slice a hs.length cap] 24)) := (Below.refl _ w).alloc (Nat.le_refl _) _
  rcases big_of (x := hs.length) (y := act.length) with hb | ⟨hs1, hb⟩ | ⟨hs1, ha1⟩
  · go_enter Try.func12, Try.ntmps12
    go_wp2_with fail
    go_ret
    exact ⟨rfl, H0⟩
  · go_enter Try.func12, Try.ntmps12
    go_wp2_with fail
    go_ret
    exact ⟨rfl, H0⟩
  have hl3 : hs.length ≤ 17592186044416 := by omega
  have B0 := Boxes.new w c0 c1 c2 (.slice a hs.length cap) 24
  have R0 := Lib.hid r0
  have R1 := Lib.hid r1
  clear r0 r1 hl0 hal
  by_cases ht : turnE hs = 0
  · have hz : hl hs ≠ [] := by intro e; simp [turnE, e] at ht
    have hpos : 0 < (hl hs).length := List.length_pos_iff.2 hz
    obtain ⟨_, j0, _, _, _, m0, t0, e0⟩ := draw_place hz d0
    obtain ⟨_, j1, _, _, _, m1, t1, e1⟩ := draw_place hz d1
    have E0 := Lib.hid e0
    have E1 := Lib.hid e1
    have T := Lib.hid ht
    have T0 := Lib.hid t0
    have T1 := Lib.hid t1
    have HC := Lib.hid hC
    have HA := Lib.hid hA
    clear e0 e1 t0 t1 hC hA
    by_cases hal : act.length = hs.length
    · have hp : pickE hs act = 0 := by simp [pickE, hal, ht]
      obtain ⟨x, hx⟩ := get_of_lt (xs := act) (k := j0) (by omega)
      obtain ⟨y, hy⟩ := get_of_lt (xs := act) (k := j1) (by omega)
      have hpv : pickV hs d0 d1 act = lessI j0 x j1 y := by simp [pickV, hp, E0.out, E1.out, List.getD, hx, hy]
      have k0 : (j0 : Int) < (act.length : Int) := by omega
      have k1 : (j1 : Int) < (act.length : Int) := by omega
      have PV := Lib.hid hpv
      have PZ := Lib.hid hp
      have HX := Lib.hid hx
      have HY := Lib.hid hy
      have hpq : (lessI j0 x j1 y = j0 ∧ decide (x ≤ y) = true) ∨ (lessI j0 x j1 y = j1 ∧ ((j1 : Int) == (j0 : Int)) = false ∧ decide (y < x) = true) := by
        by_cases hxy : x ≤ y
        · exact .inl ⟨by simp [lessI, hxy], by simp [hxy]⟩
        · refine .inr ⟨by simp [lessI, hxy], ?_, by simp; omega⟩
          simp only [beq_eq_false_iff_ne, ne_eq]
          intro e
          have : j1 = j0 := by omega
          subst this
          rw [hx] at hy
          have := Option.some.inj hy
          omega
      generalize lessI j0 x j1 y = p at PV hpq
      clear ht hz hp hpv hx hy hal
      rcases hpq with ⟨rfl, dxy⟩ | ⟨rfl, dj, dxy⟩
      all_goals
        go_enter Try.func12, Try.ntmps12
        go_wp2_with fail
        refine (Pick_calls _ _ _ _ _ _ hs1 _ _ R0.out R1.out _ _ _ _ (HC.out.below H0) (HA.out.below H0)).mono ?_
        rintro e w1 ⟨rfl, hB1⟩
        rw [PV.out, PZ.out]
        have H1 := fur H0 hB1
        have X1 := B0.below hB1
        clear H0 B0 hB1
        obtain ⟨b0, b1, b2, b3⟩ := X1
        go_wp2_with fail
        refine (Draw_calls _ _ _ _ _ _ hs1 _ _ R0.out R1.out _ (HC.out.below H1)).mono ?_
        rintro e w2 ⟨rfl, hB2⟩
        rw [E0.out, E1.out, T.out]
        have H2 := fur H1 hB2
        have X2 := (Boxes.mk b0 b1 b2 b3).below hB2
        clear H1 hB2 b0 b1 b2 b3
        obtain ⟨b0, b1, b2, b3⟩ := X2
        go_wp2_with fail
        refine (Healthy_calls _ _ _ _ _ _ hl3 _ (HC.out.below H2)).mono ?_
        rintro e w3 ⟨v3, rfl, ⟨a3, cap3, rfl, _, _, _⟩, hB3⟩
        have H3 := fur H2 hB3
        have X3 := (Boxes.mk b0 b1 b2 b3).below hB3
        have HH3 := Lib.hid H3
        clear H2 hB3 b0 b1 b2 b3
        obtain ⟨b0, b1, b2, b3⟩ := X3
        obtain ⟨ba, oa, rfl, hca⟩ := (HA.out.below H3) _ _ (iv_get HX.out)
        obtain ⟨ba2, oa2, ea, hcb⟩ := (HA.out.below H3) _ _ (iv_get HY.out)
        cases ea
        obtain ⟨bh, oh, rfl, hc0⟩ := (HC.out.below H3) _ _ (bv_get T0.out)
        obtain ⟨bh2, oh2, eh, hc1⟩ := (HC.out.below H3) _ _ (bv_get T1.out)
        cases eh
        clear H3
        go_wp2_with fail
        refine wp_region_first (by kernel_rfl) (by kernel_rfl) (by kernel_rfl) (by kernel_rfl) rfl ?_
        intro K hK
        go_simp
        refine (drawn_calls _).mono ?_
        rintro e w5 ⟨rfl, hBa⟩
        have hca5 : w5.cell? ⟨ba, oa + j0, none⟩ = some (.int .i64 x) := (hBa.cell (p := ⟨ba, oa + j0, none⟩) (World.block_lt_of_cell? w3 _ hca)).trans hca
        have hcb5 : w5.cell? ⟨ba, oa + j1, none⟩ = some (.int .i64 y) := (hBa.cell (p := ⟨ba, oa + j1, none⟩) (World.block_lt_of_cell? w3 _ hcb)).trans hcb
        refine hK _ _ ?_
        clear hK K
        repeat (go_big_quiet_step (fail))
        refine wpQuiet_nil ?_
        rintro w6 ⟨nq, rfl⟩
        go_wp2_with fail
        go_ret
        exact ⟨rfl, below_drewN (fur HH3.out.drew hBa) _⟩
    · have hp : pickE hs act = 1 := by simp [pickE, hal]
      have hne : ((act.length : Int) != (hs.length : Int)) = true := by simp; omega
      have hpv : pickV hs d0 d1 act = 0 := by simp [pickV, hp]
      have PV := Lib.hid hpv
      have PZ := Lib.hid hp
      clear ht hz hp hpv hal
      go_enter Try.func12, Try.ntmps12
      go_wp2_with fail
      refine (Pick_calls _ _ _ _ _ _ hs1 _ _ R0.out R1.out _ _ _ _ (HC.out.below H0) (HA.out.below H0)).mono ?_
      rintro e w1 ⟨rfl, hB1⟩
      rw [PV.out, PZ.out]
      have H1 := fur H0 hB1
      have X1 := B0.below hB1
      clear H0 B0 hB1
      obtain ⟨b0, b1, b2, b3⟩ := X1
      go_wp2_with fail
      refine (Draw_calls _ _ _ _ _ _ hs1 _ _ R0.out R1.out _ (HC.out.below H1)).mono ?_
      rintro e w2 ⟨rfl, hB2⟩
      rw [E0.out, E1.out, T.out]
      have H2 := fur H1 hB2
      have X2 := (Boxes.mk b0 b1 b2 b3).below hB2
      clear H1 hB2 b0 b1 b2 b3
      obtain ⟨b0, b1, b2, b3⟩ := X2
      go_wp2_with fail
      refine (Healthy_calls _ _ _ _ _ _ hl3 _ (HC.out.below H2)).mono ?_
      rintro e w3 ⟨v3, rfl, ⟨a3, cap3, rfl, _, _, _⟩, hB3⟩
      have H3 := fur H2 hB3
      have X3 := (Boxes.mk b0 b1 b2 b3).below hB3
      have HH3 := Lib.hid H3
      have HX3 := Lib.hid X3
      clear H2 hB3 b0 b1 b2 b3
      obtain ⟨b0, b1, b2, b3⟩ := X3
      obtain ⟨bh, oh, rfl, hc0⟩ := (HC.out.below H3) _ _ (bv_get T0.out)
      obtain ⟨bh2, oh2, eh, hc1⟩ := (HC.out.below H3) _ _ (bv_get T1.out)
      cases eh
      clear H3
      go_wp2_with fail
      refine (drawn_calls _).mono ?_
      rintro e w4 ⟨rfl, hB4⟩
      have X4 := HX3.out.below hB4
      clear b0 b1 b2 b3
      obtain ⟨b0, b1, b2, b3⟩ := X4
      go_wp2_with fail
      go_ret
      exact ⟨rfl, fur HH3.out hB4⟩
  · have hz : hl hs = [] := by
      by_cases h : hl hs = []
      · exact h
      · exact (ht (by simp [turnE, h])).elim
    have ht5 : turnE hs = 5 := by simp [turnE, hz]
    have hp : (pickE hs act != 0) = true := by unfold pickE; split <;> simp [ht5]
    have hz2 : (((hl hs).length : Int) == 0) = true := by simp [hz]
    have T := Lib.hid ht5
    clear ht ht5 hz
    go_enter Try.func12, Try.ntmps12
    go_wp2_with fail
    refine (Pick_calls _ _ _ _ _ _ hs1 _ _ R0.out R1.out _ _ _ _ (hC.below H0) (hA.below H0)).mono ?_
    rintro e w1 ⟨rfl, hB1⟩
    have H1 := fur H0 hB1
    have X1 := B0.below hB1
    clear H0 B0 hB1
    obtain ⟨b0, b1, b2, b3⟩ := X1
    go_wp2_with fail
    refine (Draw_calls _ _ _ _ _ _ hs1 _ _ R0.out R1.out _ (hC.below H1)).mono ?_
    rintro e w2 ⟨rfl, hB2⟩
    rw [T.out]
    have H2 := fur H1 hB2
    have X2 := (Boxes.mk b0 b1 b2 b3).below hB2
    clear H1 hB2 b0 b1 b2 b3
    obtain ⟨b0, b1, b2, b3⟩ := X2
    go_wp2_with fail
    refine (Healthy_calls _ _ _ _ _ _ hl3 _ (hC.below H2)).mono ?_
    rintro e w3 ⟨v3, rfl, ⟨a3, cap3, rfl, _, _, _⟩, hB3⟩
    have H3 := fur H2 hB3
    clear H2 hB3 b0 b1 b2 b3
    go_wp2_with fail
    refine (drawn_calls _).mono ?_
    rintro e w4 ⟨rfl, hB4⟩
    go_wp2_with fail
    go_ret
    exact ⟨rfl, fur H3 hB4⟩

end Go.Proofs.Ytfegglolblglpaa

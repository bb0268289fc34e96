/-
  The walks of the statements LeastPicks, LeastSwap and LeastDrawn.
-/
import Derived.Test.YtfegglolblglpaaT13
import Derived.Test.YtfegglolblglpaaReg
namespace Go.Proofs.Ytfegglolblglpaa
open Go.RowKit
set_option linter.unusedVariables false

/-- Too much to be looked at: true at once. -/
theorem big_of {x y : Nat} : (1000 < x) ∨ (x ≤ 1000 ∧ 1000 < y) ∨ (x ≤ 1000 ∧ y ≤ 1000) := by omega

theorem held1_start {b o : Nat} {v : Value} {w : World} (h : w.cell? ⟨b, o, none⟩ = some v) : w.drew.cell? ⟨b, o, none⟩ = some v ∧ Hid (Below w.heap.size w w.drew) :=
  ⟨h, (Below.refl _ w).drew⟩
theorem held1_step {b o : Nat} {v : Value} {W w w' : World} (h : w.cell? ⟨b, o, none⟩ = some v ∧ Hid (Below W.heap.size W w)) (hb : Below w.heap.size w w') : w'.cell? ⟨b, o, none⟩ = some v ∧ Hid (Below W.heap.size W w') :=
  ⟨by rw [hb.cell (World.block_lt_of_cell? w _ h.1)]; exact h.1, fur h.2.out hb⟩
theorem held2_start {b o b' o' : Nat} {v v' : Value} {w : World} (h : w.cell? ⟨b, o, none⟩ = some v) (h' : w.cell? ⟨b', o', none⟩ = some v') : w.drew.cell? ⟨b, o, none⟩ = some v ∧ w.drew.cell? ⟨b', o', none⟩ = some v' ∧ Hid (Below w.heap.size w w.drew) :=
  ⟨h, h', (Below.refl _ w).drew⟩
theorem held2_step {b o b' o' : Nat} {v v' : Value} {W w w' : World} (h : w.cell? ⟨b, o, none⟩ = some v ∧ w.cell? ⟨b', o', none⟩ = some v' ∧ Hid (Below W.heap.size W w)) (hb : Below w.heap.size w w') :
    w'.cell? ⟨b, o, none⟩ = some v ∧ w'.cell? ⟨b', o', none⟩ = some v' ∧ Hid (Below W.heap.size W w') :=
  ⟨by rw [hb.cell (World.block_lt_of_cell? w _ h.1)]; exact h.1, by rw [hb.cell (World.block_lt_of_cell? w _ h.2.1)]; exact h.2.1, fur h.2.2.out hb⟩

set_option maxHeartbeats 2000000 in
theorem leastPicks_walk (c0 c1 c2 : Value) (a : Option Addr) (hs : List Bool) (cap : Nat) (hl : hs.length ≤ 9223372036854775807) (d0 d1 : Int) (r0 : -9223372036854775808 ≤ d0 ∧ d0 ≤ 9223372036854775807) (r1 : -9223372036854775808 ≤ d1 ∧ d1 ≤ 9223372036854775807)
    (aa : Option Addr) (act : List Int) (ca : Nat) (hal : act.length ≤ 9223372036854775807) (w : World) (hC : Cells w a (bv hs)) (hA : Cells w aa (iv act)) :
    Calls Try.prog 11 #[.agg #[c0, c1, c2, .slice a hs.length cap], .int .i64 d0, .int .i64 d1, .slice aa act.length ca] w fun e w' => e = .returned (.bool true) ∧ Below w.heap.size w w' := by
  have H0 : Below w.heap.size w (w.alloc (Obj.cells #[c0, c1, c2, Value.slice a hs.length cap] 24)) := (Below.refl _ w).alloc (Nat.le_refl _) _
  rcases big_of (x := hs.length) (y := act.length) with hb | ⟨hs1, hb⟩ | ⟨hs1, ha1⟩
  · go_enter Try.func11, Try.ntmps11
    go_wp2_with fail
    go_ret
    exact ⟨rfl, H0⟩
  · go_enter Try.func11, Try.ntmps11
    go_wp2_with fail
    go_ret
    exact ⟨rfl, H0⟩
  · have B0 := Boxes.new w c0 c1 c2 (.slice a hs.length cap) 24
    have R0 := Lib.hid r0
    have R1 := Lib.hid r1
    clear r0 r1 hl hal
    go_enter Try.func11, Try.ntmps11
    go_wp2_with fail
    refine (Draw_calls _ _ _ _ _ _ hs1 _ _ R0.out R1.out _ (hC.below H0)).mono ?_
    rintro e w1 ⟨rfl, hB1⟩
    have H1 := fur H0 hB1
    have X1 := B0.below hB1
    clear H0 B0 hB1
    obtain ⟨b0, b1, b2, b3⟩ := X1
    go_wp2_with fail
    refine (refDraw_calls _ _ _ _ _ _ hs1 _ _ _ (hC.below H1)).mono ?_
    rintro e w2 ⟨rfl, hB2⟩
    have H2 := fur H1 hB2
    have X2 := (Boxes.mk b0 b1 b2 b3).below hB2
    clear H1 hB2 b0 b1 b2 b3
    obtain ⟨b0, b1, b2, b3⟩ := X2
    go_wp2_with fail
    refine (Pick_calls _ _ _ _ _ _ hs1 _ _ R0.out R1.out _ _ _ _ (hC.below H2) (hA.below H2)).mono ?_
    rintro e w3 ⟨rfl, hB3⟩
    have H3 := fur H2 hB3
    have X3 := (Boxes.mk b0 b1 b2 b3).below hB3
    clear H2 hB3 b0 b1 b2 b3
    obtain ⟨b0, b1, b2, b3⟩ := X3
    go_wp2_with fail
    refine (refPick_calls _ _ _ _ _ _ hs1 _ _ _ _ _ _ (hC.below H3) (hA.below H3)).mono ?_
    rintro e w4 ⟨rfl, hB4⟩
    have H4 := fur H3 hB4
    clear H3 hB4 b0 b1 b2 b3 hC hA
    go_wp2_with fail
    refine (drawn_calls _).mono ?_
    rintro e w5 ⟨rfl, hB5⟩
    have H5 := fur H4 hB5
    clear H4 hB5
    go_wp2_with fail
    refine (Less_calls _ _ _ _ _).mono ?_
    rintro e w6 ⟨rfl, rfl⟩
    go_wp2_with fail
    refine (refLess_calls _ _ _ _ _).mono ?_
    rintro e w6 ⟨rfl, rfl⟩
    go_wp2_with fail
    go_ret
    exact ⟨rfl, H5⟩

theorem turnE_or (hs : List Bool) : turnE hs = 0 ∨ turnE hs = 5 := by unfold turnE; split <;> simp

set_option maxHeartbeats 2000000 in
theorem leastSwap_walk (c0 c1 c2 : Value) (a : Option Addr) (hs : List Bool) (cap : Nat) (hl : hs.length ≤ 9223372036854775807) (d0 d1 : Int) (r0 : -9223372036854775808 ≤ d0 ∧ d0 ≤ 9223372036854775807) (r1 : -9223372036854775808 ≤ d1 ∧ d1 ≤ 9223372036854775807)
    (aa : Option Addr) (act : List Int) (ca : Nat) (hal : act.length ≤ 9223372036854775807) (w : World) (hC : Cells w a (bv hs)) (hA : Cells w aa (iv act)) :
    Calls Try.prog 13 #[.agg #[c0, c1, c2, .slice a hs.length cap], .int .i64 d0, .int .i64 d1, .slice aa act.length ca] w fun e w' => e = .returned (.bool true) ∧ Below w.heap.size w w' := by
  have H0 : Below w.heap.size w (w.alloc (Obj.cells #[c0, c1, c2, Value.slice a hs.length cap] 24)) := (Below.refl _ w).alloc (Nat.le_refl _) _
  rcases big_of (x := hs.length) (y := act.length) with hb | ⟨hs1, hb⟩ | ⟨hs1, ha1⟩
  · go_enter Try.func13, Try.ntmps13
    go_wp2_with fail
    go_ret
    exact ⟨rfl, H0⟩
  · go_enter Try.func13, Try.ntmps13
    go_wp2_with fail
    go_ret
    exact ⟨rfl, H0⟩
  · have B0 := Boxes.new w c0 c1 c2 (.slice a hs.length cap) 24
    have R0 := Lib.hid r0
    have R1 := Lib.hid r1
    clear r0 r1 hl hal
    by_cases hoff : turnE hs ≠ 0 ∨ pickE hs act ≠ 0
    · have g1 : (turnE hs != 0 || (pickE hs act != 0)) = true := by simpa using hoff
      have g2 : (pickE hs act != 0) = true := by
        have : pickE hs act ≠ 0 := by
          rcases hoff with h | h
          · unfold pickE; split
            · omega
            · exact h
          · exact h
        simpa using this
      clear hoff g1
      by_cases ht : turnE hs = 0
      · have T := Lib.hid ht
        clear ht
        go_enter Try.func13, Try.ntmps13
        go_wp2_with fail
        refine (Draw_calls _ _ _ _ _ _ hs1 _ _ R0.out R1.out _ (hC.below H0)).mono ?_
        rintro e w1 ⟨rfl, hB1⟩
        rw [T.out]
        have H1 := fur H0 hB1
        have X1 := B0.below hB1
        clear H0 B0 hB1
        obtain ⟨b0, b1, b2, b3⟩ := X1
        go_wp2_with fail
        refine (Pick_calls _ _ _ _ _ _ hs1 _ _ R0.out R1.out _ _ _ _ (hC.below H1) (hA.below H1)).mono ?_
        rintro e w2 ⟨rfl, hB2⟩
        have H2 := fur H1 hB2
        have X2 := (Boxes.mk b0 b1 b2 b3).below hB2
        clear H1 hB2 b0 b1 b2 b3
        obtain ⟨b0, b1, b2, b3⟩ := X2
        go_wp2_with fail
        refine (Pick_calls _ _ _ _ _ _ hs1 _ _ R1.out R0.out _ _ _ _ (hC.below H2) (hA.below H2)).mono ?_
        rintro e w3 ⟨rfl, hB3⟩
        have H3 := fur H2 hB3
        clear H2 hB3 b0 b1 b2 b3
        go_wp2_with fail
        refine (drawn_calls _).mono ?_
        rintro e w4 ⟨rfl, hB4⟩
        go_wp2_with fail
        go_ret
        exact ⟨rfl, fur H3 hB4⟩
      · have T := Lib.hid ((turnE_or hs).resolve_left ht)
        clear ht
        go_enter Try.func13, Try.ntmps13
        go_wp2_with fail
        refine (Draw_calls _ _ _ _ _ _ hs1 _ _ R0.out R1.out _ (hC.below H0)).mono ?_
        rintro e w1 ⟨rfl, hB1⟩
        rw [T.out]
        have H1 := fur H0 hB1
        have X1 := B0.below hB1
        clear H0 B0 hB1
        obtain ⟨b0, b1, b2, b3⟩ := X1
        go_wp2_with fail
        refine (Pick_calls _ _ _ _ _ _ hs1 _ _ R0.out R1.out _ _ _ _ (hC.below H1) (hA.below H1)).mono ?_
        rintro e w2 ⟨rfl, hB2⟩
        have H2 := fur H1 hB2
        have X2 := (Boxes.mk b0 b1 b2 b3).below hB2
        clear H1 hB2 b0 b1 b2 b3
        obtain ⟨b0, b1, b2, b3⟩ := X2
        go_wp2_with fail
        refine (Pick_calls _ _ _ _ _ _ hs1 _ _ R1.out R0.out _ _ _ _ (hC.below H2) (hA.below H2)).mono ?_
        rintro e w3 ⟨rfl, hB3⟩
        have H3 := fur H2 hB3
        clear H2 hB3 b0 b1 b2 b3
        go_wp2_with fail
        refine (drawn_calls _).mono ?_
        rintro e w4 ⟨rfl, hB4⟩
        go_wp2_with fail
        go_ret
        exact ⟨rfl, fur H3 hB4⟩
    · have ht : turnE hs = 0 := by
        by_cases h : turnE hs = 0
        · exact h
        · exact (hoff (.inl h)).elim
      have hp : pickE hs act = 0 := by
        by_cases h : pickE hs act = 0
        · exact h
        · exact (hoff (.inr h)).elim
      have hlen : act.length = hs.length := by
        by_cases h : act.length = hs.length
        · exact h
        · simp [pickE, h] at hp
      have hz : hl hs ≠ [] := by intro e; simp [turnE, e] at ht
      obtain ⟨_, j0, _, _, _, m0, _, e0⟩ := draw_place hz d0
      obtain ⟨_, j1, _, _, _, m1, _, e1⟩ := draw_place hz d1
      obtain ⟨x, hx⟩ := get_of_lt (xs := act) (k := j0) (by omega)
      obtain ⟨y, hy⟩ := get_of_lt (xs := act) (k := j1) (by omega)
      have v01 : pickV hs d0 d1 act = lessI j0 x j1 y := by simp [pickV, hp, e0, e1, List.getD, hx, hy]
      have v10 : pickV hs d1 d0 act = lessI j1 y j0 x := by simp [pickV, hp, e0, e1, List.getD, hx, hy]
      have hA0 := Lib.hid hA
      have hC0 := Lib.hid hC
      have V01 := Lib.hid v01
      have V10 := Lib.hid v10
      have E0 := Lib.hid e0
      have E1 := Lib.hid e1
      have T := Lib.hid ht
      have PZ := Lib.hid hp
      have HX := Lib.hid hx
      have HY := Lib.hid hy
      have k0 : (j0 : Int) < (act.length : Int) := by omega
      have k1 : (j1 : Int) < (act.length : Int) := by omega
      have hpq : (j0 = j1 ∧ lessI j0 x j1 y = lessI j1 y j0 x) ∨ (j0 ≠ j1 ∧ ((lessI j0 x j1 y == lessI j1 y j0 x) == (x != y)) = true) := by
        by_cases ej : j0 = j1
        · subst ej
          rw [hx] at hy
          cases hy
          exact .inl ⟨rfl, rfl⟩
        · refine .inr ⟨ej, ?_⟩
          rcases Int.lt_trichotomy x y with h | h | h
          · have h1 : x ≠ y := by omega
            have h2 : ¬ y ≤ x := by omega
            have h3 : x ≤ y := by omega
            simp [lessI, h1, h2, h3]
          · subst h
            have : ¬ (j0 : Int) = j1 := by omega
            simp [lessI, this]
          · have h1 : x ≠ y := by omega
            have h2 : ¬ x ≤ y := by omega
            have h3 : y ≤ x := by omega
            simp [lessI, h1, h2, h3]
      generalize lessI j0 x j1 y = p at V01 hpq
      generalize lessI j1 y j0 x = q at V10 hpq
      have hoff' := hoff
      clear hoff hoff' v01 v10 e0 e1 ht hp hlen hz hx hy hA hC
      rcases hpq with ⟨ej, epq⟩ | ⟨ej, epq⟩
      · subst ej
        subst epq
        go_enter Try.func13, Try.ntmps13
        go_wp2_with fail
        refine (Draw_calls _ _ _ _ _ _ hs1 _ _ R0.out R1.out _ (hC0.out.below H0)).mono ?_
        rintro e w1 ⟨rfl, hB1⟩
        rw [E0.out, E1.out, T.out]
        have H1 := fur H0 hB1
        have X1 := B0.below hB1
        clear H0 B0 hB1
        obtain ⟨b0, b1, b2, b3⟩ := X1
        go_wp2_with fail
        refine (Pick_calls _ _ _ _ _ _ hs1 _ _ R0.out R1.out _ _ _ _ (hC0.out.below H1) (hA0.out.below H1)).mono ?_
        rintro e w2 ⟨rfl, hB2⟩
        rw [V01.out, PZ.out]
        have H2 := fur H1 hB2
        have X2 := (Boxes.mk b0 b1 b2 b3).below hB2
        clear H1 hB2 b0 b1 b2 b3
        obtain ⟨b0, b1, b2, b3⟩ := X2
        go_wp2_with fail
        refine (Pick_calls _ _ _ _ _ _ hs1 _ _ R1.out R0.out _ _ _ _ (hC0.out.below H2) (hA0.out.below H2)).mono ?_
        rintro e w3 ⟨rfl, hB3⟩
        rw [V10.out, PZ.out]
        have H3 := fur H2 hB3
        have HH3 := Lib.hid H3
        obtain ⟨ba, oa, rfl, hca⟩ := (hA0.out.below H3) _ _ (iv_get HX.out)
        clear H2 hB3 b0 b1 b2 b3 H3
        go_wp2_with fail
        refine wp_region_first (by kernel_rfl) (by kernel_rfl) (by kernel_rfl) (by kernel_rfl) rfl ?_
        intro K hK
        go_simp
        refine (drawn_calls _).mono ?_
        rintro e w5 ⟨rfl, hBa⟩
        have hca5 : w5.cell? ⟨ba, oa + j0, none⟩ = some (.int .i64 x) := (hBa.cell (p := ⟨ba, oa + j0, none⟩) (World.block_lt_of_cell? w3 _ hca)).trans hca
        refine hK _ _ ?_
        clear hK K
        repeat (go_big_quiet_step (fail))
        refine wpQuiet_nil ?_
        rintro w6 ⟨nq, rfl⟩
        go_wp2_with fail
        go_ret
        exact ⟨rfl, below_drewN (fur HH3.out.drew hBa) _⟩
      · have ej2 : ((j0 : Int) == (j1 : Int)) = false := by simp; omega
        clear ej
        go_enter Try.func13, Try.ntmps13
        go_wp2_with fail
        refine (Draw_calls _ _ _ _ _ _ hs1 _ _ R0.out R1.out _ (hC0.out.below H0)).mono ?_
        rintro e w1 ⟨rfl, hB1⟩
        rw [E0.out, E1.out, T.out]
        have H1 := fur H0 hB1
        have X1 := B0.below hB1
        clear H0 B0 hB1
        obtain ⟨b0, b1, b2, b3⟩ := X1
        go_wp2_with fail
        refine (Pick_calls _ _ _ _ _ _ hs1 _ _ R0.out R1.out _ _ _ _ (hC0.out.below H1) (hA0.out.below H1)).mono ?_
        rintro e w2 ⟨rfl, hB2⟩
        rw [V01.out, PZ.out]
        have H2 := fur H1 hB2
        have X2 := (Boxes.mk b0 b1 b2 b3).below hB2
        clear H1 hB2 b0 b1 b2 b3
        obtain ⟨b0, b1, b2, b3⟩ := X2
        go_wp2_with fail
        refine (Pick_calls _ _ _ _ _ _ hs1 _ _ R1.out R0.out _ _ _ _ (hC0.out.below H2) (hA0.out.below H2)).mono ?_
        rintro e w3 ⟨rfl, hB3⟩
        rw [V10.out, PZ.out]
        have H3 := fur H2 hB3
        have HH3 := Lib.hid H3
        obtain ⟨ba, oa, rfl, hca⟩ := (hA0.out.below H3) _ _ (iv_get HX.out)
        obtain ⟨ba2, oa2, ea, hca2⟩ := (hA0.out.below H3) _ _ (iv_get HY.out)
        cases ea
        clear H2 hB3 b0 b1 b2 b3 H3
        go_wp2_with fail
        refine wp_region_first (by kernel_rfl) (by kernel_rfl) (by kernel_rfl) (by kernel_rfl) rfl ?_
        intro K hK
        go_simp
        refine (drawn_calls _).mono ?_
        rintro e w5 ⟨rfl, hBa⟩
        have hca5 : w5.cell? ⟨ba, oa + j0, none⟩ = some (.int .i64 x) := (hBa.cell (p := ⟨ba, oa + j0, none⟩) (World.block_lt_of_cell? w3 _ hca)).trans hca
        have hcb5 : w5.cell? ⟨ba, oa + j1, none⟩ = some (.int .i64 y) := (hBa.cell (p := ⟨ba, oa + j1, none⟩) (World.block_lt_of_cell? w3 _ hca2)).trans hca2
        refine hK _ _ ?_
        clear hK K
        repeat (go_big_quiet_step (fail))
        refine wpQuiet_nil ?_
        rintro w6 ⟨nq, rfl⟩
        go_wp2_with fail
        go_ret
        exact ⟨rfl, below_drewN (fur HH3.out.drew hBa) _⟩

end Go.Proofs.Ytfegglolblglpaa

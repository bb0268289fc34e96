/-
  The walk of the statement ShardOrder.
-/
import Derived.Test.YtfegglolblglpaaL11b
namespace Go.Proofs.Ytfegglolblglpaa
open Go.RowKit
set_option linter.unusedVariables false

theorem addRow_comm (r : List Int) (j j' : Nat) : addRow (addRow r j) j' = addRow (addRow r j') j := by
  by_cases e : j = j'
  · rw [e]
  · have h1 : (addRow r j).getD j' 0 = r.getD j' 0 := addRow_other e
    have h2 : (addRow r j').getD j 0 = r.getD j 0 := addRow_other (fun h => e h.symm)
    show (addRow r j).set j' (inc ((addRow r j).getD j' 0)) = (addRow r j').set j (inc ((addRow r j').getD j 0))
    rw [h1, h2]
    exact List.set_comm _ _ e
/-- An add that is taken is taken after another one too, and gives the same. -/
theorem addL_comm {xss : List (List Int)} {t k u n : Int} (h1 : addE xss t k = 0) (h2 : addE xss u n = 0) :
    addE (addL xss t k) u n = 0 ∧ addE (addL xss u n) t k = 0 ∧ addL (addL xss t k) u n = addL (addL xss u n) t k := by
  obtain ⟨i, j, r, rfl, rfl, hj, hr, hr6, e1, hB, hB1⟩ := addL_taken h1
  obtain ⟨i', j', r', rfl, rfl, hj', hr', hr6', e2, _, hB2⟩ := addL_taken h2
  have hi := (List.getElem?_eq_some_iff.1 hr).1
  have hi' := (List.getElem?_eq_some_iff.1 hr').1
  rw [e1] at hB1 ⊢
  rw [e2] at hB2 ⊢
  by_cases e : i = i'
  · subst e
    rw [hr] at hr'
    cases hr'
    have g1 : (xss.set i (addRow r j))[i]? = some (addRow r j) := List.getElem?_set_self hi
    have g2 : (xss.set i (addRow r j'))[i]? = some (addRow r j') := List.getElem?_set_self hi
    obtain ⟨a1, a2⟩ := addE_good hB1 g1 hj'
    obtain ⟨a3, a4⟩ := addE_good hB2 g2 hj
    refine ⟨a1, a3, ?_⟩
    rw [a2, a4, List.set_set, List.set_set, addRow_comm]
  · have g1 : (xss.set i (addRow r j))[i']? = some r' := by rw [List.getElem?_set_ne e]; exact hr'
    have g2 : (xss.set i' (addRow r' j'))[i]? = some r := by rw [List.getElem?_set_ne (fun h => e h.symm)]; exact hr
    obtain ⟨a1, a2⟩ := addE_good hB1 g1 hj'
    obtain ⟨a3, a4⟩ := addE_good hB2 g2 hj
    refine ⟨a1, a3, ?_⟩
    rw [a2, a4]
    exact List.set_comm _ _ e

set_option maxRecDepth 100000 in
set_option maxHeartbeats 4000000 in
theorem shardOrder_walk (a : Option Addr) (xss : List (List Int)) (cap : Nat) (t k u n : Int) (hl : xss.length ≤ 9223372036854775807) (w : World) (hG : Grid w a xss) :
    Calls Try.prog 9 #[.slice a xss.length cap, .int .i64 t, .int .i64 k, .int .i64 u, .int .i64 n] w (fun e w' => e = .returned (.bool true) ∧ Below w.heap.size w w') := by
  have hA1 := Add_calls a xss cap t k hl w hG
  have hA2 := fun w => Add_calls a xss cap u n hl w
  have out : ∀ (w1 : World), Below w.heap.size w w1 → ∀ (e : Ending) (w2 : World), e = .returned (.bool true) ∧ Below w1.heap.size w1 w2 → e = .returned (.bool true) ∧ Below w.heap.size w w2 := fun w1 h e w2 h2 => ⟨h2.1, h.trans (h2.2.mono h.size)⟩
  by_cases hb : bigB xss = true
  · have HB := Lib.hid hb
    clear hb
    go_enter Try.func9, Try.ntmps9
    go_wp2_with fail
    refine hA1.mono ?_
    rintro e w1 ⟨v, rfl, ⟨a1, c1, rfl, _, _, g1⟩, b1⟩
    go_wp2_with fail
    refine (hA2 w1 (hG.below b1)).mono ?_
    rintro e w2 ⟨v, rfl, ⟨a2, c2, rfl, _, _, g2⟩, b2⟩
    have b12 := b1.trans (b2.mono b1.size)
    go_wp2_with fail
    refine (Big_calls a xss cap hl w2 (hG.below b12)).mono ?_
    rintro e w' ⟨rfl, hw⟩
    obtain rfl := hw.symm
    rw [HB.out]
    clear hw
    go_wp2_with fail
    refine (counted_calls w2).mono ?_
    rintro e w3 ⟨rfl, b3⟩
    go_wp2_with fail
    go_ret
    exact ⟨rfl, b12.trans (b3.mono b12.size)⟩
  · have HB := Lib.hid (show bigB xss = false by simpa using hb)
    clear hb
    rcases addE_cases xss t k with h1 | h1
    · rcases addE_cases xss u n with h2 | h2
      · obtain ⟨q1, q2, q3⟩ := addL_comm h1 h2
        have s1 := addL_small xss t k
        have s2 := addL_small xss u n
        have s3 := addL_small (addL xss t k) u n
        rw [h1] at hA1
        rw [h2] at hA2
        have hA3 := fun a c h w => Add_calls a (addL xss t k) c u n h w
        have hA4 := fun a c h w => Add_calls a (addL xss u n) c t k h w
        rw [q1] at hA3
        rw [q2, ← q3] at hA4
        generalize addL (addL xss t k) u n = M at *
        generalize addL xss t k = L1 at *
        generalize addL xss u n = L2 at *
        clear q1 q2 q3 h1 h2
        go_enter Try.func9, Try.ntmps9
        go_wp2_with fail
        refine hA1.mono ?_
        rintro e w1 ⟨v, rfl, ⟨a1, c1, rfl, _, _, g1⟩, b1⟩
        have B1 := Lib.hid b1
        have G1 := Lib.hid g1
        clear b1 g1 hA1
        go_wp2_with fail
        refine (hA2 w1 (hG.below B1.out)).mono ?_
        rintro e w2 ⟨v, rfl, ⟨a2, c2, rfl, _, _, g2⟩, b2⟩
        have B2 := Lib.hid (B1.out.trans (b2.mono B1.out.size))
        have G12 := Lib.hid (G1.out.below b2)
        have G2 := Lib.hid g2
        clear b2 g2 B1 G1 hA2
        go_wp2_with fail
        refine (Big_calls a xss cap hl w2 (hG.below B2.out)).mono ?_
        rintro e w' ⟨rfl, hw⟩
        obtain rfl := hw.symm
        rw [HB.out]
        clear hw
        go_wp2_with fail
        refine (hA3 a1 c1 (Nat.le_trans s1.1 (by decide)) w2 G12.out).mono ?_
        rintro e w3 ⟨v, rfl, ⟨a3, c3, rfl, _, _, g3⟩, b3⟩
        have B3 := Lib.hid (B2.out.trans (b3.mono B2.out.size))
        have G23 := Lib.hid (G2.out.below b3)
        have G3 := Lib.hid g3
        clear b3 g3 B2 G12 G2 hA3
        go_wp2_with fail
        refine (hA4 a2 c2 (Nat.le_trans s2.1 (by decide)) w3 G23.out).mono ?_
        rintro e w4 ⟨v, rfl, ⟨a4, c4, rfl, _, _, g4⟩, b4⟩
        have B4 := Lib.hid (B3.out.trans (b4.mono B3.out.size))
        have G34 := Lib.hid (G3.out.below b4)
        have G4 := Lib.hid g4
        clear b4 g4 B3 G23 G3 hA4
        go_wp2_with fail
        refine (counted_calls w4).mono ?_
        rintro e w5 ⟨rfl, b5⟩
        have B5 := Lib.hid (B4.out.trans (b5.mono B4.out.size))
        have G35 := Lib.hid (G34.out.below b5)
        have G45 := Lib.hid (G4.out.below b5)
        clear b5 B4 G34 G4
        go_wp2_with fail
        refine (SameG_calls a3 a4 M M c3 c4 (Nat.le_trans s3.1 (by decide)) (fun r hr => Nat.le_trans (s3.2 r hr) (by decide)) w5 G35.out G45.out).mono ?_
        rintro e w6 ⟨rfl, b6⟩
        rw [show eqG M M = true by simp [eqG]]
        have B6 := Lib.hid (B5.out.trans (b6.mono B5.out.size))
        clear b6 B5 G35 G45
        go_wp2_with fail
        go_ret
        exact ⟨rfl, B6.out⟩
      · rw [h1] at hA1
        rw [h2] at hA2
        go_enter Try.func9, Try.ntmps9
        go_wp2_with fail
        refine hA1.mono ?_
        rintro e w1 ⟨v, rfl, ⟨a1, c1, rfl, _, _, g1⟩, b1⟩
        go_wp2_with fail
        refine (hA2 w1 (hG.below b1)).mono ?_
        rintro e w2 ⟨v, rfl, ⟨a2, c2, rfl, _, _, g2⟩, b2⟩
        have b12 := b1.trans (b2.mono b1.size)
        go_wp2_with fail
        refine (Big_calls a xss cap hl w2 (hG.below b12)).mono ?_
        rintro e w' ⟨rfl, hw⟩
        obtain rfl := hw.symm
        rw [HB.out]
        clear hw
        go_wp2_with fail
        refine (counted_calls w2).mono ?_
        rintro e w3 ⟨rfl, b3⟩
        go_wp2_with fail
        go_ret
        exact ⟨rfl, b12.trans (b3.mono b12.size)⟩
    · rw [h1] at hA1
      go_enter Try.func9, Try.ntmps9
      go_wp2_with fail
      refine hA1.mono ?_
      rintro e w1 ⟨v, rfl, ⟨a1, c1, rfl, _, _, g1⟩, b1⟩
      go_wp2_with fail
      refine (hA2 w1 (hG.below b1)).mono ?_
      rintro e w2 ⟨v, rfl, ⟨a2, c2, rfl, _, _, g2⟩, b2⟩
      have b12 := b1.trans (b2.mono b1.size)
      go_wp2_with fail
      refine (Big_calls a xss cap hl w2 (hG.below b12)).mono ?_
      rintro e w' ⟨rfl, hw⟩
      obtain rfl := hw.symm
      rw [HB.out]
      clear hw
      go_wp2_with fail
      refine (counted_calls w2).mono ?_
      rintro e w3 ⟨rfl, b3⟩
      go_wp2_with fail
      go_ret
      exact ⟨rfl, b12.trans (b3.mono b12.size)⟩

end Go.Proofs.Ytfegglolblglpaa

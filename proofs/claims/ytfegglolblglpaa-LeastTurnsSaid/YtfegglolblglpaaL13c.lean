/-
  The walk of the statement LeastTurns.
-/
import Derived.Test.YtfegglolblglpaaL13a
namespace Go.Proofs.Ytfegglolblglpaa
open Go.RowKit
set_option linter.unusedVariables false

theorem drawA_turn {hs : List Bool} (m : Nat) : turnA hs m = drawA hs m := by
  unfold turnA drawA
  congr 1

theorem ns_snoc (n : Int) (k : Nat) : iv (List.replicate k n) ++ [.int .i64 n] = iv (List.replicate (k + 1) n) := by
  simp [iv, List.replicate_succ']

theorem pick_same {hs : List Bool} {d0 d1 n : Int} : pickE hs (List.replicate hs.length n) = turnE hs ∧ (turnE hs = 0 → pickV hs d0 d1 (List.replicate hs.length n) = drawA hs d0) ∧ (turnE hs ≠ 0 → pickV hs d0 d1 (List.replicate hs.length n) = 0) := by
  have h1 : pickE hs (List.replicate hs.length n) = turnE hs := by simp [pickE]
  refine ⟨h1, fun h => ?_, fun h => by simp [pickV, h1, h]⟩
  have hz : hl hs ≠ [] := by intro e; simp [turnE, e] at h
  obtain ⟨_, j0, _, _, _, m0, _, e0⟩ := draw_place hz d0
  obtain ⟨_, j1, _, _, _, m1, _, e1⟩ := draw_place hz d1
  simp [pickV, h1, h, e0, e1, List.getD, m0, m1, lessI]

set_option maxRecDepth 100000 in
set_option maxHeartbeats 2000000 in
theorem leastTurns_walk (c0 c1 c2 : Value) (a : Option Addr) (hs : List Bool) (cap : Nat) (hl0 : hs.length ≤ 9223372036854775807) (d0 d1 : Int) (r0 : -9223372036854775808 ≤ d0 ∧ d0 ≤ 9223372036854775807) (r1 : -9223372036854775808 ≤ d1 ∧ d1 ≤ 9223372036854775807)
    (n : Int) (w : World) (hC : Cells w a (bv hs)) :
    Calls Try.prog 14 #[.agg #[c0, c1, c2, .slice a hs.length cap], .int .i64 d0, .int .i64 d1, .int .i64 n] w fun e w' => e = .returned (.bool true) ∧ Below w.heap.size w w' := by
  have H0 : Below w.heap.size w (w.alloc (Obj.cells #[c0, c1, c2, Value.slice a hs.length cap] 24)) := (Below.refl _ w).alloc (Nat.le_refl _) _
  by_cases hb : 1000 < hs.length
  · go_enter Try.func14, Try.ntmps14
    go_wp2_with fail
    go_ret
    exact ⟨rfl, H0⟩
  have hs1 : hs.length ≤ 1000 := by omega
  have hl3 : hs.length ≤ 17592186044416 := by omega
  obtain ⟨i0, hi, hz0, hz1, hz2⟩ := info_parts Try.info3
  obtain ⟨p1, p2, p3⟩ := pick_same (hs := hs) (d0 := d0) (d1 := d1) (n := n)
  have dbig : decide ((1000 : Int) < (hs.length : Int)) = false := by simp; omega
  have R0 := Lib.hid r0
  have R1 := Lib.hid r1
  have P1 := Lib.hid p1
  have P2 := Lib.hid p2
  have P3 := Lib.hid p3
  have HC := Lib.hid hC
  clear r0 r1 hl0 hb p1 p2 p3 hC
  go_enter Try.func14, Try.ntmps14
  go_wp2_with fail
  go_loopw [9, 10] (fun v i wr => ∃ k : Nat, k ≤ hs.length ∧ i = .int .i64 k ∧ wr.ownsRow (w.heap.size + 1) 3 1 v k (iv (List.replicate k n)) ∧ Below (w.heap.size + 1) (w.alloc (Obj.cells #[c0, c1, c2, Value.slice a hs.length cap] 24)) wr)
    (fun _ i _ => hs.length - (intOf i).toNat)
  case atStart =>
    refine ⟨0, Nat.zero_le _, rfl, ?_, (Below.refl _ _).alloc (by simp) _⟩
    have := World.ownsRow_made (w.alloc (Obj.cells #[c0, c1, c2, Value.slice a hs.length cap] 24)) (base := w.heap.size + 1) (e := 3) (size := 1) #[] 0 (by simp) (by simp [maxLen]) rfl
    rw [World.size_alloc] at this
    exact this
  case round =>
    obtain ⟨k, hk, rfl, hrow, hnx⟩ := hrel
    obtain ⟨b0, b1, b2, b3⟩ := box4 hnx
    have hsz : w.heap.size + 1 ≤ wr.heap.size := by have := hnx.size; simpa using this
    have HN := Lib.hid hnx
    clear hnx
    by_cases hlt : k < hs.length
    · go_wp2_with (at_builtin; refine wpList_append_own _ rfl _ _ 29 rfl (w.heap.size + 1) 3 i0 (.int .i64 0) 1 8 Try.underlying29 hi hz0 hz1 hz2 rfl (by decide) _ _ _ rfl (hrow.alloc _) ⟨wr.heap.size, 0, none⟩ 1 1 [.int .i64 n] rfl rfl (cell_one_new _ _ _) (by simp [Value.oneCell']) (by unfold maxLen; omega) (by omega) (by simp; omega) ?_; intro v' w1 hown' hgrow _)
      go_roundw
      case rel =>
        refine ⟨k + 1, by omega, by go_num, by rw [← ns_snoc]; exact hown', ?_⟩
        exact (HN.out.alloc (by omega) _).grown hgrow (by simp; omega) (fun j e => (hrow.lt j e).1)
      case measure => simp [intOf]; omega
    · obtain rfl : k = hs.length := by omega
      have g5 : Below w.heap.size w wr := ((Below.refl _ w).alloc (Nat.le_refl _) _).trans (HN.out.mono (by simp))
      obtain ⟨aa, ca, rfl, _, _, hA, _⟩ := Cells.of_ownsRow hrow
      rw [iv_length, List.length_replicate]
      have G5 := Lib.hid g5
      have HA := Lib.hid hA
      have X5 := Lib.hid (Boxes.mk b0 b1 b2 b3)
      clear g5 hA hrow
      have hPick : ∀ w', Cells w' a (bv hs) → Cells w' aa (iv (List.replicate hs.length n)) → Calls Try.prog 36 #[.agg #[c0, c1, c2, .slice a hs.length cap], .int .i64 d0, .int .i64 d1, .slice aa hs.length ca] w' fun e w'' => e = .returned (.tuple #[.int .i64 (pickV hs d0 d1 (List.replicate hs.length n)), .int .i64 (turnE hs)]) ∧ Below w'.heap.size w' w'' := fun w' h1 h2 => by
        have := Pick_calls c0 c1 c2 a hs cap hs1 d0 d1 R0.out R1.out aa (List.replicate hs.length n) ca w' h1 h2
        rwa [List.length_replicate, P1.out] at this
      have HP := Lib.hid hPick
      clear hPick
      by_cases ht : turnE hs = 0
      · have hv := P2.out ht
        have V := Lib.hid hv
        have T := Lib.hid ht
        clear hv ht
        by_cases hd : d0 < 0
        · go_wp2_with fail
          refine (HP.out _ (HC.out.below G5.out) HA.out).mono ?_
          rintro e w1 ⟨rfl, hB1⟩
          rw [V.out, T.out]
          have H1 := fur G5.out hB1
          obtain ⟨e0, e1, e2, e3⟩ := X5.out.below hB1
          clear b0 b1 b2 b3
          go_wp2_with fail
          refine (Draw_calls _ _ _ _ _ _ hs1 _ _ R0.out R1.out _ (HC.out.below H1)).mono ?_
          rintro e w2 ⟨rfl, hB2⟩
          rw [T.out]
          have H2 := fur H1 hB2
          go_wp2_with fail
          refine (drawn_calls _).mono ?_
          rintro e w3 ⟨rfl, hB3⟩
          go_wp2_with fail
          go_ret
          exact ⟨rfl, fur H2 hB3⟩
        · obtain ⟨m, rfl⟩ := Int.eq_ofNat_of_zero_le (show 0 ≤ d0 by omega)
          have hm : m ≤ 9223372036854775807 := by have := R0.out.2; omega
          have TA := Lib.hid (drawA_turn (hs := hs) m)
          go_wp2_with fail
          refine (HP.out _ (HC.out.below G5.out) HA.out).mono ?_
          rintro e w1 ⟨rfl, hB1⟩
          rw [V.out, T.out]
          have H1 := fur G5.out hB1
          obtain ⟨e0, e1, e2, e3⟩ := X5.out.below hB1
          clear b0 b1 b2 b3
          go_wp2_with fail
          refine (Draw_calls _ _ _ _ _ _ hs1 _ _ R0.out R1.out _ (HC.out.below H1)).mono ?_
          rintro e w2 ⟨rfl, hB2⟩
          rw [T.out]
          have H2 := fur H1 hB2
          have X2 := (Boxes.mk e0 e1 e2 e3).below hB2
          clear e0 e1 e2 e3 H1 hB1
          obtain ⟨e0, e1, e2, e3⟩ := X2
          go_wp2_with fail
          refine (Turn_calls _ _ _ _ _ _ hl3 _ _ (HC.out.below H2)).mono ?_
          rintro e w3 ⟨rfl, hB3⟩
          rw [T.out, TA.out]
          have H3 := fur H2 hB3
          clear e0 e1 e2 e3
          go_wp2_with fail
          refine (drawn_calls _).mono ?_
          rintro e w4 ⟨rfl, hB4⟩
          go_wp2_with fail
          go_ret
          exact ⟨rfl, fur H3 hB4⟩
      · have hv := P3.out ht
        have ht5 := (turnE_or hs).resolve_left ht
        have V := Lib.hid hv
        have T := Lib.hid ht5
        clear hv ht ht5
        by_cases hd : d0 < 0
        · go_wp2_with fail
          refine (HP.out _ (HC.out.below G5.out) HA.out).mono ?_
          rintro e w1 ⟨rfl, hB1⟩
          rw [V.out, T.out]
          have H1 := fur G5.out hB1
          obtain ⟨e0, e1, e2, e3⟩ := X5.out.below hB1
          clear b0 b1 b2 b3
          go_wp2_with fail
          refine (Draw_calls _ _ _ _ _ _ hs1 _ _ R0.out R1.out _ (HC.out.below H1)).mono ?_
          rintro e w2 ⟨rfl, hB2⟩
          rw [T.out]
          have H2 := fur H1 hB2
          go_wp2_with fail
          refine (drawn_calls _).mono ?_
          rintro e w3 ⟨rfl, hB3⟩
          go_wp2_with fail
          go_ret
          exact ⟨rfl, fur H2 hB3⟩
        · obtain ⟨m, rfl⟩ := Int.eq_ofNat_of_zero_le (show 0 ≤ d0 by omega)
          have hm : m ≤ 9223372036854775807 := by have := R0.out.2; omega
          go_wp2_with fail
          refine (HP.out _ (HC.out.below G5.out) HA.out).mono ?_
          rintro e w1 ⟨rfl, hB1⟩
          rw [V.out, T.out]
          have H1 := fur G5.out hB1
          obtain ⟨e0, e1, e2, e3⟩ := X5.out.below hB1
          clear b0 b1 b2 b3
          go_wp2_with fail
          refine (Draw_calls _ _ _ _ _ _ hs1 _ _ R0.out R1.out _ (HC.out.below H1)).mono ?_
          rintro e w2 ⟨rfl, hB2⟩
          rw [T.out]
          have H2 := fur H1 hB2
          have X2 := (Boxes.mk e0 e1 e2 e3).below hB2
          clear e0 e1 e2 e3 H1 hB1
          obtain ⟨e0, e1, e2, e3⟩ := X2
          go_wp2_with fail
          refine (Turn_calls _ _ _ _ _ _ hl3 _ _ (HC.out.below H2)).mono ?_
          rintro e w3 ⟨rfl, hB3⟩
          rw [T.out]
          have H3 := fur H2 hB3
          clear e0 e1 e2 e3
          go_wp2_with fail
          refine (drawn_calls _).mono ?_
          rintro e w4 ⟨rfl, hB4⟩
          go_wp2_with fail
          go_ret
          exact ⟨rfl, fur H3 hB4⟩

end Go.Proofs.Ytfegglolblglpaa

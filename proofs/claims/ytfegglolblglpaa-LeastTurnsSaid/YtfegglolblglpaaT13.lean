/-
  The chapter's example of layer 13, which each of its statements asks first: 'drawn' answers true.
-/
import Derived.Test.YtfegglolblglpaaW13
namespace Go.Proofs.Ytfegglolblglpaa
open Go.RowKit
set_option linter.unusedVariables false

set_option maxHeartbeats 400000 in
theorem plain13_calls (w : World) : Calls Try.prog 44 #[] w (Gives w (Clu [true, false, true])) := by
  go_enter Try.func44, Try.ntmps44
  go_wp2
  refine bodyPost_ret (v := .agg #[.string { data := #[97] }, .int .i64 0, .int .i64 0, .slice (some ⟨w.heap.size + 1, 0, none⟩) 3 3]) (by simp [results, Try.results44, go_sem]) rfl
    ⟨_, rfl, ⟨_, _, _, _, _, rfl, ?_⟩, ((Below.refl _ w).alloc (Nat.le_refl _) _).alloc (by simp) _⟩
  have := Cells.of_new (w := w.alloc (Obj.cells #[.string { data := #[97] }, .int .i64 0, .int .i64 0, .slice (some ⟨w.heap.size + 1, 0, none⟩) 3 3] 24)) (cs := #[.bool true, .bool false, .bool true]) (t := 4) (vs := bv [true, false, true]) rfl
  rwa [World.size_alloc] at this

theorem draw3 (c0 c1 c2 : Value) (a : Option Addr) (cap : Nat) (w : World) (hC : Cells w a (bv [true, false, true])) :
    Calls Try.prog 34 #[.agg #[c0, c1, c2, .slice a 3 cap], .int .i64 (-1), .int .i64 4] w fun e w' => e = .returned (.tuple #[.int .i64 2, .int .i64 0, .int .i64 0]) ∧ Below w.heap.size w w' := by
  have h := Draw_calls c0 c1 c2 a [true, false, true] cap (by decide) (-1) 4 (by omega) (by omega) w hC
  rw [show drawA [true, false, true] (-1) = 2 by decide +kernel, show drawA [true, false, true] 4 = 0 by decide +kernel, show turnE [true, false, true] = 0 by decide +kernel] at h
  exact h
theorem pick3a (c0 c1 c2 : Value) (a : Option Addr) (cap : Nat) (aa : Option Addr) (ca : Nat) (w : World) (hC : Cells w a (bv [true, false, true])) (hA : Cells w aa (iv [3, 0, 2])) :
    Calls Try.prog 36 #[.agg #[c0, c1, c2, .slice a 3 cap], .int .i64 0, .int .i64 1, .slice aa 3 ca] w fun e w' => e = .returned (.tuple #[.int .i64 2, .int .i64 0]) ∧ Below w.heap.size w w' := by
  have h := Pick_calls c0 c1 c2 a [true, false, true] cap (by decide) 0 1 (by omega) (by omega) aa [3, 0, 2] ca w hC hA
  rw [show pickV [true, false, true] 0 1 [3, 0, 2] = 2 by decide +kernel, show pickE [true, false, true] [3, 0, 2] = 0 by decide +kernel] at h
  exact h
theorem pick3b (c0 c1 c2 : Value) (a : Option Addr) (cap : Nat) (aa : Option Addr) (ca : Nat) (w : World) (hC : Cells w a (bv [true, false, true])) (hA : Cells w aa (iv [2, 0, 2])) :
    Calls Try.prog 36 #[.agg #[c0, c1, c2, .slice a 3 cap], .int .i64 1, .int .i64 0, .slice aa 3 ca] w fun e w' => e = .returned (.tuple #[.int .i64 2, .int .i64 0]) ∧ Below w.heap.size w w' := by
  have h := Pick_calls c0 c1 c2 a [true, false, true] cap (by decide) 1 0 (by omega) (by omega) aa [2, 0, 2] ca w hC hA
  rw [show pickV [true, false, true] 1 0 [2, 0, 2] = 2 by decide +kernel, show pickE [true, false, true] [2, 0, 2] = 0 by decide +kernel] at h
  exact h
theorem pick3c (c0 c1 c2 : Value) (a : Option Addr) (cap : Nat) (aa : Option Addr) (ca : Nat) (w : World) (hC : Cells w a (bv [true, false, true])) (hA : Cells w aa (iv [2])) :
    Calls Try.prog 36 #[.agg #[c0, c1, c2, .slice a 3 cap], .int .i64 1, .int .i64 0, .slice aa 1 ca] w fun e w' => e = .returned (.tuple #[.int .i64 0, .int .i64 1]) ∧ Below w.heap.size w w' := by
  have h := Pick_calls c0 c1 c2 a [true, false, true] cap (by decide) 1 0 (by omega) (by omega) aa [2] ca w hC hA
  rw [show pickV [true, false, true] 1 0 [2] = 0 by decide +kernel, show pickE [true, false, true] [2] = 1 by decide +kernel] at h
  exact h
theorem pick0 (c0 c1 c2 : Value) (a : Option Addr) (cap : Nat) (aa : Option Addr) (ca : Nat) (w : World) :
    Calls Try.prog 36 #[.agg #[c0, c1, c2, .slice a 0 cap], .int .i64 1, .int .i64 0, .slice aa 0 ca] w fun e w' => e = .returned (.tuple #[.int .i64 0, .int .i64 5]) ∧ Below w.heap.size w w' := by
  have h := Pick_calls c0 c1 c2 a [] cap (by decide) 1 0 (by omega) (by omega) aa [] ca w (Cells.nil _ _) (Cells.nil _ _)
  rw [show pickV [] 1 0 [] = 0 by decide +kernel, show pickE [] [] = 5 by decide +kernel] at h
  exact h
theorem less1 (w : World) : Calls Try.prog 39 #[.int .i64 1, .int .i64 2, .int .i64 3, .int .i64 2] w fun e w' => e = .returned (.int .i64 1) ∧ w' = w := Less_calls 1 2 3 2 w
theorem less2 (w : World) : Calls Try.prog 39 #[.int .i64 1, .int .i64 3, .int .i64 3, .int .i64 2] w fun e w' => e = .returned (.int .i64 3) ∧ w' = w := Less_calls 1 3 3 2 w

set_option maxHeartbeats 1000000 in
theorem drawn_calls (w : World) : Calls Try.prog 38 #[] w fun e w' => e = .returned (.bool true) ∧ Below w.heap.size w w' := by
  go_enter Try.func38, Try.ntmps38
  go_wp2_with fail
  refine (plain13_calls _).mono ?_
  rintro e w1 ⟨v, rfl, ⟨s, c1, c2, a, cap, rfl, hC1⟩, hB1⟩
  have H1 := fur hB1 ((Below.refl _ w1).alloc (Nat.le_refl _) (Obj.cells #[Value.string s, Value.int IntKind.i64 c1, Value.int IntKind.i64 c2, Value.slice a 3 cap] 24))
  have X1 := Boxes.new w1 (.string s) (.int .i64 c1) (.int .i64 c2) (.slice a 3 cap) 24
  have C1 := hC1.alloc (Obj.cells #[Value.string s, Value.int IntKind.i64 c1, Value.int IntKind.i64 c2, Value.slice a 3 cap] 24)
  clear hB1 hC1
  go_wp2_with fail
  refine (draw3 _ _ _ _ _ _ C1).mono ?_
  rintro e w2 ⟨rfl, hB2⟩
  have H2 := fur H1 hB2
  have X2 := X1.below hB2
  have C2 := C1.below hB2
  clear H1 hB2 X1 C1
  obtain ⟨b0, b1, b2, b3⟩ := X2
  go_wp2_with fail
  refine (pick3a _ _ _ _ _ _ _ _ (C2.alloc _) (Cells.of_new (cs := #[.int .i64 3, .int .i64 0, .int .i64 2]) (t := 3) rfl)).mono ?_
  rintro e w3 ⟨rfl, hB3'⟩
  have hB3 := fur ((Below.refl _ w2).alloc (Nat.le_refl _) (.cells #[.int .i64 3, .int .i64 0, .int .i64 2] 3)) hB3'
  have H3 := fur H2 hB3
  have X3 := (Boxes.mk b0 b1 b2 b3).below hB3
  have C3 := C2.below hB3
  clear H2 hB3 hB3' b0 b1 b2 b3 C2
  obtain ⟨b0, b1, b2, b3⟩ := X3
  go_wp2_with fail
  refine (pick3b _ _ _ _ _ _ _ _ (C3.alloc _) (Cells.of_new (cs := #[.int .i64 2, .int .i64 0, .int .i64 2]) (t := 3) rfl)).mono ?_
  rintro e w4 ⟨rfl, hB4'⟩
  have hB4 := fur ((Below.refl _ w3).alloc (Nat.le_refl _) (.cells #[.int .i64 2, .int .i64 0, .int .i64 2] 3)) hB4'
  have H4 := fur H3 hB4
  have X4 := (Boxes.mk b0 b1 b2 b3).below hB4
  have C4 := C3.below hB4
  clear H3 hB4 hB4' b0 b1 b2 b3 C3
  obtain ⟨b0, b1, b2, b3⟩ := X4
  go_wp2_with fail
  refine (pick3c _ _ _ _ _ _ _ _ (C4.alloc _) (Cells.of_new (cs := #[.int .i64 2]) (t := 3) rfl)).mono ?_
  rintro e w5 ⟨rfl, hB5'⟩
  have hB5 := fur ((Below.refl _ w4).alloc (Nat.le_refl _) (.cells #[.int .i64 2] 3)) hB5'
  have H5 := fur H4 hB5
  clear H4 hB5 hB5' b0 b1 b2 b3 C4
  go_wp2_with fail
  refine (pick0 _ _ _ _ _ _ _ _).mono ?_
  rintro e w6 ⟨rfl, hB6⟩
  have H6 := fur H5 hB6
  clear H5 hB6
  go_wp2_with fail
  refine (less1 _).mono ?_
  rintro e w7 ⟨rfl, rfl⟩
  go_wp2_with fail
  refine (less2 _).mono ?_
  rintro e w7 ⟨rfl, rfl⟩
  go_wp2_with fail
  go_ret
  exact ⟨rfl, H6⟩

end Go.Proofs.Ytfegglolblglpaa

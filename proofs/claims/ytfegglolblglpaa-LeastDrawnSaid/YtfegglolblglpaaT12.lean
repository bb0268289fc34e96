/-
  The chapter's example of layer 12, which each of its statements asks first: 'turned' answers true.
-/
import Derived.Test.YtfegglolblglpaaW12
namespace Go.Proofs.Ytfegglolblglpaa
open Go.RowKit
set_option linter.unusedVariables false

/-- v is a cluster whose endpoints' health reads as hs. -/
def Clu (hs : List Bool) (v : Value) (w : World) : Prop := ∃ s c1 c2 a cap, v = .agg #[.string s, .int .i64 c1, .int .i64 c2, .slice a hs.length cap] ∧ Cells w a (bv hs)

theorem Cells.of_new {w : World} {cs : Array Value} {t : TypeId} {vs : List Value} (h : vs = cs.toList) : Cells (w.alloc (.cells cs t)) (some ⟨w.heap.size, 0, none⟩) vs := by
  intro i x hx
  subst h
  exact ⟨w.heap.size, 0, rfl, by rw [World.cell?_alloc_new]; simpa using hx⟩

/-- What a boxed cluster's cells hold, in a world that has grown since. -/
structure Boxes (B : Nat) (c0 c1 c2 c3 : Value) (w : World) : Prop where
  b0 : w.cell? ⟨B, 0, none⟩ = some c0
  b1 : w.cell? ⟨B, 1, none⟩ = some c1
  b2 : w.cell? ⟨B, 2, none⟩ = some c2
  b3 : w.cell? ⟨B, 3, none⟩ = some c3

theorem Boxes.below {B : Nat} {c0 c1 c2 c3 : Value} {w w' : World} (h : Boxes B c0 c1 c2 c3 w) (hb : Below w.heap.size w w') : Boxes B c0 c1 c2 c3 w' := by
  have hB : B < w.heap.size := World.block_lt_of_cell? w _ h.b0
  exact ⟨by rw [hb.cell (by simpa using hB)]; exact h.b0, by rw [hb.cell (by simpa using hB)]; exact h.b1, by rw [hb.cell (by simpa using hB)]; exact h.b2, by rw [hb.cell (by simpa using hB)]; exact h.b3⟩

theorem Boxes.new (w : World) (c0 c1 c2 c3 : Value) (t : TypeId) : Boxes w.heap.size c0 c1 c2 c3 (w.alloc (.cells #[c0, c1, c2, c3] t)) := by
  refine ⟨?_, ?_, ?_, ?_⟩ <;> (rw [World.cell?_alloc_new]; rfl)

/-- What a region that calls holds in every world of its own: the box, and that all that was there before it is as it was. -/
theorem held_start {B : Nat} {c0 c1 c2 c3 : Value} {w : World} (h : Boxes B c0 c1 c2 c3 w) :
    w.drew.cell? ⟨B, 0, none⟩ = some c0 ∧ w.drew.cell? ⟨B, 1, none⟩ = some c1 ∧ w.drew.cell? ⟨B, 2, none⟩ = some c2 ∧ w.drew.cell? ⟨B, 3, none⟩ = some c3 ∧ Hid (Below w.heap.size w w.drew) :=
  have k := h.below ((Below.refl _ w).drew)
  ⟨k.b0, k.b1, k.b2, k.b3, (Below.refl _ w).drew⟩
theorem held_step {B : Nat} {c0 c1 c2 c3 : Value} {W w w' : World} (h : w.cell? ⟨B, 0, none⟩ = some c0 ∧ w.cell? ⟨B, 1, none⟩ = some c1 ∧ w.cell? ⟨B, 2, none⟩ = some c2 ∧ w.cell? ⟨B, 3, none⟩ = some c3 ∧ Hid (Below W.heap.size W w)) (hb : Below w.heap.size w w') :
    w'.cell? ⟨B, 0, none⟩ = some c0 ∧ w'.cell? ⟨B, 1, none⟩ = some c1 ∧ w'.cell? ⟨B, 2, none⟩ = some c2 ∧ w'.cell? ⟨B, 3, none⟩ = some c3 ∧ Hid (Below W.heap.size W w') :=
  have k := (Boxes.mk h.1 h.2.1 h.2.2.1 h.2.2.2.1).below hb
  ⟨k.b0, k.b1, k.b2, k.b3, h.2.2.2.2.out.trans (hb.mono h.2.2.2.2.out.size)⟩

/-- All old memory is as it was, and still is when the world grows further. -/
theorem fur {w a b : World} (h : Below w.heap.size w a) (k : Below a.heap.size a b) : Below w.heap.size w b := h.trans (k.mono h.size)

set_option maxHeartbeats 400000 in
theorem plain_calls (w : World) : Calls Try.prog 41 #[] w (Gives w (Clu [true, false, true])) := by
  go_enter Try.func41, Try.ntmps41
  go_wp2
  refine bodyPost_ret (v := .agg #[.string { data := #[97] }, .int .i64 0, .int .i64 0, .slice (some ⟨w.heap.size + 1, 0, none⟩) 3 3]) (by simp [results, Try.results41, go_sem]) rfl
    ⟨_, rfl, ⟨_, _, _, _, _, rfl, ?_⟩, ((Below.refl _ w).alloc (Nat.le_refl _) _).alloc (by simp) _⟩
  have := Cells.of_new (w := w.alloc (Obj.cells #[.string { data := #[97] }, .int .i64 0, .int .i64 0, .slice (some ⟨w.heap.size + 1, 0, none⟩) 3 3] 24)) (cs := #[.bool true, .bool false, .bool true]) (t := 4) (vs := bv [true, false, true]) rfl
  rwa [World.size_alloc] at this

theorem turn3 (c0 c1 c2 : Value) (a : Option Addr) (cap : Nat) (w : World) (hC : Cells w a (bv [true, false, true])) :
    Calls Try.prog 15 #[.agg #[c0, c1, c2, .slice a 3 cap], .int .u64 5] w fun e w' => e = .returned (.tuple #[.int .i64 2, .int .i64 0]) ∧ Below w.heap.size w w' :=
  Turn_calls c0 c1 c2 a [true, false, true] cap (by decide) 5 w hC
theorem turn1 (c0 c1 c2 : Value) (a : Option Addr) (cap : Nat) (w : World) (hC : Cells w a (bv [false])) :
    Calls Try.prog 15 #[.agg #[c0, c1, c2, .slice a 1 cap], .int .u64 5] w fun e w' => e = .returned (.tuple #[.int .i64 0, .int .i64 5]) ∧ Below w.heap.size w w' :=
  Turn_calls c0 c1 c2 a [false] cap (by decide) 5 w hC
theorem spread3 (c0 c1 c2 : Value) (a : Option Addr) (cap : Nat) (w : World) (hC : Cells w a (bv [true, false, true])) :
    Calls Try.prog 17 #[.agg #[c0, c1, c2, .slice a 3 cap], .int .u64 3, .int .i64 5] w (GivesE w (Ints [2, 0, 3]) 0) := by
  have h := Spread_calls c0 c1 c2 a [true, false, true] cap (by decide) 3 (by decide) 5 w hC
  rw [show spL [true, false, true] 3 5 = [2, 0, 3] by decide +kernel, show spE [true, false, true] 5 = 0 by decide +kernel] at h
  exact h
theorem spread3b (c0 c1 c2 : Value) (a : Option Addr) (cap : Nat) (w : World) (hC : Cells w a (bv [true, false, true])) :
    Calls Try.prog 17 #[.agg #[c0, c1, c2, .slice a 3 cap], .int .u64 3, .int .i64 1001] w (GivesE w (Ints []) 1) := by
  have h := Spread_calls c0 c1 c2 a [true, false, true] cap (by decide) 3 (by decide) 1001 w hC
  rw [show spL [true, false, true] 3 1001 = [] by decide +kernel, show spE [true, false, true] 1001 = 1 by decide +kernel] at h
  exact h
theorem spread0 (c0 c1 c2 : Value) (a : Option Addr) (cap : Nat) (w : World) :
    Calls Try.prog 17 #[.agg #[c0, c1, c2, .slice a 0 cap], .int .u64 3, .int .i64 1] w (GivesE w (Ints []) 5) := by
  have h := Spread_calls c0 c1 c2 a [] cap (by decide) 3 (by decide) 1 w (Cells.nil _ _)
  rw [show spL [] 3 1 = [] by decide +kernel, show spE [] 1 = 5 by decide +kernel] at h
  exact h
theorem healthy3 (c0 c1 c2 : Value) (a : Option Addr) (cap : Nat) (w : World) (hC : Cells w a (bv [true, false, true])) :
    Calls Try.prog 21 #[.agg #[c0, c1, c2, .slice a 3 cap]] w (Gives w (Ints [0, 2])) := by
  have h := Healthy_calls c0 c1 c2 a [true, false, true] cap (by decide) w hC
  rw [show hl [true, false, true] = [0, 2] by decide +kernel] at h
  exact h

set_option maxHeartbeats 1000000 in
theorem turned_calls (w : World) : Calls Try.prog 19 #[] w fun e w' => e = .returned (.bool true) ∧ Below w.heap.size w w' := by
  go_enter Try.func19, Try.ntmps19
  go_wp2_with fail
  refine (plain_calls _).mono ?_
  rintro e w1 ⟨v, rfl, ⟨s, c1, c2, a, cap, rfl, hC1⟩, hB1⟩
  go_wp2_with fail
  refine (turn3 _ _ _ _ _ _ (hC1.alloc _)).mono ?_
  rintro e w2 ⟨rfl, hB2⟩
  have K2 : Below (w1.heap.size + 1) (w1.alloc (Obj.cells #[Value.string s, Value.int IntKind.i64 c1, Value.int IntKind.i64 c2, Value.slice a 3 cap] 24)) w2 := by simpa using hB2
  have C2 := (hC1.alloc (Obj.cells #[Value.string s, Value.int IntKind.i64 c1, Value.int IntKind.i64 c2, Value.slice a 3 cap] 24)).below hB2
  obtain ⟨b0, b1, b2, b3⟩ := box4 K2
  go_wp2_with fail
  have s2 : w1.heap.size + 1 ≤ w2.heap.size := by simpa using K2.size
  refine (turn1 _ _ _ _ _ _ (Cells.of_new (cs := #[.bool false]) (t := 4) rfl)).mono ?_
  rintro e w3 ⟨rfl, hB3⟩
  have H3 := ((Below.refl w2.heap.size w2).alloc (Nat.le_refl _) _).trans (hB3.mono (by simp))
  have K3 := K2.trans (H3.mono s2)
  have C3 := C2.below H3
  have s3 : w1.heap.size + 1 ≤ w3.heap.size := by simpa using K3.size
  clear b0 b1 b2 b3 hB3 H3 K2 s2 C2
  obtain ⟨b0, b1, b2, b3⟩ := box4 K3
  go_wp2_with fail
  refine (spread3 _ _ _ _ _ _ C3).mono ?_
  rintro e w4 ⟨v4, rfl, ⟨a4, cap4, rfl, _, _, D4⟩, H4⟩
  have K4 := K3.trans (H4.mono s3)
  have C4 := C3.below H4
  have s4 : w1.heap.size + 1 ≤ w4.heap.size := by simpa using K4.size
  clear b0 b1 b2 b3 H4 K3 s3 C3
  obtain ⟨b0, b1, b2, b3⟩ := box4 K4
  go_wp2_with fail
  refine (spread3b _ _ _ _ _ _ C4).mono ?_
  rintro e w5 ⟨v5, rfl, ⟨a5, cap5, rfl, _, _, _⟩, H5⟩
  have K5 := K4.trans (H5.mono s4)
  have C5 := C4.below H5
  have D5 := D4.below H5
  have s5 : w1.heap.size + 1 ≤ w5.heap.size := by simpa using K5.size
  clear b0 b1 b2 b3 H5 K4 s4 C4 D4
  obtain ⟨b0, b1, b2, b3⟩ := box4 K5
  go_wp2_with fail
  refine (spread0 _ _ _ _ _ _).mono ?_
  rintro e w6 ⟨v6, rfl, ⟨a6, cap6, rfl, _, _, _⟩, H6⟩
  have K6 := K5.trans (H6.mono s5)
  have C6 := C5.below H6
  have D6 := D5.below H6
  have s6 : w1.heap.size + 1 ≤ w6.heap.size := by simpa using K6.size
  clear b0 b1 b2 b3 H6 K5 s5 C5 D5
  obtain ⟨b0, b1, b2, b3⟩ := box4 K6
  go_wp2_with fail
  refine (Same_calls _ _ [2, 0, 3] [2, 0, 3] _ _ (by decide) _ (D6.alloc _) (Cells.of_new (cs := #[.int .i64 2, .int .i64 0, .int .i64 3]) (t := 3) rfl)).mono ?_
  rintro e w7 ⟨rfl, hB7⟩
  have H7 := ((Below.refl w6.heap.size w6).alloc (Nat.le_refl _) _).trans (hB7.mono (by simp))
  have K7 := K6.trans (H7.mono s6)
  have C7 := C6.below H7
  have s7 : w1.heap.size + 1 ≤ w7.heap.size := by simpa using K7.size
  clear b0 b1 b2 b3 hB7 H7 K6 s6 C6 D6
  obtain ⟨b0, b1, b2, b3⟩ := box4 K7
  rw [show eqI [2, 0, 3] [2, 0, 3] = true by decide]
  go_wp2_with fail
  refine (healthy3 _ _ _ _ _ _ C7).mono ?_
  rintro e w8 ⟨v8, rfl, ⟨a8, cap8, rfl, _, _, D8⟩, H8⟩
  have K8 := K7.trans (H8.mono s7)
  clear b0 b1 b2 b3 H8 K7 s7 C7
  go_wp2_with fail
  refine (Same_calls _ _ [0, 2] [0, 2] _ _ (by decide) _ (D8.alloc _) (Cells.of_new (cs := #[.int .i64 0, .int .i64 2]) (t := 3) rfl)).mono ?_
  rintro e w9 ⟨rfl, hB9⟩
  have H9 := ((Below.refl w8.heap.size w8).alloc (Nat.le_refl _) _).trans (hB9.mono (by simp))
  have s8 : w1.heap.size + 1 ≤ w8.heap.size := by simpa using K8.size
  have K9 := K8.trans (H9.mono s8)
  rw [show eqI [0, 2] [0, 2] = true by decide]
  go_wp2_with fail
  go_ret
  exact ⟨rfl, (hB1.trans (((Below.refl _ w1).alloc (Nat.le_refl _) _).mono hB1.size)).trans (K9.mono (by have := hB1.size; omega))⟩

end Go.Proofs.Ytfegglolblglpaa

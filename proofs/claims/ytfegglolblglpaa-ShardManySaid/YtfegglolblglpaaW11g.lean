/-
  The walk of counted: the chapter's example.
-/
import Derived.Test.YtfegglolblglpaaW11b
import Derived.Test.YtfegglolblglpaaW11d
import Derived.Test.YtfegglolblglpaaW11f
import Derived.Test.YtfegglolblglpaaEq6
namespace Go.Proofs.Ytfegglolblglpaa
open Go.RowKit
set_option linter.unusedVariables false

def row1 : List Int := [0, 1, 0, 0, 0, 0]
theorem cnt_new (w : World) : Calls Try.prog 28 #[.int .i64 2] w (GivesE w (Rws [zeros, zeros]) 0) := by
  have h := New_calls 2 w
  rwa [show newL 2 = [zeros, zeros] by decide, show newE 2 = 0 by decide] at h
theorem cnt_new9 (w : World) : Calls Try.prog 28 #[.int .i64 9] w (GivesE w (Rws []) 1) := by
  have h := New_calls 9 w
  rwa [show newL 9 = [] by decide, show newE 9 = 1 by decide] at h
theorem cnt_add1 (a : Option Addr) (cap : Nat) (w : World) (hG : Grid w a [zeros, zeros]) : Calls Try.prog 24 #[.slice a 2 cap, .int .i64 1, .int .i64 1] w (GivesE w (Rws [zeros, row1]) 0) := by
  have h := Add_calls a [zeros, zeros] cap 1 1 (by decide) w hG
  rwa [show addL [zeros, zeros] 1 1 = [zeros, row1] by decide, show addE [zeros, zeros] 1 1 = 0 by decide] at h
theorem cnt_add2 (a : Option Addr) (cap : Nat) (w : World) (hG : Grid w a [zeros, row1]) : Calls Try.prog 24 #[.slice a 2 cap, .int .i64 0, .int .i64 1] w (GivesE w (Rws [row1, row1]) 0) := by
  have h := Add_calls a [zeros, row1] cap 0 1 (by decide) w hG
  rwa [show addL [zeros, row1] 0 1 = [row1, row1] by decide, show addE [zeros, row1] 0 1 = 0 by decide] at h
theorem cnt_add3 (a : Option Addr) (cap : Nat) (w : World) (hG : Grid w a [zeros, zeros]) : Calls Try.prog 24 #[.slice a 2 cap, .int .i64 2, .int .i64 0] w (GivesE w (Rws []) 1) := by
  have h := Add_calls a [zeros, zeros] cap 2 0 (by decide) w hG
  rwa [show addL [zeros, zeros] 2 0 = [] by decide, show addE [zeros, zeros] 2 0 = 1 by decide] at h
theorem cnt_sum (a : Option Addr) (cap : Nat) (w : World) (hG : Grid w a [row1, row1]) : Calls Try.prog 26 #[.slice a 2 cap] w
    (fun e w' => e = .returned (.tuple #[.agg #[.int .u64 0, .int .u64 2, .int .u64 0, .int .u64 0, .int .u64 0, .int .u64 0], .int .i64 0]) ∧ Below w.heap.size w w') := by
  have h := Sum_calls a [row1, row1] cap (by decide) w hG
  refine h.mono ?_
  rintro e w' ⟨rfl, hb⟩
  exact ⟨by rw [show sumK [row1, row1] 0 = 0 by decide, show sumK [row1, row1] 1 = 2 by decide, show sumK [row1, row1] 2 = 0 by decide, show sumK [row1, row1] 3 = 0 by decide, show sumK [row1, row1] 4 = 0 by decide, show sumK [row1, row1] 5 = 0 by decide, show sumE [row1, row1] = 0 by decide], hb⟩
theorem cnt_sum1 (a : Option Addr) (cap : Nat) (w : World) (hG : Grid w a [[1]]) : Calls Try.prog 26 #[.slice a 1 cap] w
    (fun e w' => e = .returned (.tuple #[.agg #[.int .u64 0, .int .u64 0, .int .u64 0, .int .u64 0, .int .u64 0, .int .u64 0], .int .i64 1]) ∧ Below w.heap.size w w') := by
  have h := Sum_calls a [[1]] cap (by decide) w hG
  refine h.mono ?_
  rintro e w' ⟨rfl, hb⟩
  exact ⟨by rw [show sumK [[1]] 0 = 0 by decide, show sumK [[1]] 1 = 0 by decide, show sumK [[1]] 2 = 0 by decide, show sumK [[1]] 3 = 0 by decide, show sumK [[1]] 4 = 0 by decide, show sumK [[1]] 5 = 0 by decide, show sumE [[1]] = 1 by decide], hb⟩

theorem grid_of_blk {g : Nat} {vs : List Value} {xss : List (List Int)} {w : World} (h : Blk g 60 vs w) (hr : RowVals vs xss w) : Grid w (some ⟨g, 0, none⟩) xss := fun i xs hx => by
  obtain ⟨v, hv⟩ := get_of_lt (xs := vs) (k := i) (by rw [hr.1]; exact (List.getElem?_eq_some_iff.1 hx).1)
  exact ⟨g, 0, v, rfl, by rw [Nat.zero_add]; exact (h.at hv).1, hr.2 i v xs hv hx⟩
theorem cnt_of_blk {g : Nat} {xs : List Int} {w : World} (h : Blk g 25 (uv xs) w) (hm : xs.length ≤ maxLen) : Cnt xs (.slice (some ⟨g, 0, none⟩) xs.length xs.length) w :=
  ⟨_, _, rfl, Nat.le_refl _, hm, h.cells⟩
theorem grid_lit1 (w : World) : Grid ((w.alloc (Obj.cells #[.int .u64 1] 25)).alloc (Obj.cells #[.slice (some ⟨w.heap.size, 0, none⟩) 1 1] 60)) (some ⟨w.heap.size + 1, 0, none⟩) [[1]] := by
  have h1 : Blk w.heap.size 25 (uv [1]) (w.alloc (Obj.cells #[.int .u64 1] 25)) := heap_alloc_new _ _
  have h2 := h1.below ((Below.refl _ _).alloc (Nat.le_refl _) (Obj.cells #[.slice (some ⟨w.heap.size, 0, none⟩) 1 1] 60)) h1.lt
  have h3 : Blk (w.heap.size + 1) 60 [.slice (some ⟨w.heap.size, 0, none⟩) 1 1] ((w.alloc (Obj.cells #[.int .u64 1] 25)).alloc (Obj.cells #[.slice (some ⟨w.heap.size, 0, none⟩) 1 1] 60)) := by
    have h := heap_alloc_new (w.alloc (Obj.cells #[.int .u64 1] 25)) (Obj.cells #[.slice (some ⟨w.heap.size, 0, none⟩) 1 1] 60)
    rw [World.size_alloc] at h
    exact h
  exact grid_of_blk h3 ((RowVals.nil _).snoc (cnt_of_blk h2 (by decide)))

theorem grid_lit2 (w : World) : Grid (((w.alloc (Obj.cells #[.int .u64 0, .int .u64 0, .int .u64 0, .int .u64 0, .int .u64 0, .int .u64 0] 25)).alloc (Obj.cells #[.int .u64 0, .int .u64 1, .int .u64 0, .int .u64 0, .int .u64 0, .int .u64 0] 25)).alloc (Obj.cells #[.slice (some ⟨w.heap.size, 0, none⟩) 6 6, .slice (some ⟨w.heap.size + 1, 0, none⟩) 6 6] 60)) (some ⟨w.heap.size + 1 + 1, 0, none⟩) [zeros, row1] := by
  have h1 : Blk w.heap.size 25 (uv zeros) (w.alloc (Obj.cells #[.int .u64 0, .int .u64 0, .int .u64 0, .int .u64 0, .int .u64 0, .int .u64 0] 25)) := heap_alloc_new _ _
  have h2 := h1.below ((Below.refl _ _).alloc (Nat.le_refl _) (Obj.cells #[.int .u64 0, .int .u64 1, .int .u64 0, .int .u64 0, .int .u64 0, .int .u64 0] 25)) h1.lt
  have h3 : Blk (w.heap.size + 1) 25 (uv row1) ((w.alloc (Obj.cells #[.int .u64 0, .int .u64 0, .int .u64 0, .int .u64 0, .int .u64 0, .int .u64 0] 25)).alloc (Obj.cells #[.int .u64 0, .int .u64 1, .int .u64 0, .int .u64 0, .int .u64 0, .int .u64 0] 25)) := by
    have h := heap_alloc_new (w.alloc (Obj.cells #[.int .u64 0, .int .u64 0, .int .u64 0, .int .u64 0, .int .u64 0, .int .u64 0] 25)) (Obj.cells #[.int .u64 0, .int .u64 1, .int .u64 0, .int .u64 0, .int .u64 0, .int .u64 0] 25)
    rw [World.size_alloc] at h
    exact h
  have h4 : Blk (w.heap.size + 1 + 1) 60 [.slice (some ⟨w.heap.size, 0, none⟩) 6 6, .slice (some ⟨w.heap.size + 1, 0, none⟩) 6 6] (((w.alloc (Obj.cells #[.int .u64 0, .int .u64 0, .int .u64 0, .int .u64 0, .int .u64 0, .int .u64 0] 25)).alloc (Obj.cells #[.int .u64 0, .int .u64 1, .int .u64 0, .int .u64 0, .int .u64 0, .int .u64 0] 25)).alloc (Obj.cells #[.slice (some ⟨w.heap.size, 0, none⟩) 6 6, .slice (some ⟨w.heap.size + 1, 0, none⟩) 6 6] 60)) := by
    have h := heap_alloc_new ((w.alloc (Obj.cells #[.int .u64 0, .int .u64 0, .int .u64 0, .int .u64 0, .int .u64 0, .int .u64 0] 25)).alloc (Obj.cells #[.int .u64 0, .int .u64 1, .int .u64 0, .int .u64 0, .int .u64 0, .int .u64 0] 25)) (Obj.cells #[.slice (some ⟨w.heap.size, 0, none⟩) 6 6, .slice (some ⟨w.heap.size + 1, 0, none⟩) 6 6] 60)
    rw [World.size_alloc, World.size_alloc] at h
    exact h
  have h5 : ∀ o, Below _ ((w.alloc (Obj.cells #[.int .u64 0, .int .u64 0, .int .u64 0, .int .u64 0, .int .u64 0, .int .u64 0] 25)).alloc (Obj.cells #[.int .u64 0, .int .u64 1, .int .u64 0, .int .u64 0, .int .u64 0, .int .u64 0] 25)) _ := fun o => (Below.refl _ _).alloc (Nat.le_refl _) o
  exact grid_of_blk h4 (((RowVals.nil _).snoc (cnt_of_blk (h2.below (h5 _) h2.lt) (by decide))).snoc (cnt_of_blk (h3.below (h5 _) h3.lt) (by decide)))

set_option maxRecDepth 100000 in
set_option maxHeartbeats 4000000 in
theorem counted_calls (w : World) : Calls Try.prog 30 #[] w (fun e w' => e = .returned (.bool true) ∧ Below w.heap.size w w') := by
  go_enter Try.func30, Try.ntmps30
  go_wp2_with fail
  refine (cnt_new w).mono ?_
  rintro e w1 ⟨v, rfl, ⟨a1, c1, rfl, _, _, g1⟩, b1⟩
  have G1 := Lib.hid g1
  have B1 := Lib.hid b1
  clear g1 b1
  go_wp2_with fail
  refine (cnt_add1 _ _ w1 G1.out).mono ?_
  rintro e w2 ⟨v, rfl, ⟨a2, c2, rfl, _, _, g2⟩, b2⟩
  have G2 := Lib.hid g2
  have B2 := Lib.hid (B1.out.trans (b2.mono B1.out.size))
  have C2 := Lib.hid (G1.out.below b2)
  clear g2 b2 B1 G1
  go_wp2_with fail
  refine (cnt_add2 _ _ w2 G2.out).mono ?_
  rintro e w3 ⟨v, rfl, ⟨a3, c3, rfl, _, _, g3⟩, b3⟩
  have G3 := Lib.hid g3
  have B3 := Lib.hid (B2.out.trans (b3.mono B2.out.size))
  have C3 := Lib.hid (C2.out.below b3)
  have D3 := Lib.hid (G2.out.below b3)
  clear g3 b3 B2 G2 C2
  go_wp2_with fail
  refine (cnt_sum _ _ w3 G3.out).mono ?_
  rintro e w4 ⟨rfl, b4⟩
  have B4 := Lib.hid (B3.out.trans (b4.mono B3.out.size))
  have C4 := Lib.hid (C3.out.below b4)
  have D4 := Lib.hid (D3.out.below b4)
  clear b4 B3 G3 C3 D3
  go_wp2_with fail
  have h5 : Below w4.heap.size w4 (w4.alloc (Obj.cells #[.int .u64 0, .int .u64 2, .int .u64 0, .int .u64 0, .int .u64 0, .int .u64 0] 41)) := (Below.refl _ _).alloc (Nat.le_refl _) _
  have s5 : Blk w4.heap.size 41 (uv [0, 2, 0, 0, 0, 0]) (w4.alloc (Obj.cells #[.int .u64 0, .int .u64 2, .int .u64 0, .int .u64 0, .int .u64 0, .int .u64 0] 41)) := heap_alloc_new _ _
  have B5 := Lib.hid (B4.out.trans (h5.mono B4.out.size))
  have C5 := Lib.hid (C4.out.below h5)
  have D5 := Lib.hid (D4.out.below h5)
  have S5 := Lib.hid s5
  clear h5 s5 B4 C4 D4
  generalize w4.alloc (Obj.cells #[.int .u64 0, .int .u64 2, .int .u64 0, .int .u64 0, .int .u64 0, .int .u64 0] 41) = w5 at *
  generalize w4.heap.size = g at *
  refine (cnt_add3 _ _ w5 C5.out).mono ?_
  rintro e w6 ⟨v, rfl, ⟨a6, c6, rfl, _, _, _⟩, b6⟩
  have B6 := Lib.hid (B5.out.trans (b6.mono B5.out.size))
  have C6 := Lib.hid (C5.out.below b6)
  have D6 := Lib.hid (D5.out.below b6)
  have S6 := Lib.hid (S5.out.below b6 S5.out.lt)
  clear b6 B5 C5 D5 S5
  go_wp2_with fail
  refine (cnt_new9 w6).mono ?_
  rintro e w7 ⟨v, rfl, ⟨a7, c7, rfl, _, _, _⟩, b7⟩
  have B7 := Lib.hid (B6.out.trans (b7.mono B6.out.size))
  have C7 := Lib.hid (C6.out.below b7)
  have D7 := Lib.hid (D6.out.below b7)
  have S7 := Lib.hid (S6.out.below b7 S6.out.lt)
  clear b7 B6 C6 D6 S6
  go_wp2_with fail
  have h8 : Below w7.heap.size w7 ((w7.alloc (Obj.cells #[.int .u64 1] 25)).alloc (Obj.cells #[.slice (some ⟨w7.heap.size, 0, none⟩) 1 1] 60)) := ((Below.refl _ _).alloc (Nat.le_refl _) _).alloc (by simp) _
  have L8 := Lib.hid (grid_lit1 w7)
  have B8 := Lib.hid (B7.out.trans (h8.mono B7.out.size))
  have C8 := Lib.hid (C7.out.below h8)
  have D8 := Lib.hid (D7.out.below h8)
  have S8 := Lib.hid (S7.out.below h8 S7.out.lt)
  clear h8 B7 C7 D7 S7
  generalize (w7.alloc (Obj.cells #[.int .u64 1] 25)).alloc (Obj.cells #[.slice (some ⟨w7.heap.size, 0, none⟩) 1 1] 60) = w8 at *
  generalize w7.heap.size + 1 = g8 at *
  refine (cnt_sum1 _ _ w8 L8.out).mono ?_
  rintro e w9 ⟨rfl, b9⟩
  have B9 := Lib.hid (B8.out.trans (b9.mono B8.out.size))
  have C9 := Lib.hid (C8.out.below b9)
  have D9 := Lib.hid (D8.out.below b9)
  have S9 := S8.out.below b9 S8.out.lt
  have h10 : Below w9.heap.size w9 (w9.alloc (Obj.cells #[.int .u64 0, .int .u64 0, .int .u64 0, .int .u64 0, .int .u64 0, .int .u64 0] 41)) := (Below.refl _ _).alloc (Nat.le_refl _) _
  have S10 := S9.below h10 S9.lt
  have z0 := (S10.at (k := 0) rfl).1
  have z1 := (S10.at (k := 1) rfl).1
  have z2 := (S10.at (k := 2) rfl).1
  have z3 := (S10.at (k := 3) rfl).1
  have z4 := (S10.at (k := 4) rfl).1
  have z5 := (S10.at (k := 5) rfl).1
  have B10 := Lib.hid (B9.out.trans (h10.mono B9.out.size))
  have C10 := Lib.hid (C9.out.below h10)
  have D10 := Lib.hid (D9.out.below h10)
  have heq := eq6 (w9.alloc (Obj.cells #[.int .u64 0, .int .u64 0, .int .u64 0, .int .u64 0, .int .u64 0, .int .u64 0] 41)) 0 2 0 0 0 0 0 2 0 0 0 0
  clear b9 B8 C8 D8 S8 L8 B9 C9 D9 S9 S10 h10
  go_wp2_with fail
  have hL := grid_lit2 (w9.alloc (Obj.cells #[.int .u64 0, .int .u64 0, .int .u64 0, .int .u64 0, .int .u64 0, .int .u64 0] 41))
  have hBL : Below (w9.alloc (Obj.cells #[.int .u64 0, .int .u64 0, .int .u64 0, .int .u64 0, .int .u64 0, .int .u64 0] 41)).heap.size (w9.alloc (Obj.cells #[.int .u64 0, .int .u64 0, .int .u64 0, .int .u64 0, .int .u64 0, .int .u64 0] 41)) _ := (((Below.refl _ _).alloc (Nat.le_refl _) (Obj.cells #[.int .u64 0, .int .u64 0, .int .u64 0, .int .u64 0, .int .u64 0, .int .u64 0] 25)).alloc (by simp) (Obj.cells #[.int .u64 0, .int .u64 1, .int .u64 0, .int .u64 0, .int .u64 0, .int .u64 0] 25)).alloc (by simp) (Obj.cells #[.slice (some ⟨w9.heap.size + 1, 0, none⟩) 6 6, .slice (some ⟨w9.heap.size + 1 + 1, 0, none⟩) 6 6] 60)
  rw [World.size_alloc] at hL
  have B11 := Lib.hid (B10.out.trans (hBL.mono B10.out.size))
  have C11 := Lib.hid (C10.out.below hBL)
  have D11 := D10.out.below hBL
  refine (SameG_calls a2 _ [zeros, row1] [zeros, row1] c2 2 (by decide) (by decide) _ D11 hL).mono ?_
  rintro e w12 ⟨rfl, b12⟩
  have B12 := Lib.hid (B11.out.trans (b12.mono B11.out.size))
  have C12 := C11.out.below b12
  rw [show eqG [zeros, row1] [zeros, row1] = true by decide]
  clear b12 B11 C11 D11 hL hBL B10 C10 D10 z0 z1 z2 z3 z4 z5 heq
  go_wp2_with fail
  refine (Is_calls a1 [zeros, zeros] c1 (by decide) w12 C12).mono ?_
  rintro e w13 ⟨rfl, hw⟩
  obtain rfl := hw.symm
  rw [show isB [zeros, zeros] = true by decide]
  clear hw
  go_wp2_with fail
  refine (Is_calls none [] 0 (by decide) w12 (Grid.nil _ _)).mono ?_
  rintro e w13 ⟨rfl, hw⟩
  obtain rfl := hw.symm
  rw [show isB [] = false by decide]
  clear hw
  go_wp2_with fail
  go_ret
  exact ⟨rfl, B12.out⟩

end Go.Proofs.Ytfegglolblglpaa

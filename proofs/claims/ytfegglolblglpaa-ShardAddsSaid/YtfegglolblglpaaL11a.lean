/-
  The walk of the statement ShardAdds.
-/
import Derived.Test.YtfegglolblglpaaT11
namespace Go.Proofs.Ytfegglolblglpaa
open Go.RowKit
set_option linter.unusedVariables false

theorem eqG_self (xss : List (List Int)) : eqG xss xss = true := by simp [eqG]

set_option maxRecDepth 100000 in
set_option maxHeartbeats 4000000 in
theorem shardAdds_walk (a : Option Addr) (xss : List (List Int)) (cap : Nat) (t k : Int) (hl : xss.length ≤ 9223372036854775807) (w : World) (hG : Grid w a xss) :
    Calls Try.prog 7 #[.slice a xss.length cap, .int .i64 t, .int .i64 k] w (fun e w' => e = .returned (.bool true) ∧ Below w.heap.size w w') := by
  by_cases hb : bigB xss = true
  · have HB := Lib.hid hb
    clear hb
    go_enter Try.func7, Try.ntmps7
    go_wp2_with fail
    refine (Big_calls a xss cap hl w hG).mono ?_
    rintro e w' ⟨rfl, hw⟩
    obtain rfl := hw.symm
    rw [HB.out]
    clear hw
    go_wp2_with fail
    go_ret
    exact ⟨rfl, Below.refl _ _⟩
  · have HB := Lib.hid (show bigB xss = false by simpa using hb)
    clear hb
    go_enter Try.func7, Try.ntmps7
    go_wp2_with fail
    refine (Big_calls a xss cap hl w hG).mono ?_
    rintro e w' ⟨rfl, hw⟩
    obtain rfl := hw.symm
    rw [HB.out]
    clear hw
    go_wp2_with fail
    refine (Add_calls a xss cap t k hl w hG).mono ?_
    rintro e w1 ⟨v, rfl, ⟨a1, c1, rfl, _, _, g1⟩, b1⟩
    have B1 := Lib.hid b1
    have X1 := Lib.hid (hG.below b1)
    have G1 := Lib.hid g1
    clear b1 g1
    go_wp2_with fail
    refine (refAdd_calls a xss cap t k hl w1 X1.out).mono ?_
    rintro e w2 ⟨v, rfl, ⟨a2, c2, rfl, _, _, g2⟩, b2⟩
    have B2 := Lib.hid (B1.out.trans (b2.mono B1.out.size))
    have X2 := Lib.hid (X1.out.below b2)
    have G1' := Lib.hid (G1.out.below b2)
    have G2 := Lib.hid g2
    clear b2 g2 B1 X1 G1
    go_wp2_with fail
    refine (Sum_calls a xss cap hl w2 X2.out).mono ?_
    rintro e w3 ⟨rfl, b3⟩
    have b4 : Below w2.heap.size w2 (w3.alloc (Obj.cells #[.int .u64 (sumK xss 0), .int .u64 (sumK xss 1), .int .u64 (sumK xss 2), .int .u64 (sumK xss 3), .int .u64 (sumK xss 4), .int .u64 (sumK xss 5)] 41)) := b3.alloc b3.size _
    have S4 : Blk w3.heap.size 41 (uv (sums xss)) (w3.alloc (Obj.cells #[.int .u64 (sumK xss 0), .int .u64 (sumK xss 1), .int .u64 (sumK xss 2), .int .u64 (sumK xss 3), .int .u64 (sumK xss 4), .int .u64 (sumK xss 5)] 41)) := heap_alloc_new _ _
    have B4 := Lib.hid (B2.out.trans (b4.mono B2.out.size))
    have X4 := Lib.hid (X2.out.below b4)
    have G14 := Lib.hid (G1'.out.below b4)
    have G24 := Lib.hid (G2.out.below b4)
    have HS4 := Lib.hid S4
    clear b3 b4 B2 X2 G1' G2 S4
    go_wp2_with fail
    generalize w3.alloc (Obj.cells #[.int .u64 (sumK xss 0), .int .u64 (sumK xss 1), .int .u64 (sumK xss 2), .int .u64 (sumK xss 3), .int .u64 (sumK xss 4), .int .u64 (sumK xss 5)] 41) = w4 at *
    generalize w3.heap.size = g4 at *
    refine (refSum_calls a xss cap hl w4 X4.out).mono ?_
    rintro e w5 ⟨rfl, b5⟩
    have b6 : Below w4.heap.size w4 (w5.alloc (Obj.cells #[.int .u64 (sumK xss 0), .int .u64 (sumK xss 1), .int .u64 (sumK xss 2), .int .u64 (sumK xss 3), .int .u64 (sumK xss 4), .int .u64 (sumK xss 5)] 41)) := b5.alloc b5.size _
    have S6 : Blk w5.heap.size 41 (uv (sums xss)) (w5.alloc (Obj.cells #[.int .u64 (sumK xss 0), .int .u64 (sumK xss 1), .int .u64 (sumK xss 2), .int .u64 (sumK xss 3), .int .u64 (sumK xss 4), .int .u64 (sumK xss 5)] 41)) := heap_alloc_new _ _
    have B6 := Lib.hid (B4.out.trans (b6.mono B4.out.size))
    have X6 := Lib.hid (X4.out.below b6)
    have G16 := Lib.hid (G14.out.below b6)
    have G26 := Lib.hid (G24.out.below b6)
    have HS46 := Lib.hid (HS4.out.below b6 HS4.out.lt)
    have HS66 := Lib.hid S6
    clear b5 b6 B4 X4 G14 G24 S6 HS4
    go_wp2_with fail
    generalize w5.alloc (Obj.cells #[.int .u64 (sumK xss 0), .int .u64 (sumK xss 1), .int .u64 (sumK xss 2), .int .u64 (sumK xss 3), .int .u64 (sumK xss 4), .int .u64 (sumK xss 5)] 41) = w6 at *
    generalize w5.heap.size = g6 at *
    refine (New_calls t w6).mono ?_
    rintro e w7 ⟨v, rfl, ⟨a7, c7, rfl, _, _, g7⟩, b7⟩
    have B7 := Lib.hid (B6.out.trans (b7.mono B6.out.size))
    have X7 := Lib.hid (X6.out.below b7)
    have G17 := Lib.hid (G16.out.below b7)
    have G27 := Lib.hid (G26.out.below b7)
    have HS47 := Lib.hid (HS46.out.below b7 HS46.out.lt)
    have HS67 := Lib.hid (HS66.out.below b7 HS66.out.lt)
    have G7 := Lib.hid g7
    clear b7 B6 X6 G16 G26 HS46 HS66 g7
    go_wp2_with fail
    refine (refNew_calls t w7).mono ?_
    rintro e w8 ⟨v, rfl, ⟨a8, c8, rfl, _, _, g8⟩, b8⟩
    have B8 := Lib.hid (B7.out.trans (b8.mono B7.out.size))
    have X8 := Lib.hid (X7.out.below b8)
    have G18 := Lib.hid (G17.out.below b8)
    have G28 := Lib.hid (G27.out.below b8)
    have HS48 := Lib.hid (HS47.out.below b8 HS47.out.lt)
    have HS68 := Lib.hid (HS67.out.below b8 HS67.out.lt)
    have G78 := Lib.hid (G7.out.below b8)
    have G88 := Lib.hid g8
    clear b8 B7 X7 G17 G27 HS47 HS67 g8 G7
    go_wp2_with fail
    refine (counted_calls w8).mono ?_
    rintro e w9 ⟨rfl, b9⟩
    have B9 := Lib.hid (B8.out.trans (b9.mono B8.out.size))
    have X9 := Lib.hid (X8.out.below b9)
    have G19 := Lib.hid (G18.out.below b9)
    have G29 := Lib.hid (G28.out.below b9)
    have HS49 := Lib.hid (HS48.out.below b9 HS48.out.lt)
    have HS69 := Lib.hid (HS68.out.below b9 HS68.out.lt)
    have G79 := Lib.hid (G78.out.below b9)
    have G89 := Lib.hid (G88.out.below b9)
    clear b9 B8 X8 G18 G28 HS48 HS68 G78 G88
    go_wp2_with fail
    refine (SameG_calls a1 a2 (addL xss t k) (addL xss t k) c1 c2 (Nat.le_trans (addL_small xss t k).1 (by decide)) (fun r hr => Nat.le_trans ((addL_small xss t k).2 r hr) (by decide)) w9 G19.out G29.out).mono ?_
    rintro e w10 ⟨rfl, b10⟩
    rw [eqG_self]
    have B10 := Lib.hid (B9.out.trans (b10.mono B9.out.size))
    have X10 := Lib.hid (X9.out.below b10)
    have S4 := HS49.out.below b10 HS49.out.lt
    have S6 := HS69.out.below b10 HS69.out.lt
    have G710 := Lib.hid (G79.out.below b10)
    have G810 := Lib.hid (G89.out.below b10)
    have z0 := (S4.at (k := 0) rfl).1
    have z1 := (S4.at (k := 1) rfl).1
    have z2 := (S4.at (k := 2) rfl).1
    have z3 := (S4.at (k := 3) rfl).1
    have z4 := (S4.at (k := 4) rfl).1
    have z5 := (S4.at (k := 5) rfl).1
    have y0 := (S6.at (k := 0) rfl).1
    have y1 := (S6.at (k := 1) rfl).1
    have y2 := (S6.at (k := 2) rfl).1
    have y3 := (S6.at (k := 3) rfl).1
    have y4 := (S6.at (k := 4) rfl).1
    have y5 := (S6.at (k := 5) rfl).1
    have heq := eq6_agree w10 (sumK xss) (sumK xss)
    rw [agree_of (fun _ _ => rfl)] at heq
    clear b10 B9 X9 G19 G29 HS49 HS69 G79 G89 S4 S6
    go_wp2_with fail
    refine (SameG_calls a7 a8 (newL t) (newL t) c7 c8 (Nat.le_trans (newL_small t).1 (by decide)) (fun r hr => Nat.le_trans ((newL_small t).2 r hr) (by decide)) w10 G710.out G810.out).mono ?_
    rintro e w11 ⟨rfl, b11⟩
    rw [eqG_self]
    have B11 := Lib.hid (B10.out.trans (b11.mono B10.out.size))
    have X11 := Lib.hid (X10.out.below b11)
    clear b11 B10 X10 G710 G810 z0 z1 z2 z3 z4 z5 y0 y1 y2 y3 y4 y5 heq
    go_wp2_with fail
    refine (Is_calls a xss cap hl w11 X11.out).mono ?_
    rintro e w12 ⟨rfl, hw⟩
    obtain rfl := hw.symm
    clear hw
    go_wp2_with fail
    refine (refIs_calls a xss cap hl w11 X11.out).mono ?_
    rintro e w12 ⟨rfl, hw⟩
    obtain rfl := hw.symm
    clear hw
    go_wp2_with fail
    go_ret
    exact ⟨rfl, B11.out⟩

end Go.Proofs.Ytfegglolblglpaa

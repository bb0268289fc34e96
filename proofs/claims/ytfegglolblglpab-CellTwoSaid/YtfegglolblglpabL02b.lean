/-
  The walk of the statement CellTwo.
-/
import Derived.Test.YtfegglolblglpabHeld
namespace Go.Proofs.Ytfegglolblglpab
open Go.RowKit
set_option linter.unusedVariables false

theorem cell_in' {w w' : World} {p : Addr} {v : Value} (h : Below w.heap.size w w') (hc : w.cell? p = some v) : w'.cell? p = some v := by
  rw [h.cell (World.block_lt_of_cell? _ _ hc)]
  exact hc

set_option maxRecDepth 100000 in
set_option maxHeartbeats 4000000 in
theorem cellTwo_small (v : Int) (la ma : Option Addr) (ls ms : List Int) (lc mc : Nat) (hl : ls.length ≤ 500) (hm : ms.length ≤ 500) (w : World) (hL : Cells w la (iv ls)) (hM : Cells w ma (iv ms)) :
    Calls Try.prog 6 #[.int .i64 v, .slice la ls.length lc, .slice ma ms.length mc] w (fun e w' => e = .returned (.bool true) ∧ Below w.heap.size w w') := by
  have g1 : decide ((ls.length : Int) > 500) = false := by simp; omega
  have g2 : decide ((ms.length : Int) > 500) = false := by simp; omega
  go_enter Try.func6, Try.ntmps6
  go_wp2_with fail
  refine (New_calls v w).mono ?_
  rintro e w1 ⟨rfl, h1, b1⟩
  have c1 : Cell (w.heap.size + 1) v 0 w1 := ⟨_, h1⟩
  have hs1 : w.heap.size + 1 < w1.heap.size := (Array.getElem?_eq_some_iff.1 h1.1).1
  go_wp2_with fail
  refine (New_calls v w1).mono ?_
  rintro e w2 ⟨rfl, h2, b2⟩
  have c2 : Cell (w1.heap.size + 1) v 0 w2 := ⟨_, h2⟩
  have hwa : w.heap.size ≤ w.heap.size + 1 := by omega
  have hwb : w.heap.size ≤ w1.heap.size + 1 := by omega
  have hba : w1.heap.size + 1 ≠ w.heap.size + 1 := by omega
  have hab : w.heap.size + 1 ≠ w1.heap.size + 1 := by omega
  have BB := Lib.hid (b1.trans (b2.mono b1.size))
  have CC := Lib.hid (c1.below b2)
  have DD := Lib.hid c2
  clear h1 h2 b1 b2 c1 c2 hs1
  generalize w1.heap.size + 1 = cb at *
  generalize hcc : w.heap.size + 1 = ca at *
  clear hcc
  go_wp2_with fail
  go_loopw [9, 10, 11] (fun xv yv kv wr => ∃ (i : Nat) (x y ka kb : Int), i ≤ max ls.length ms.length ∧ kv = .int .i64 i ∧ xv = .int .i64 x ∧ yv = .int .i64 y ∧ Cell ca x ka wr ∧ Cell cb y kb wr ∧ Below w.heap.size w wr)
    (fun _ _ kv _ => max ls.length ms.length - (intOf kv).toNat)
  case atStart => exact ⟨0, v, v, 0, 0, Nat.zero_le _, rfl, rfl, rfl, CC.out, DD.out, BB.out⟩
  case round =>
    obtain ⟨i, x, y, ka, kb, hi, rfl, rfl, rfl, hC, hD, hB⟩ := hrel
    have C0 := Lib.hid hC
    have D0 := Lib.hid hD
    have B0 := Lib.hid hB
    clear hC hD hB
    by_cases q1 : i < ls.length
    · obtain ⟨x', hx⟩ := get_of_lt q1
      obtain ⟨p1, o1, rfl, LC⟩ := hL _ _ (iv_get hx)
      have LC := Lib.hid LC
      by_cases q2 : i < ms.length
      · obtain ⟨y', hy⟩ := get_of_lt q2
        obtain ⟨p2, o2, rfl, MC⟩ := hM _ _ (iv_get hy)
        have MC := Lib.hid MC
        have hL0 := cell_in' B0.out LC.out
        have hM0 := cell_in' B0.out MC.out
        go_wp2_with fail
        clear hL0 hM0
        refine (Store_cell x' C0.out).mono ?_
        rintro e w1 ⟨rfl, cc, l⟩
        have B1 := Lib.hid (l.below B0.out B0.out.size hwa)
        have D1 := Lib.hid (D0.out.other C0.out hba l)
        have C1 := Lib.hid cc
        clear cc l B0 C0 D0
        have hL1 := cell_in' B1.out LC.out
        have hM1 := cell_in' B1.out MC.out
        go_wp2_with fail
        clear hL1 hM1
        refine (Swap_cell y' D1.out).mono ?_
        rintro e w2 ⟨rfl, cc, l⟩
        have B2 := Lib.hid (l.below B1.out B1.out.size hwb)
        have C2 := Lib.hid (C1.out.other D1.out hab l)
        have D2 := Lib.hid cc
        clear cc l B1 C1 D1
        have hL2 := cell_in' B2.out LC.out
        have hM2 := cell_in' B2.out MC.out
        go_wp2_with fail
        clear hL2 hM2
        refine (Load_cell C2.out).mono ?_
        rintro e w3 ⟨rfl, cc, l⟩
        have B3 := Lib.hid (l.below B2.out B2.out.size hwa)
        have D3 := Lib.hid (D2.out.other C2.out hba l)
        have C3 := Lib.hid cc
        clear cc l B2 C2 D2
        go_wp2_with fail
        refine (Load_cell D3.out).mono ?_
        rintro e w4 ⟨rfl, cc, l⟩
        have B4 := Lib.hid (l.below B3.out B3.out.size hwb)
        have C4 := Lib.hid (C3.out.other D3.out hab l)
        have D4 := Lib.hid cc
        clear cc l B3 C3 D3
        go_wp2_with fail
        go_roundw
        case rel => exact ⟨i + 1, _, _, _, _, by omega, by go_num, rfl, rfl, C4.out, D4.out, B4.out⟩
        case measure => simp [intOf]; omega
      · have q3 : decide (i < ms.length) = false := by simp; omega
        have hL0 := cell_in' B0.out LC.out
        go_wp2_with fail
        clear hL0
        refine (Store_cell x' C0.out).mono ?_
        rintro e w1 ⟨rfl, cc, l⟩
        have B1 := Lib.hid (l.below B0.out B0.out.size hwa)
        have D1 := Lib.hid (D0.out.other C0.out hba l)
        have C1 := Lib.hid cc
        clear cc l B0 C0 D0
        have hL1 := cell_in' B1.out LC.out
        go_wp2_with fail
        clear hL1
        refine (Load_cell C1.out).mono ?_
        rintro e w2 ⟨rfl, cc, l⟩
        have B2 := Lib.hid (l.below B1.out B1.out.size hwa)
        have D2 := Lib.hid (D1.out.other C1.out hba l)
        have C2 := Lib.hid cc
        clear cc l B1 C1 D1
        go_wp2_with fail
        refine (Load_cell D2.out).mono ?_
        rintro e w3 ⟨rfl, cc, l⟩
        have B3 := Lib.hid (l.below B2.out B2.out.size hwb)
        have C3 := Lib.hid (C2.out.other D2.out hab l)
        have D3 := Lib.hid cc
        clear cc l B2 C2 D2
        go_wp2_with fail
        go_roundw
        case rel => exact ⟨i + 1, _, _, _, _, by omega, by go_num, rfl, rfl, C3.out, D3.out, B3.out⟩
        case measure => simp [intOf]; omega
    · have q4 : decide (i < ls.length) = false := by simp; omega
      by_cases q2 : i < ms.length
      · obtain ⟨y', hy⟩ := get_of_lt q2
        obtain ⟨p2, o2, rfl, MC⟩ := hM _ _ (iv_get hy)
        have MC := Lib.hid MC
        have hM0 := cell_in' B0.out MC.out
        go_wp2_with fail
        clear hM0
        refine (Swap_cell y' D0.out).mono ?_
        rintro e w1 ⟨rfl, cc, l⟩
        have B1 := Lib.hid (l.below B0.out B0.out.size hwb)
        have C1 := Lib.hid (C0.out.other D0.out hab l)
        have D1 := Lib.hid cc
        clear cc l B0 C0 D0
        have hM1 := cell_in' B1.out MC.out
        go_wp2_with fail
        clear hM1
        refine (Load_cell C1.out).mono ?_
        rintro e w2 ⟨rfl, cc, l⟩
        have B2 := Lib.hid (l.below B1.out B1.out.size hwa)
        have D2 := Lib.hid (D1.out.other C1.out hba l)
        have C2 := Lib.hid cc
        clear cc l B1 C1 D1
        go_wp2_with fail
        refine (Load_cell D2.out).mono ?_
        rintro e w3 ⟨rfl, cc, l⟩
        have B3 := Lib.hid (l.below B2.out B2.out.size hwb)
        have C3 := Lib.hid (C2.out.other D2.out hab l)
        have D3 := Lib.hid cc
        clear cc l B2 C2 D2
        go_wp2_with fail
        go_roundw
        case rel => exact ⟨i + 1, _, _, _, _, by omega, by go_num, rfl, rfl, C3.out, D3.out, B3.out⟩
        case measure => simp [intOf]; omega
      · have q3 : decide (i < ms.length) = false := by simp; omega
        go_wp2_with fail
        refine (held_calls wr).mono ?_
        rintro e w9 ⟨rfl, b9⟩
        go_wp2_with fail
        go_ret
        exact ⟨rfl, B0.out.trans (b9.mono B0.out.size)⟩

theorem cellTwo_walk (v : Int) (la ma : Option Addr) (ls ms : List Int) (lc mc : Nat) (hll : ls.length ≤ 9223372036854775807) (hml : ms.length ≤ 9223372036854775807) (w : World) (hL : Cells w la (iv ls)) (hM : Cells w ma (iv ms)) :
    Calls Try.prog 6 #[.int .i64 v, .slice la ls.length lc, .slice ma ms.length mc] w (fun e w' => e = .returned (.bool true) ∧ Below w.heap.size w w') := by
  by_cases hl : ls.length ≤ 500
  · by_cases hm : ms.length ≤ 500
    · exact cellTwo_small v la ma ls ms lc mc hl hm w hL hM
    · have g1 : decide ((ls.length : Int) > 500) = false := by simp; omega
      have g2 : decide ((ms.length : Int) > 500) = true := by simp; omega
      go_enter Try.func6, Try.ntmps6
      go_wp2_with fail
      go_ret
      exact ⟨rfl, Below.refl _ _⟩
  · have g1 : decide ((ls.length : Int) > 500) = true := by simp; omega
    go_enter Try.func6, Try.ntmps6
    go_wp2_with fail
    go_ret
    exact ⟨rfl, Below.refl _ _⟩

end Go.Proofs.Ytfegglolblglpab

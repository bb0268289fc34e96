/-
  The walk of held: the chapter's example.
-/
import Derived.Test.YtfegglolblglpabC02k
namespace Go.Proofs.Ytfegglolblglpab
open Go.RowKit
set_option linter.unusedVariables false

theorem CasS_cell {c : Nat} {n : ByteArray} {k : Int} (v : ByteArray) {w : World} (h : CellS c n k w) : Calls Try.prog 20 #[.pointer (some ⟨c, 0, none⟩), .string n, .string v] w (fun e w' => e = .returned (.bool true) ∧ CellS c v (inc64 k) w' ∧ Left c w w') := by
  obtain ⟨b, h⟩ := h
  refine (CasS_hit c b n v k w h).mono ?_
  rintro e w' ⟨rfl, h', rfl⟩
  exact ⟨rfl, ⟨_, h'⟩, Left.access _ _ _ _ _ _⟩

set_option maxRecDepth 100000 in
set_option maxHeartbeats 2000000 in
theorem held_calls (w : World) : Calls Try.prog 12 #[] w (fun e w' => e = .returned (.bool true) ∧ Below w.heap.size w w') := by
  go_enter Try.func12, Try.ntmps12
  go_wp2_with fail
  refine (New_calls 5 w).mono ?_
  rintro e w1 ⟨rfl, h1, b1⟩
  have c1 : Cell (w.heap.size + 1) 5 0 w1 := ⟨_, h1⟩
  have hsz1 : w.heap.size + 1 < w1.heap.size := (Array.getElem?_eq_some_iff.1 h1.1).1
  go_wp2_with fail
  refine (NewS_calls _ w1).mono ?_
  rintro e w2 ⟨rfl, h2, b2⟩
  have t2 : CellS (w1.heap.size + 1) { data := #[97] } 0 w2 := ⟨_, h2⟩
  have B2 := Lib.hid (b1.trans (b2.mono b1.size))
  have C2 := Lib.hid (c1.below b2)
  have T2 := Lib.hid t2
  have hct : w1.heap.size + 1 ≠ w.heap.size + 1 := by omega
  have hwt : w.heap.size ≤ w1.heap.size + 1 := by omega
  have hwc : w.heap.size ≤ w.heap.size + 1 := by omega
  clear h1 h2 b1 b2 c1 t2 hsz1
  generalize w1.heap.size + 1 = t at *
  generalize hcc : w.heap.size + 1 = c at *
  clear hcc
  go_wp2_with fail
  refine (Store_none 4 w2).mono ?_
  rintro e w3 ⟨rfl, b⟩
  have B3 := Lib.hid (B2.out.trans (b.mono B2.out.size))
  have C3 := Lib.hid (C2.out.below b)
  have T3 := Lib.hid (T2.out.below b)
  clear b B2 C2 T2
  go_wp2_with fail
  refine (Load_cell C3.out).mono ?_
  rintro e w4 ⟨rfl, cc, l⟩
  have B4 := Lib.hid (l.below B3.out B3.out.size hwc)
  have T4 := Lib.hid (T3.out.other C3.out hct l)
  rw [show inc64 0 = 1 by decide] at cc
  have C4 := Lib.hid cc
  clear cc l B3 C3 T3
  go_wp2_with fail
  refine (Swap_cell 7 C4.out).mono ?_
  rintro e w5 ⟨rfl, cc, l⟩
  have B5 := Lib.hid (l.below B4.out B4.out.size hwc)
  have T5 := Lib.hid (T4.out.other C4.out hct l)
  rw [show inc64 1 = 2 by decide] at cc
  have C5 := Lib.hid cc
  clear cc l B4 C4 T4
  go_wp2_with fail
  refine (Cas_cell 5 9 C5.out).mono ?_
  rintro e w6 ⟨rfl, cc, l⟩
  have B6 := Lib.hid (l.below B5.out B5.out.size hwc)
  have T6 := Lib.hid (T5.out.other C5.out hct l)
  rw [show inc64 2 = 3 by decide, if_neg (by decide)] at cc
  rw [show ((7 : Int) == 5) = false by decide]
  have C6 := Lib.hid cc
  clear cc l B5 C5 T5
  go_wp2_with fail
  refine (Cas_cell 7 9 C6.out).mono ?_
  rintro e w7 ⟨rfl, cc, l⟩
  have B7 := Lib.hid (l.below B6.out B6.out.size hwc)
  have T7 := Lib.hid (T6.out.other C6.out hct l)
  rw [show inc64 3 = 4 by decide, if_pos rfl] at cc
  rw [show ((7 : Int) == 7) = true by decide]
  have C7 := Lib.hid cc
  clear cc l B6 C6 T6
  go_wp2_with fail
  refine (Load_cell C7.out).mono ?_
  rintro e w8 ⟨rfl, cc, l⟩
  have B8 := Lib.hid (l.below B7.out B7.out.size hwc)
  have T8 := Lib.hid (T7.out.other C7.out hct l)
  rw [show inc64 4 = 5 by decide] at cc
  have C8 := Lib.hid cc
  clear cc l B7 C7 T7
  obtain ⟨b9, hb9⟩ := C8.out
  go_wp2_with fail
  refine (Accesses_calls c b9 9 5 w8 hb9).mono ?_
  rintro e w9 ⟨rfl, hw⟩
  obtain rfl := hw.symm
  clear hw hb9
  go_wp2_with fail
  refine (CasS_cell { data := #[98] } T8.out).mono ?_
  rintro e w20 ⟨rfl, tt, l⟩
  have B20 := Lib.hid (l.below B8.out B8.out.size hwt)
  have T20 := Lib.hid tt
  clear tt l B8 T8 C8
  go_wp2_with fail
  refine (Load_cellS T20.out).mono ?_
  rintro e w21 ⟨rfl, tt, l⟩
  have B21 := Lib.hid (l.below B20.out B20.out.size hwt)
  clear tt l B20 T20
  go_wp2_with fail
  refine (Load_none w21).mono ?_
  rintro e w22 ⟨rfl, b⟩
  have B22 := Lib.hid (B21.out.trans (b.mono B21.out.size))
  clear b B21
  go_wp2_with fail
  refine (Cas_none 0 4 w22).mono ?_
  rintro e w23 ⟨rfl, b⟩
  have B23 := Lib.hid (B22.out.trans (b.mono B22.out.size))
  clear b B22
  go_wp2_with fail
  refine (Cas_none 4 0 w23).mono ?_
  rintro e w24 ⟨rfl, b⟩
  have B24 := Lib.hid (B23.out.trans (b.mono B23.out.size))
  clear b B23
  go_wp2_with fail
  refine (Swap_none 3 w24).mono ?_
  rintro e w25 ⟨rfl, b⟩
  have B25 := Lib.hid (B24.out.trans (b.mono B24.out.size))
  clear b B24
  go_wp2_with fail
  refine (Accesses_none w25).mono ?_
  rintro e w26 ⟨rfl, b⟩
  have B26 := Lib.hid (B25.out.trans (b.mono B25.out.size))
  clear b B25
  go_wp2_with fail
  go_ret
  exact ⟨rfl, B26.out⟩

end Go.Proofs.Ytfegglolblglpab

/-
  The walk of the statement CellAccess.
-/
import Derived.Test.YtfegglolblglpabL02f
import Derived.Test.YtfegglolblglpabSame
namespace Go.Proofs.Ytfegglolblglpab
open Go.RowKit
set_option linter.unusedVariables false

set_option maxRecDepth 100000 in
set_option maxHeartbeats 4000000 in
theorem cellAccess_small (v : Int) (ka aa ba : Option Addr) (ks us bs : List Int) (kc ac bc : Nat) (hl : ks.length ≤ 1000) (hla : us.length = ks.length) (hlb : bs.length = ks.length) (w : World)
    (hK : Cells w ka (iv ks)) (hA : Cells w aa (iv us)) (hB : Cells w ba (iv bs)) :
    Calls Try.prog 3 #[.int .i64 v, .slice ka ks.length kc, .slice aa us.length ac, .slice ba bs.length bc] w (fun e w' => e = .returned (.bool true) ∧ Below w.heap.size w w') := by
  have g1 : decide ((ks.length : Int) > 1000) = false := by simp; omega
  have g2 : ((us.length : Int) != (ks.length : Int)) = false := by simp [hla]
  have g3 : ((bs.length : Int) != (ks.length : Int)) = false := by simp [hlb]
  have HLA := Lib.hid hla
  have HLB := Lib.hid hlb
  clear hla hlb
  go_enter Try.func3, Try.ntmps3
  go_wp2_with fail
  refine (New_calls v w).mono ?_
  rintro e w1 ⟨rfl, h1, b1⟩
  have C1 := Lib.hid (show Cell (w.heap.size + 1) v 0 w1 from ⟨_, h1⟩)
  have B1 := Lib.hid b1
  have hwc : w.heap.size ≤ w.heap.size + 1 := by omega
  clear h1 b1
  generalize hcc : w.heap.size + 1 = c at *
  clear hcc
  go_wp2_with fail
  refine (told_calls w c v ka aa ba ks us bs kc ac bc hl HLA.out HLB.out hK hA hB w1 B1.out hwc C1.out).mono ?_
  rintro e w2 ⟨ov, rfl, i2, c2, b2⟩
  obtain ⟨oa, oc, rfl, l1, l2, l3⟩ := i2
  have B2 := Lib.hid b2
  have C2 := Lib.hid c2
  have I2 := Lib.hid l3
  clear b2 c2 l3 C1 B1
  go_wp2_with fail
  refine (refTold_calls v ka aa ba ks us bs kc ac bc hl HLA.out HLB.out w2 (hK.below B2.out) (hA.below B2.out) (hB.below B2.out)).mono ?_
  rintro e w3 ⟨rv, rfl, ⟨ra, rc, rfl, m1, m2, m3⟩, b3⟩
  have B3 := Lib.hid (B2.out.trans (b3.mono B2.out.size))
  have C3 := Lib.hid (C2.out.below b3)
  have I3 := Lib.hid (I2.out.below b3)
  have J3 := Lib.hid m3
  clear b3 m3 B2 C2 I2
  obtain ⟨b9, hb9⟩ := C3.out
  go_wp2_with fail
  refine (Accesses_calls c b9 _ _ w3 hb9).mono ?_
  rintro e w9 ⟨rfl, hw⟩
  obtain rfl := hw.symm
  clear hw hb9
  go_wp2_with fail
  refine (held_calls w3).mono ?_
  rintro e w4 ⟨rfl, b4⟩
  have B4 := Lib.hid (B3.out.trans (b4.mono B3.out.size))
  have C4 := Lib.hid (C3.out.below b4)
  have I4 := Lib.hid (I3.out.below b4)
  have J4 := Lib.hid (J3.out.below b4)
  clear b4 B3 C3 I3 J3
  have SL := Lib.hid (st_length v ks us bs ks.length)
  go_wp2_with fail
  refine (Same_calls oa ra _ _ oc rc (by rw [SL.out]; omega) w4 I4.out J4.out).mono ?_
  rintro e w5 ⟨rfl, b5⟩
  have B5 := Lib.hid (B4.out.trans (b5.mono B4.out.size))
  have C5 := Lib.hid (C4.out.below b5)
  rw [show eqI (st v ks us bs ks.length).1 (st v ks us bs ks.length).1 = true by simp [eqI]]
  clear b5 B4 C4 I4 J4
  go_wp2_with fail
  refine (Load_cell C5.out).mono ?_
  rintro e w6 ⟨rfl, cc, l⟩
  have B6 := Lib.hid (l.below B5.out B5.out.size hwc)
  clear cc l
  go_wp2_with fail
  go_ret
  exact ⟨rfl, B6.out⟩

/-- The lengths do not fit: the example alone. -/
theorem cellAccess_off (v : Int) (ka aa ba : Option Addr) (kl al bl : Nat) (kc ac bc : Nat) (h : 1000 < kl ∨ al ≠ kl ∨ bl ≠ kl) (w : World) :
    Calls Try.prog 3 #[.int .i64 v, .slice ka kl kc, .slice aa al ac, .slice ba bl bc] w (fun e w' => e = .returned (.bool true) ∧ Below w.heap.size w w') := by
  by_cases h1 : 1000 < kl
  · have g1 : decide ((kl : Int) > 1000) = true := by simp; omega
    clear h
    go_enter Try.func3, Try.ntmps3
    go_wp2_with fail
    refine (held_calls w).mono ?_
    rintro e w4 ⟨rfl, b4⟩
    go_wp2_with fail
    go_ret
    exact ⟨rfl, b4⟩
  · have g1 : decide ((kl : Int) > 1000) = false := by simp; omega
    by_cases h2 : al = kl
    · have g2 : ((al : Int) != (kl : Int)) = false := by simp [h2]
      have g3 : ((bl : Int) != (kl : Int)) = true := by simp; omega
      clear h h1 h2
      go_enter Try.func3, Try.ntmps3
      go_wp2_with fail
      refine (held_calls w).mono ?_
      rintro e w4 ⟨rfl, b4⟩
      go_wp2_with fail
      go_ret
      exact ⟨rfl, b4⟩
    · have g2 : ((al : Int) != (kl : Int)) = true := by simp; omega
      clear h h1 h2
      go_enter Try.func3, Try.ntmps3
      go_wp2_with fail
      refine (held_calls w).mono ?_
      rintro e w4 ⟨rfl, b4⟩
      go_wp2_with fail
      go_ret
      exact ⟨rfl, b4⟩

theorem cellAccess_walk (v : Int) (ka aa ba : Option Addr) (ks us bs : List Int) (kc ac bc : Nat) (w : World)
    (hK : Cells w ka (iv ks)) (hA : Cells w aa (iv us)) (hB : Cells w ba (iv bs)) :
    Calls Try.prog 3 #[.int .i64 v, .slice ka ks.length kc, .slice aa us.length ac, .slice ba bs.length bc] w (fun e w' => e = .returned (.bool true) ∧ Below w.heap.size w w') := by
  by_cases h : 1000 < ks.length ∨ us.length ≠ ks.length ∨ bs.length ≠ ks.length
  · exact cellAccess_off v ka aa ba _ _ _ kc ac bc h w
  · exact cellAccess_small v ka aa ba ks us bs kc ac bc (by omega) (by omega) (by omega) w hK hA hB

end Go.Proofs.Ytfegglolblglpab

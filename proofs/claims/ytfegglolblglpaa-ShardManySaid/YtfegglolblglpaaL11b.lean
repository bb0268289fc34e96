/-
  The walk of the statement ShardOne.
-/
import Derived.Test.YtfegglolblglpaaT11
namespace Go.Proofs.Ytfegglolblglpaa
open Go.RowKit
set_option linter.unusedVariables false

theorem addE_cases (xss : List (List Int)) (t k : Int) : addE xss t k = 0 ∨ addE xss t k = 1 := by
  simp only [addE]
  split <;> simp
theorem sums_add {xss : List (List Int)} {i j : Nat} (h : addE xss i j = 0) : (sums xss).set j (inc (sumK xss j)) = sums (addL xss i j) := by
  apply List.ext_getElem?
  intro m
  by_cases hm : m < 6
  · rw [sums_at _ hm, sumK_add h m hm]
    by_cases e : j = m
    · subst e
      rw [List.getElem?_set_self (by rw [sums_length]; exact hm), if_pos rfl]
    · rw [List.getElem?_set_ne e, sums_at _ hm, if_neg (by omega)]
  · rw [List.getElem?_eq_none (by rw [List.length_set, sums_length]; omega), List.getElem?_eq_none (by rw [sums_length]; omega)]

set_option maxRecDepth 100000 in
set_option maxHeartbeats 4000000 in
theorem shardOne_walk (a : Option Addr) (xss : List (List Int)) (cap : Nat) (t k : Int) (hl : xss.length ≤ 9223372036854775807) (w : World) (hG : Grid w a xss) :
    Calls Try.prog 8 #[.slice a xss.length cap, .int .i64 t, .int .i64 k] w (fun e w' => e = .returned (.bool true) ∧ Below w.heap.size w w') := by
  have hAdd := Add_calls a xss cap t k hl w hG
  by_cases hb : bigB xss = true
  · have HB := Lib.hid hb
    clear hb
    go_enter Try.func8, Try.ntmps8
    go_wp2_with fail
    refine hAdd.mono ?_
    rintro e w1 ⟨v, rfl, ⟨a1, c1, rfl, _, _, g1⟩, b1⟩
    have X1 := hG.below b1
    go_wp2_with fail
    refine (Big_calls a xss cap hl w1 X1).mono ?_
    rintro e w' ⟨rfl, hw⟩
    obtain rfl := hw.symm
    rw [HB.out]
    clear hw
    go_wp2_with fail
    refine (counted_calls w1).mono ?_
    rintro e w2 ⟨rfl, b2⟩
    go_wp2_with fail
    go_ret
    exact ⟨rfl, b1.trans (b2.mono b1.size)⟩
  · have HB := Lib.hid (show bigB xss = false by simpa using hb)
    clear hb
    rcases addE_cases xss t k with hE | hE
    · obtain ⟨i, j, r, rfl, rfl, hj, hr, hr6, eL, hB, hB'⟩ := addL_taken hE
      have eS := sums_add hE
      have eN : (addL xss i j).length = xss.length := by rw [eL, List.length_set]
      rw [hE] at hAdd
      generalize addL xss i j = L at *
      have hq : ((L.length : Int) == (xss.length : Int)) = true := by simp [eN]
      have hLl : L.length ≤ 9223372036854775807 := by omega
      have e1 : sumE xss = 0 := by simp [sumE, hB]
      have e2 : sumE L = 0 := by simp [sumE, hB']
      have hj6 : (j : Int) < 6 := by omega
      have d3 : decide ((j : Int) < 0) = false := by simp
      have d4 : decide ((j : Int) ≥ 6) = false := by simp; omega
      have ES := Lib.hid eS
      have EI := Lib.hid hB'
      have E1 := Lib.hid e1
      have E2 := Lib.hid e2
      clear hE hr hr6 eL hB hB' eS e1 e2 eN
      go_enter Try.func8, Try.ntmps8
      go_wp2_with fail
      refine hAdd.mono ?_
      rintro e w1 ⟨v, rfl, ⟨a1, c1, rfl, _, _, g1⟩, b1⟩
      have B1 := Lib.hid b1
      have X1 := Lib.hid (hG.below b1)
      have G1 := Lib.hid g1
      clear b1 g1 hAdd
      go_wp2_with fail
      refine (Big_calls a xss cap hl w1 X1.out).mono ?_
      rintro e w' ⟨rfl, hw⟩
      obtain rfl := hw.symm
      rw [HB.out]
      clear hw
      go_wp2_with fail
      refine (Sum_calls a xss cap hl w1 X1.out).mono ?_
      rintro e w3 ⟨rfl, b3⟩
      rw [E1.out]
      have b4 : Below w1.heap.size w1 (w3.alloc (Obj.cells #[.int .u64 (sumK xss 0), .int .u64 (sumK xss 1), .int .u64 (sumK xss 2), .int .u64 (sumK xss 3), .int .u64 (sumK xss 4), .int .u64 (sumK xss 5)] 41)) := b3.alloc b3.size _
      have S4 : Blk w3.heap.size 41 (uv (sums xss)) (w3.alloc (Obj.cells #[.int .u64 (sumK xss 0), .int .u64 (sumK xss 1), .int .u64 (sumK xss 2), .int .u64 (sumK xss 3), .int .u64 (sumK xss 4), .int .u64 (sumK xss 5)] 41)) := heap_alloc_new _ _
      have B4 := Lib.hid (B1.out.trans (b4.mono B1.out.size))
      have G4 := Lib.hid (G1.out.below b4)
      have F4 := Lib.hid b4
      have HS4 := Lib.hid S4
      have HG4 : Hid (w.heap.size ≤ w3.heap.size) := Lib.hid (Nat.le_trans B1.out.size b3.size)
      have HG14 : Hid (w1.heap.size ≤ w3.heap.size) := Lib.hid b3.size
      clear b3 b4 B1 X1 S4
      go_wp2_with fail
      generalize w3.alloc (Obj.cells #[.int .u64 (sumK xss 0), .int .u64 (sumK xss 1), .int .u64 (sumK xss 2), .int .u64 (sumK xss 3), .int .u64 (sumK xss 4), .int .u64 (sumK xss 5)] 41) = w4 at *
      generalize w3.heap.size = g4 at *
      refine (Sum_calls a1 L c1 hLl w4 G4.out).mono ?_
      rintro e w5 ⟨rfl, b5⟩
      rw [E2.out]
      have b6 : Below w4.heap.size w4 (w5.alloc (Obj.cells #[.int .u64 (sumK L 0), .int .u64 (sumK L 1), .int .u64 (sumK L 2), .int .u64 (sumK L 3), .int .u64 (sumK L 4), .int .u64 (sumK L 5)] 41)) := b5.alloc b5.size _
      have S6 : Blk w5.heap.size 41 (uv (sums L)) (w5.alloc (Obj.cells #[.int .u64 (sumK L 0), .int .u64 (sumK L 1), .int .u64 (sumK L 2), .int .u64 (sumK L 3), .int .u64 (sumK L 4), .int .u64 (sumK L 5)] 41)) := heap_alloc_new _ _
      have hgg : g4 ≠ w5.heap.size := Nat.ne_of_lt (Nat.lt_of_lt_of_le HS4.out.lt b5.size)
      have B6 := Lib.hid (B4.out.trans (b6.mono B4.out.size))
      have F6 := Lib.hid (F4.out.trans (b6.mono F4.out.size))
      have HS46 := Lib.hid (HS4.out.below b6 HS4.out.lt)
      have HS66 := Lib.hid S6
      have HGG := Lib.hid hgg
      obtain ⟨f1, f2⟩ := HS46.out.at (uv_get (sums_at xss hj))
      clear b5 b6 B4 G4 S6 HS4 hgg F4
      go_wp2_with fail
      generalize w5.alloc (Obj.cells #[.int .u64 (sumK L 0), .int .u64 (sumK L 1), .int .u64 (sumK L 2), .int .u64 (sumK L 3), .int .u64 (sumK L 4), .int .u64 (sumK L 5)] 41) = w6 at *
      generalize w5.heap.size = g6 at *
      have B7 := Lib.hid (B6.out.setCell HG4.out (p := ⟨g4, j, none⟩) (.int .u64 (IntKind.u64.wrap (sumK xss j + 1))))
      have G7 := Lib.hid (G1.out.below (F6.out.setCell HG14.out (p := ⟨g4, j, none⟩) (.int .u64 (IntKind.u64.wrap (sumK xss j + 1)))))
      have HS7 : Hid (Blk g4 41 (uv (sums L)) (w6.setCell ⟨g4, j, none⟩ (.int .u64 (IntKind.u64.wrap (sumK xss j + 1))))) := Lib.hid (by
        have h := HS46.out.set j (.int .u64 (inc (sumK xss j)))
        rw [uv_set, ES.out] at h
        exact h)
      have HT7 := Lib.hid (HS66.out.other (p := ⟨g4, j, none⟩) HGG.out (.int .u64 (IntKind.u64.wrap (sumK xss j + 1))))
      clear f1 f2 B6 G1 F6 HS46 HS66
      generalize w6.setCell ⟨g4, j, none⟩ (.int .u64 (IntKind.u64.wrap (sumK xss j + 1))) = w7 at *
      refine (counted_calls w7).mono ?_
      rintro e w8 ⟨rfl, b8⟩
      have B8 := Lib.hid (B7.out.trans (b8.mono B7.out.size))
      have G8 := Lib.hid (G7.out.below b8)
      have S4 := HS7.out.below b8 HS7.out.lt
      have S6 := HT7.out.below b8 HT7.out.lt
      have z0 := (S4.at (k := 0) rfl).1
      have z1 := (S4.at (k := 1) rfl).1
      have z2 := (S4.at (k := 2) rfl).1
      have z3 := (S4.at (k := 3) rfl).1
      have z4 := (S4.at (k := 4) rfl).1
      have z5 := (S4.at (k := 5) rfl).1
      have y0 := (S6.at (k := 0) rfl).1
      have y1 := (S6.at (k := 1) rfl).1
      have y2 := (S6.at (k := 2) rfl).1
      have y3 := (S6.at (k := 3) rfl).1
      have y4 := (S6.at (k := 4) rfl).1
      have y5 := (S6.at (k := 5) rfl).1
      have heq := eq6_agree w8 (sumK L) (sumK L)
      rw [agree_of (fun _ _ => rfl)] at heq
      clear b8 B7 G7 HS7 HT7 S4 S6
      go_wp2_with fail
      refine (Is_calls a1 L c1 hLl w8 G8.out).mono ?_
      rintro e w9 ⟨rfl, hw⟩
      obtain rfl := hw.symm
      rw [EI.out]
      clear hw
      go_wp2_with fail
      go_ret
      exact ⟨rfl, B8.out⟩
    · rw [hE] at hAdd
      go_enter Try.func8, Try.ntmps8
      go_wp2_with fail
      refine hAdd.mono ?_
      rintro e w1 ⟨v, rfl, ⟨a1, c1, rfl, _, _, g1⟩, b1⟩
      have X1 := hG.below b1
      go_wp2_with fail
      refine (Big_calls a xss cap hl w1 X1).mono ?_
      rintro e w' ⟨rfl, hw⟩
      obtain rfl := hw.symm
      rw [HB.out]
      clear hw
      go_wp2_with fail
      refine (counted_calls w1).mono ?_
      rintro e w2 ⟨rfl, b2⟩
      go_wp2_with fail
      go_ret
      exact ⟨rfl, b1.trans (b2.mono b1.size)⟩

end Go.Proofs.Ytfegglolblglpaa

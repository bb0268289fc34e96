/-
  The walk of the statement ShardMany.
-/
import Derived.Test.YtfegglolblglpaaL11b
import Derived.Test.YtfegglolblglpaaW11h
import Derived.Deep.RegionWith
namespace Go.Proofs.Ytfegglolblglpaa
open Go.RowKit
set_option linter.unusedVariables false

/-- The cells from the address a on hold slices that read as the rows of numbers yss. -/
def GridI (w : World) (a : Option Addr) (yss : List (List Int)) : Prop :=
  ∀ i ys, yss[i]? = some ys → ∃ b o v, a = some ⟨b, o, none⟩ ∧ w.cell? ⟨b, o + i, none⟩ = some v ∧ Ints ys v w
theorem GridI.below {w w' : World} {a : Option Addr} {yss : List (List Int)} (h : GridI w a yss) (hb : Below w.heap.size w w') : GridI w' a yss := fun i xs hx => by
  obtain ⟨b, o, v, ha, hc, hv⟩ := h i xs hx
  exact ⟨b, o, v, ha, by rw [hb.cell (World.block_lt_of_cell? w _ hc)]; exact hc, hv.below hb⟩
theorem GridI.nil (w : World) (a : Option Addr) : GridI w a [] := fun i xs h => by simp at h
theorem GridI.at {w : World} {a : Option Addr} {yss : List (List Int)} (h : GridI w a yss) {i : Nat} {ys : List Int} (hi : yss[i]? = some ys) :
    ∃ b o a' cap', a = some ⟨b, o, none⟩ ∧ w.cell? ⟨b, o + i, none⟩ = some (.slice a' ys.length cap') ∧ Cells w a' (iv ys) := by
  obtain ⟨b, o, v, ha, hc, a', cap', rfl, _, _, hu⟩ := h i ys hi
  exact ⟨b, o, a', cap', ha, hc, hu⟩

theorem newL_good {n : Int} (h : newE n = 0) : isB (newL n) = true ∧ ((newL n).length : Int) = n ∧ sums (newL n) = zeros := by
  have hn : ¬ (n < 1 ∨ 8 < n) := by
    intro e
    simp [newE, e] at h
  obtain ⟨m, rfl⟩ := Int.eq_ofNat_of_zero_le (show 0 ≤ n by omega)
  have e : newL m = List.replicate m zeros := by simp [newL, h]
  have hB : isB (List.replicate m zeros) = true := by
    rw [isB_iff]
    refine ⟨fun r hr => ?_, by simp; omega, by simp; omega⟩
    obtain ⟨_, rfl⟩ := List.mem_replicate.1 hr
    rfl
  rw [e]
  refine ⟨hB, by simp, ?_⟩
  have h0 : ∀ k, k < 6 → ∀ q, colTo (List.replicate m zeros) k q = 0 := by
    intro k hk q
    induction q with
    | zero => rfl
    | succ q ih =>
      have : ((List.replicate m zeros).getD q []).getD k 0 = 0 := by
        by_cases hq : q < m
        · have e1 : (List.replicate m zeros).getD q [] = zeros := by simp [List.getD, hq]
          rw [e1]
          match k, hk with
          | 0, _ => rfl
          | 1, _ => rfl
          | 2, _ => rfl
          | 3, _ => rfl
          | 4, _ => rfl
          | 5, _ => rfl
        · have e1 : (List.replicate m zeros).getD q [] = [] := by simp [List.getD, hq]
          rw [e1]
          rfl
      simp only [colTo, ih, this]
      decide
  have h1 : ∀ k, k < 6 → sumK (List.replicate m zeros) k = 0 := fun k hk => by
    simp only [sumK, hB, if_true]
    exact h0 k hk _
  show [sumK (List.replicate m zeros) 0, sumK (List.replicate m zeros) 1, sumK (List.replicate m zeros) 2, sumK (List.replicate m zeros) 3, sumK (List.replicate m zeros) 4, sumK (List.replicate m zeros) 5] = zeros
  rw [h1 0 (by decide), h1 1 (by decide), h1 2 (by decide), h1 3 (by decide), h1 4 (by decide), h1 5 (by decide)]
  rfl

theorem cell_in {w w' : World} {p : Addr} {v : Value} (h : Below w.heap.size w w') (hc : w.cell? p = some v) : w'.cell? p = some v := by
  rw [h.cell (World.block_lt_of_cell? _ _ hc)]
  exact hc

set_option maxRecDepth 100000 in
set_option maxHeartbeats 4000000 in
theorem shardMany_walk (n : Int) (a : Option Addr) (yss : List (List Int)) (cap : Nat) (hl : yss.length ≤ 9223372036854775807) (w : World) (hG : GridI w a yss) :
    Calls Try.prog 10 #[.int .i64 n, .slice a yss.length cap] w (fun e w' => e = .returned (.bool true) ∧ Below w.heap.size w w') := by
  have hN := New_calls n w
  by_cases h : newE n = 0 ∧ yss.length ≤ 300
  · obtain ⟨hE, h300⟩ := h
    obtain ⟨hB0, hn0, hs0⟩ := newL_good hE
    rw [hE] at hN
    generalize newL n = L0 at *
    have d0 : decide ((yss.length : Int) > 300) = false := by simp; omega
    have HB0 := Lib.hid hB0
    have HN0 := Lib.hid hn0
    have HS0 := Lib.hid hs0
    clear hE hB0 hn0 hs0
    go_enter Try.func10, Try.ntmps10
    go_wp2_with fail
    refine hN.mono ?_
    rintro e w1 ⟨v, rfl, ⟨a1, c1, rfl, _, _, g1⟩, b1⟩
    have G1 := Lib.hid g1
    have B1 := Lib.hid b1
    clear g1 b1 hN
    go_wp2_with fail
    obtain ⟨wo, hwo⟩ : ∃ wo : World, wo = w1 := ⟨_, rfl⟩
    subst hwo
    go_loopw [5, 8] (fun cv kv wr => ∃ (i : Nat) (cur : List (List Int)) (ca : Option Addr) (cc : Nat), i ≤ yss.length ∧ kv = .int .i64 i ∧ cv = .slice ca cur.length cc ∧ (cur.length : Int) = n ∧ isB cur = true ∧ GridA wo.heap.size wr ca cur ∧ Blk wo.heap.size 41 (uv (sums cur)) wr ∧ Below w.heap.size w wr)
      (fun _ kv _ => yss.length - (intOf kv).toNat)
    case atStart =>
      refine ⟨0, L0, a1, c1, Nat.zero_le _, rfl, rfl, HN0.out, HB0.out, (G1.out.away (Nat.le_refl _)).below ((Below.refl _ _).alloc (Nat.le_refl _) _), ?_, B1.out.alloc B1.out.size _⟩
      rw [HS0.out]
      exact heap_alloc_new _ _
    case round =>
      obtain ⟨i, cur, ca, cc, hi, rfl, rfl, hcl, hcB, hcG, hcS, hnx⟩ := hrel
      have hcl8 : cur.length ≤ 9223372036854775807 := Nat.le_trans ((isB_iff _).1 hcB).2.2 (by decide)
      have CL := Lib.hid hcl
      have CB := Lib.hid hcB
      have CG := Lib.hid hcG
      have CS := Lib.hid hcS
      have CN := Lib.hid hnx
      have hgw : w.heap.size ≤ wo.heap.size := B1.out.size
      clear hcl hcB hcG hcS hnx
      by_cases hlt : i < yss.length
      · obtain ⟨ys, hys⟩ := get_of_lt hlt
        obtain ⟨b2, o2, a2, c2, rfl, hc0, hu0⟩ := hG.at hys
        have hc1 := cell_in CN.out hc0
        by_cases hy2 : ys.length = 2
        · rw [hy2] at hc0 hc1
          obtain ⟨x, hx⟩ := get_of_lt (xs := ys) (k := 0) (by omega)
          obtain ⟨y, hy⟩ := get_of_lt (xs := ys) (k := 1) (by omega)
          obtain ⟨p1, q1, rfl, x0⟩ := hu0 _ _ (iv_get hx)
          obtain ⟨p1', q1', hpq, y0⟩ := hu0 _ _ (iv_get hy)
          cases hpq
          rw [Nat.add_zero] at x0
          have x1 := cell_in CN.out x0
          have y1 := cell_in CN.out y0
          have HC0 := Lib.hid hc0
          have HX0 := Lib.hid x0
          have HY0 := Lib.hid y0
          clear hx hy hys hy2 hc0 x0 y0
          rcases addE_cases cur x y with hE | hE
          · obtain ⟨ti, j, r, rfl, rfl, hj, hr, hr6, eL, hB, hB'⟩ := addL_taken hE
            have eS := sums_add hE
            have eN : ((addL cur ti j).length : Int) = n := by rw [eL, List.length_set]; exact CL.out
            have hAdd := AddA_good ca cur cc ti j hcl8 wr.drew (CG.out.grid.below (Below.refl _ wr).drew) hB r hr hj
            rw [← eL] at hAdd
            generalize addL cur ti j = L at *
            have ES := Lib.hid eS
            have EB := Lib.hid hB'
            have EN := Lib.hid eN
            have hj6 : (j : Int) < 6 := by omega
            clear hE hr hr6 eL hB hB' eS eN
            go_wp2_with fail
            go_region_with (go_at_call 24; refine hAdd.mono ?_; rintro e w2 ⟨v, rfl, ⟨a3, c3, rfl, _, g3⟩, b3⟩)
            all_goals
              have bw : Below w.heap.size w w2 := CN.out.drew.trans (b3.mono CN.out.drew.size)
              have s3 : Blk wo.heap.size 41 (uv (sums cur)) w2 := Blk.below (w := wr.drew) CS.out b3 CS.out.lt
              have g4 := g3 wo.heap.size CS.out.lt (GridA.below CG.out (Below.refl _ wr).drew)
              have hc3 := cell_in bw HC0.out
              have x3 := cell_in bw HX0.out
              have y3 := cell_in bw HY0.out
              obtain ⟨f1, f2⟩ := s3.at (uv_get (sums_at cur hj))
              have G4 := Lib.hid g4
              have S3 := Lib.hid s3
              have BW := Lib.hid bw
              clear g3 b3 bw s3 g4 hc1 x1 y1 hAdd hu0
              go_wp2_with fail
              go_region
              go_wp2_with fail
              go_roundw
              case rel =>
                refine ⟨i + 1, L, a3, c3, by omega, by go_num, rfl, EN.out, EB.out, (GridA.setCell (G4.out.below (Below.refl _ w2).drew) rfl _), ?_, (Below.setCell BW.out hgw _).drew⟩
                rw [← ES.out, ← uv_set]
                exact S3.out.set j _
              case measure => simp [intOf]; omega
          · have hnot : ¬ (0 ≤ x ∧ x < n ∧ 0 ≤ y ∧ y < 6) := by
              rintro ⟨q1, q2, q3, q4⟩
              simp only [addE] at hE
              rw [if_pos ⟨CB.out, q1, by rw [CL.out]; exact q2, q3, q4⟩] at hE
              cases hE
            have hAdd := Add_calls ca cur cc x y hcl8 wr.drew (CG.out.grid.below (Below.refl _ wr).drew)
            rw [hE] at hAdd
            clear hE
            go_wp2_with fail
            go_region_with (go_at_call 24; refine hAdd.mono ?_; rintro e w2 ⟨v, rfl, ⟨a3, c3, rfl, _, _, _⟩, b3⟩)
            all_goals
              have bw : Below w.heap.size w w2 := CN.out.drew.trans (b3.mono CN.out.drew.size)
              have s3 : Blk wo.heap.size 41 (uv (sums cur)) w2 := Blk.below (w := wr.drew) CS.out b3 CS.out.lt
              have g4 := GridA.below (w := wr.drew) (GridA.below CG.out (Below.refl _ wr).drew) b3
              have hc3 := cell_in bw HC0.out
              have x3 := cell_in bw HX0.out
              have y3 := cell_in bw HY0.out
              have G4 := Lib.hid g4
              have S3 := Lib.hid s3
              have BW := Lib.hid bw
              clear b3 bw s3 g4 hc1 x1 y1 hAdd hu0
              by_cases q1 : 0 ≤ x
              · have d1 : decide (x ≥ 0) = true := by simp; omega
                by_cases q2 : x < n
                · have d2 : decide (x < n) = true := by simp; omega
                  by_cases q3 : 0 ≤ y
                  · have d3 : decide (y ≥ 0) = true := by simp; omega
                    have d4 : decide (y < 6) = false := by
                      simp only [decide_eq_false_iff_not]
                      exact fun q4 => hnot ⟨q1, q2, q3, q4⟩
                    clear hnot q1 q2 q3
                    go_wp2_with fail
                    go_roundw
                    case rel => exact ⟨i + 1, cur, ca, cc, by omega, by go_num, rfl, CL.out, CB.out, G4.out, S3.out, BW.out⟩
                    case measure => simp [intOf]; omega
                  · have d3 : decide (y ≥ 0) = false := by simp; omega
                    clear hnot q1 q2 q3
                    go_wp2_with fail
                    go_roundw
                    case rel => exact ⟨i + 1, cur, ca, cc, by omega, by go_num, rfl, CL.out, CB.out, G4.out, S3.out, BW.out⟩
                    case measure => simp [intOf]; omega
                · have d2 : decide (x < n) = false := by simp; omega
                  clear hnot q1 q2
                  go_wp2_with fail
                  go_roundw
                  case rel => exact ⟨i + 1, cur, ca, cc, by omega, by go_num, rfl, CL.out, CB.out, G4.out, S3.out, BW.out⟩
                  case measure => simp [intOf]; omega
              · have d1 : decide (x ≥ 0) = false := by simp; omega
                clear hnot q1
                go_wp2_with fail
                go_roundw
                case rel => exact ⟨i + 1, cur, ca, cc, by omega, by go_num, rfl, CL.out, CB.out, G4.out, S3.out, BW.out⟩
                case measure => simp [intOf]; omega
        · have hne : ((ys.length : Int) != 2) = true := by simp; omega
          clear hys hu0 hc0
          go_wp2_with fail
          refine (counted_calls wr).mono ?_
          rintro e w3 ⟨rfl, b3⟩
          go_wp2_with fail
          go_ret
          exact ⟨rfl, CN.out.trans (b3.mono CN.out.size)⟩
      · obtain rfl : i = yss.length := by omega
        have e1 : sumE cur = 0 := by simp [sumE, CB.out]
        have E1 := Lib.hid e1
        clear e1
        go_wp2_with fail
        refine (Sum_calls ca cur cc hcl8 wr CG.out.grid).mono ?_
        rintro e w3 ⟨rfl, b3⟩
        rw [E1.out]
        have b4 : Below wr.heap.size wr (w3.alloc (Obj.cells #[.int .u64 (sumK cur 0), .int .u64 (sumK cur 1), .int .u64 (sumK cur 2), .int .u64 (sumK cur 3), .int .u64 (sumK cur 4), .int .u64 (sumK cur 5)] 41)) := b3.alloc b3.size _
        have s4 : Blk w3.heap.size 41 (uv (sums cur)) (w3.alloc (Obj.cells #[.int .u64 (sumK cur 0), .int .u64 (sumK cur 1), .int .u64 (sumK cur 2), .int .u64 (sumK cur 3), .int .u64 (sumK cur 4), .int .u64 (sumK cur 5)] 41)) := heap_alloc_new _ _
        have B4 := Lib.hid (CN.out.trans (b4.mono CN.out.size))
        have G4 := Lib.hid (CG.out.grid.below b4)
        have S4 := Lib.hid s4
        have W4 := Lib.hid (CS.out.below b4 CS.out.lt)
        clear b3 b4 s4
        go_wp2_with fail
        generalize w3.alloc (Obj.cells #[.int .u64 (sumK cur 0), .int .u64 (sumK cur 1), .int .u64 (sumK cur 2), .int .u64 (sumK cur 3), .int .u64 (sumK cur 4), .int .u64 (sumK cur 5)] 41) = w4 at *
        generalize w3.heap.size = g4 at *
        refine (counted_calls w4).mono ?_
        rintro e w8 ⟨rfl, b8⟩
        have B8 := Lib.hid (B4.out.trans (b8.mono B4.out.size))
        have G8 := Lib.hid (G4.out.below b8)
        have s4 := S4.out.below b8 S4.out.lt
        have s6 := W4.out.below b8 W4.out.lt
        have z0 := (s4.at (k := 0) rfl).1
        have z1 := (s4.at (k := 1) rfl).1
        have z2 := (s4.at (k := 2) rfl).1
        have z3 := (s4.at (k := 3) rfl).1
        have z4 := (s4.at (k := 4) rfl).1
        have z5 := (s4.at (k := 5) rfl).1
        have y0 := (s6.at (k := 0) rfl).1
        have y1 := (s6.at (k := 1) rfl).1
        have y2 := (s6.at (k := 2) rfl).1
        have y3 := (s6.at (k := 3) rfl).1
        have y4 := (s6.at (k := 4) rfl).1
        have y5 := (s6.at (k := 5) rfl).1
        have heq := eq6_agree w8 (sumK cur) (sumK cur)
        rw [agree_of (fun _ _ => rfl)] at heq
        clear b8 B4 G4 S4 W4 s4 s6 CG CS CN
        go_wp2_with fail
        refine (Is_calls ca cur cc hcl8 w8 G8.out).mono ?_
        rintro e w9 ⟨rfl, hw⟩
        obtain rfl := hw.symm
        rw [CB.out]
        clear hw
        go_wp2_with fail
        go_ret
        exact ⟨rfl, B8.out⟩
  · by_cases hE : newE n = 0
    · have d0 : decide ((yss.length : Int) > 300) = true := by
        simp only [decide_eq_true_eq]
        have : ¬ yss.length ≤ 300 := fun q => h ⟨hE, q⟩
        omega
      rw [hE] at hN
      clear h hE
      go_enter Try.func10, Try.ntmps10
      go_wp2_with fail
      refine hN.mono ?_
      rintro e w1 ⟨v, rfl, ⟨a1, c1, rfl, _, _, _⟩, b1⟩
      go_wp2_with fail
      refine (counted_calls w1).mono ?_
      rintro e w3 ⟨rfl, b3⟩
      go_wp2_with fail
      go_ret
      exact ⟨rfl, b1.trans (b3.mono b1.size)⟩
    · have hE1 : newE n = 1 := by
        by_cases q : n < 1 ∨ 8 < n
        · simp [newE, q]
        · exact absurd (by simp [newE, q]) hE
      rw [hE1] at hN
      clear h hE hE1
      go_enter Try.func10, Try.ntmps10
      go_wp2_with fail
      refine hN.mono ?_
      rintro e w1 ⟨v, rfl, ⟨a1, c1, rfl, _, _, _⟩, b1⟩
      go_wp2_with fail
      refine (counted_calls w1).mono ?_
      rintro e w3 ⟨rfl, b3⟩
      go_wp2_with fail
      go_ret
      exact ⟨rfl, b1.trans (b3.mono b1.size)⟩

end Go.Proofs.Ytfegglolblglpaa

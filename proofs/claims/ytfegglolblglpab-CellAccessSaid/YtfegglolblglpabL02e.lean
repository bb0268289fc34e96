/-
  The walk of told: what a row of accesses of a cell tells.
-/
import Derived.Test.YtfegglolblglpabT02
import Derived.StillTailTactics
namespace Go.Proofs.Ytfegglolblglpab
open Go.RowKit
set_option linter.unusedVariables false

theorem stp_0 {k a b n : Int} (h : k = 0) : stp k a b n = (n, n) := by simp [stp, h]
theorem stp_1 {k a b n : Int} (h : k = 1) : stp k a b n = (0, a) := by simp [stp, h]
theorem stp_2 {k a b n : Int} (h : k = 2) : stp k a b n = (n, a) := by simp [stp, h]
theorem stp_3 {k a b n : Int} (h0 : k ≠ 0) (h1 : k ≠ 1) (h2 : k ≠ 2) (h : n = a) : stp k a b n = (1, b) := by simp [stp, h0, h1, h2, h]
theorem stp_4 {k a b n : Int} (h0 : k ≠ 0) (h1 : k ≠ 1) (h2 : k ≠ 2) (h : n ≠ a) : stp k a b n = (0, n) := by simp [stp, h0, h1, h2, h]

theorem st_next {v : Int} {ks us bs : List Int} {i : Nat} {k a b x y : Int} (hk : ks[i]? = some k) (ha : us[i]? = some a) (hb : bs[i]? = some b) (hs : stp k a b (st v ks us bs i).2 = (x, y)) :
    (st v ks us bs (i + 1)).1 = (st v ks us bs i).1 ++ [x] ∧ (st v ks us bs (i + 1)).2 = y := by
  simp [st, List.getD, hk, ha, hb, hs]

set_option maxRecDepth 100000 in
set_option maxHeartbeats 4000000 in
theorem told_calls (W : World) (c : Nat) (v : Int) (ka aa ba : Option Addr) (ks us bs : List Int) (kc ac bc : Nat) (hl : ks.length ≤ 1000) (hla : us.length = ks.length) (hlb : bs.length = ks.length)
    (hK : Cells W ka (iv ks)) (hA : Cells W aa (iv us)) (hB : Cells W ba (iv bs)) (w : World) (hw : Below W.heap.size W w) (hc : W.heap.size ≤ c) (h : Cell c v 0 w) :
    Calls Try.prog 14 #[.pointer (some ⟨c, 0, none⟩), .slice ka ks.length kc, .slice aa us.length ac, .slice ba bs.length bc] w (fun e w' => ∃ ov, e = .returned ov ∧ Ints (st v ks us bs ks.length).1 ov w' ∧ Cell c (st v ks us bs ks.length).2 ks.length w' ∧ Below W.heap.size W w') := by
  obtain ⟨i0, hi, hz0, hz1, hz2⟩ := info_parts Try.info3
  have o1 : OutOk c v 0 w.heap.size (.slice (some ⟨w.heap.size, 0, none⟩) 0 0) [] (w.alloc (.cells #[] 3)) := by
    obtain ⟨b, h⟩ := h
    have hc : c < w.heap.size := (Array.getElem?_eq_some_iff.1 h.1).1
    refine ⟨b, h.below ((Below.refl _ _).alloc (Nat.le_refl _) _) hc h.2.1.lt, World.ownsRow_made w #[] 0 (Nat.le_refl _) (by simp [maxLen]) rfl, ?_, hc, by simp⟩
    have := h.2.1.lt
    simp [Value.ownBlock]; omega
  have hWB := hw.size
  have O1 := Lib.hid o1
  have B1 := Lib.hid (hw.alloc hw.size (.cells #[] 3))
  have HLA := Lib.hid hla
  have HLB := Lib.hid hlb
  clear o1 h hw hla hlb
  go_enter Try.func14, Try.ntmps14
  go_wp2_with fail
  generalize hbb : w.heap.size = B at *
  clear hbb
  go_loopw [9, 10] (fun ov kv wr => ∃ (i : Nat), i ≤ ks.length ∧ kv = .int .i64 i ∧ OutOk c (st v ks us bs i).2 i B ov (st v ks us bs i).1 wr ∧ Below W.heap.size W wr)
    (fun _ kv _ => ks.length - (intOf kv).toNat)
  case atStart => exact ⟨0, Nat.zero_le _, rfl, O1.out, B1.out⟩
  case round =>
    obtain ⟨i, hi', rfl, hO, hB0⟩ := hrel
    have O0 := Lib.hid hO
    have B0 := Lib.hid hB0
    clear hO hB0
    by_cases q1 : i < ks.length
    · obtain ⟨kd, hk⟩ := get_of_lt q1
      obtain ⟨av, ha⟩ := get_of_lt (xs := us) (k := i) (by rw [HLA.out]; exact q1)
      obtain ⟨bv', hb⟩ := get_of_lt (xs := bs) (k := i) (by rw [HLB.out]; exact q1)
      obtain ⟨p1, o1, rfl, KC⟩ := hK _ _ (iv_get hk)
      obtain ⟨p2, o2, rfl, AC⟩ := hA _ _ (iv_get ha)
      obtain ⟨p3, o3, rfl, BC⟩ := hB _ _ (iv_get hb)
      have hla' : (i : Int) < (us.length : Int) := by rw [HLA.out]; omega
      have hlb' : (i : Int) < (bs.length : Int) := by rw [HLB.out]; omega
      have HK := Lib.hid hk
      have HA := Lib.hid ha
      have HB := Lib.hid hb
      have HL := Lib.hid (st_length v ks us bs i)
      have HI := Lib.hid (inc64_in (k := i) (by omega))
      have KC0 := cell_in' B0.out KC
      have AC0 := cell_in' B0.out AC
      have BC0 := cell_in' B0.out BC
      clear hk ha hb
      by_cases k0 : kd = 0
      · have HS := Lib.hid (st_next HK.out HA.out HB.out (stp_0 (n := (st v ks us bs i).2) k0))
        have t0 : ((kd : Int) == 0) = true := by simp [k0]
        have K0 := Lib.hid k0
        clear k0
        go_wp2_with fail
        refine (Load_out O0.out).mono ?_
        rintro e w2 ⟨rfl, oo, l⟩
        have B2 := Lib.hid (l.below B0.out B0.out.size hc)
        rw [HI.out] at oo
        have O2 := Lib.hid oo
        clear oo l B0 O0 KC0 AC0 BC0
        go_wp2_with (at_builtin; refine wpList_append_own_at _ rfl _ _ 22 rfl B 3 i0 (.int .i64 0) 1 8 Try.underlying22 hi hz0 hz1 hz2 rfl (by decide) _ _ _ rfl (O2.out.alloc _).row ⟨w2.heap.size, 0, none⟩ 1 1 [.int .i64 ((st v ks us bs i).2)] rfl rfl (cell_one_new _ _ _) (by simp [Value.oneCell']) (by unfold maxLen; rw [HL.out]; omega) (by rw [HL.out]; omega) (by have := (O2.out.alloc (.cells #[.int .i64 ((st v ks us bs i).2)] 3)); obtain ⟨_, _, _, _, _, hh⟩ := this; exact hh) ?_; intro v' w3 hown' hgrow _ hat)
        go_roundw
        case rel =>
          rw [iv_snoc, ← HS.out.1] at hown'
          refine ⟨i + 1, by omega, by go_num, ?_, ?_⟩
          · rw [HS.out.2]; exact (O2.out.alloc _).grown hown' (by rw [HL.out, st_length]) hgrow hat
          · exact (O2.out.alloc (.cells #[.int .i64 ((st v ks us bs i).2)] 3)).left hgrow (B2.out.alloc B2.out.size _) hWB
        case measure => simp [intOf]; omega
      · have t0 : ((kd : Int) == 0) = false := by simpa using k0
        by_cases k1 : kd = 1
        · have HS := Lib.hid (st_next HK.out HA.out HB.out (stp_1 (n := (st v ks us bs i).2) k1))
          have t1 : ((kd : Int) == 1) = true := by simp [k1]
          have K1 := Lib.hid k1
          clear k1 k0
          go_wp2_with fail
          refine (Store_out av O0.out).mono ?_
          rintro e w2 ⟨rfl, oo, l⟩
          have B2 := Lib.hid (l.below B0.out B0.out.size hc)
          rw [HI.out] at oo
          have O2 := Lib.hid oo
          clear oo l B0 O0 KC0 AC0 BC0
          go_wp2_with (at_builtin; refine wpList_append_own_at _ rfl _ _ 22 rfl B 3 i0 (.int .i64 0) 1 8 Try.underlying22 hi hz0 hz1 hz2 rfl (by decide) _ _ _ rfl (O2.out.alloc _).row ⟨w2.heap.size, 0, none⟩ 1 1 [.int .i64 (0)] rfl rfl (cell_one_new _ _ _) (by simp [Value.oneCell']) (by unfold maxLen; rw [HL.out]; omega) (by rw [HL.out]; omega) (by have := (O2.out.alloc (.cells #[.int .i64 (0)] 3)); obtain ⟨_, _, _, _, _, hh⟩ := this; exact hh) ?_; intro v' w3 hown' hgrow _ hat)
          go_roundw
          case rel =>
            rw [iv_snoc, ← HS.out.1] at hown'
            refine ⟨i + 1, by omega, by go_num, ?_, ?_⟩
            · rw [HS.out.2]; exact (O2.out.alloc _).grown hown' (by rw [HL.out, st_length]) hgrow hat
            · exact (O2.out.alloc (.cells #[.int .i64 (0)] 3)).left hgrow (B2.out.alloc B2.out.size _) hWB
          case measure => simp [intOf]; omega
        · have t1 : ((kd : Int) == 1) = false := by simpa using k1
          by_cases k2 : kd = 2
          · have HS := Lib.hid (st_next HK.out HA.out HB.out (stp_2 (n := (st v ks us bs i).2) k2))
            have t2 : ((kd : Int) == 2) = true := by simp [k2]
            have K2 := Lib.hid k2
            clear k2 k1 k0
            go_wp2_with fail
            refine (Swap_out av O0.out).mono ?_
            rintro e w2 ⟨rfl, oo, l⟩
            have B2 := Lib.hid (l.below B0.out B0.out.size hc)
            rw [HI.out] at oo
            have O2 := Lib.hid oo
            clear oo l B0 O0 KC0 AC0 BC0
            go_wp2_with (at_builtin; refine wpList_append_own_at _ rfl _ _ 22 rfl B 3 i0 (.int .i64 0) 1 8 Try.underlying22 hi hz0 hz1 hz2 rfl (by decide) _ _ _ rfl (O2.out.alloc _).row ⟨w2.heap.size, 0, none⟩ 1 1 [.int .i64 ((st v ks us bs i).2)] rfl rfl (cell_one_new _ _ _) (by simp [Value.oneCell']) (by unfold maxLen; rw [HL.out]; omega) (by rw [HL.out]; omega) (by have := (O2.out.alloc (.cells #[.int .i64 ((st v ks us bs i).2)] 3)); obtain ⟨_, _, _, _, _, hh⟩ := this; exact hh) ?_; intro v' w3 hown' hgrow _ hat)
            go_roundw
            case rel =>
              rw [iv_snoc, ← HS.out.1] at hown'
              refine ⟨i + 1, by omega, by go_num, ?_, ?_⟩
              · rw [HS.out.2]; exact (O2.out.alloc _).grown hown' (by rw [HL.out, st_length]) hgrow hat
              · exact (O2.out.alloc (.cells #[.int .i64 ((st v ks us bs i).2)] 3)).left hgrow (B2.out.alloc B2.out.size _) hWB
            case measure => simp [intOf]; omega
          · have t2 : ((kd : Int) == 2) = false := by simpa using k2
            by_cases hq : (st v ks us bs i).2 = av
            · have HS := Lib.hid (st_next HK.out HA.out HB.out (stp_3 k0 k1 k2 hq))
              have QQ := Lib.hid hq
              clear hq k0 k1 k2
              have OD := Lib.hid (show OutOk c (st v ks us bs i).2 i B _ (st v ks us bs i).1 wr.drew from O0.out)
              have BD := Lib.hid B0.out.drew
              have AD : wr.drew.cell? ⟨p2, o2 + i, none⟩ = some (.int .i64 av) := AC0
              have CD : wr.drew.cell? ⟨p3, o3 + i, none⟩ = some (.int .i64 bv') := BC0
              go_wp2_with fail
              go_still_tail 9, (by kernel_rfl)
              change wpList _ _ _ _ _ wr.drew
              generalize wr.drew = wd at *
              go_wp2_with fail
              refine (Cas_out av bv' OD.out).mono ?_
              rintro e w2 ⟨rfl, oo, l⟩
              rw [show ((st v ks us bs i).2 == av) = true by simp [QQ.out]]
              have B2 := Lib.hid (l.below BD.out BD.out.size hc)
              rw [HI.out] at oo
              rw [if_pos QQ.out] at oo
              have O2 := Lib.hid oo
              clear oo l B0 O0 KC0 AC0 BC0 OD BD AD CD
              go_wp2_with (at_builtin; refine wpList_append_own_at _ rfl _ _ 22 rfl B 3 i0 (.int .i64 0) 1 8 Try.underlying22 hi hz0 hz1 hz2 rfl (by decide) _ _ _ rfl (O2.out.alloc _).row ⟨w2.heap.size, 0, none⟩ 1 1 [.int .i64 (1)] rfl rfl (cell_one_new _ _ _) (by simp [Value.oneCell']) (by unfold maxLen; rw [HL.out]; omega) (by rw [HL.out]; omega) (by have := (O2.out.alloc (.cells #[.int .i64 (1)] 3)); obtain ⟨_, _, _, _, _, hh⟩ := this; exact hh) ?_; intro v' w3 hown' hgrow _ hat)
              go_roundw
              case rel =>
                rw [iv_snoc, ← HS.out.1] at hown'
                refine ⟨i + 1, by omega, by go_num, ?_, ?_⟩
                · rw [HS.out.2]; exact (O2.out.alloc _).grown hown' (by rw [HL.out, st_length]) hgrow hat
                · exact (O2.out.alloc (.cells #[.int .i64 (1)] 3)).left hgrow (B2.out.alloc B2.out.size _) hWB
              case measure => simp [intOf]; omega
            · have HS := Lib.hid (st_next HK.out HA.out HB.out (stp_4 k0 k1 k2 hq))
              have QQ := Lib.hid hq
              clear hq k0 k1 k2
              have OD := Lib.hid (show OutOk c (st v ks us bs i).2 i B _ (st v ks us bs i).1 wr.drew from O0.out)
              have BD := Lib.hid B0.out.drew
              have AD : wr.drew.cell? ⟨p2, o2 + i, none⟩ = some (.int .i64 av) := AC0
              have CD : wr.drew.cell? ⟨p3, o3 + i, none⟩ = some (.int .i64 bv') := BC0
              go_wp2_with fail
              go_still_tail 9, (by kernel_rfl)
              change wpList _ _ _ _ _ wr.drew
              generalize wr.drew = wd at *
              go_wp2_with fail
              refine (Cas_out av bv' OD.out).mono ?_
              rintro e w2 ⟨rfl, oo, l⟩
              rw [show ((st v ks us bs i).2 == av) = false by simpa using QQ.out]
              have B2 := Lib.hid (l.below BD.out BD.out.size hc)
              rw [HI.out] at oo
              rw [if_neg QQ.out] at oo
              have O2 := Lib.hid oo
              clear oo l B0 O0 KC0 AC0 BC0 OD BD AD CD
              go_wp2_with (at_builtin; refine wpList_append_own_at _ rfl _ _ 22 rfl B 3 i0 (.int .i64 0) 1 8 Try.underlying22 hi hz0 hz1 hz2 rfl (by decide) _ _ _ rfl (O2.out.alloc _).row ⟨w2.heap.size, 0, none⟩ 1 1 [.int .i64 (0)] rfl rfl (cell_one_new _ _ _) (by simp [Value.oneCell']) (by unfold maxLen; rw [HL.out]; omega) (by rw [HL.out]; omega) (by have := (O2.out.alloc (.cells #[.int .i64 (0)] 3)); obtain ⟨_, _, _, _, _, hh⟩ := this; exact hh) ?_; intro v' w3 hown' hgrow _ hat)
              go_roundw
              case rel =>
                rw [iv_snoc, ← HS.out.1] at hown'
                refine ⟨i + 1, by omega, by go_num, ?_, ?_⟩
                · rw [HS.out.2]; exact (O2.out.alloc _).grown hown' (by rw [HL.out, st_length]) hgrow hat
                · exact (O2.out.alloc (.cells #[.int .i64 (0)] 3)).left hgrow (B2.out.alloc B2.out.size _) hWB
              case measure => simp [intOf]; omega
    · obtain rfl : i = ks.length := by omega
      go_wp2_with fail
      go_ret
      obtain ⟨a', cap', e1, e2, e3, e4, _⟩ := Cells.of_ownsRow O0.out.row
      rw [iv_length] at e1 e2
      exact ⟨_, rfl, ⟨a', cap', e1, e2, e3, e4⟩, O0.out.cell, B0.out⟩

end Go.Proofs.Ytfegglolblglpab

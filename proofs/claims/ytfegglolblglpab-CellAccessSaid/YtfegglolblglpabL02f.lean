/-
  The walk of the document's own Told.
-/
import Derived.Test.YtfegglolblglpabL02e
namespace Go.Proofs.Ytfegglolblglpab
open Go.RowKit
set_option linter.unusedVariables false

theorem st_own {v : Int} {ks us bs : List Int} {i B : Nat} {ov : Value} {w : World} (h : w.ownsRow B 3 1 ov i (iv (st v ks us bs i).1)) : w.ownsRow B 3 1 ov i (iv (st v ks us bs i).1) := h

set_option maxRecDepth 100000 in
set_option maxHeartbeats 4000000 in
theorem refTold_calls (v : Int) (ka aa ba : Option Addr) (ks us bs : List Int) (kc ac bc : Nat) (hl : ks.length ≤ 1000) (hla : us.length = ks.length) (hlb : bs.length = ks.length) (w : World)
    (hK : Cells w ka (iv ks)) (hA : Cells w aa (iv us)) (hB : Cells w ba (iv bs)) :
    Calls Try.prog 15 #[.int .i64 v, .slice ka ks.length kc, .slice aa us.length ac, .slice ba bs.length bc] w (GivesE w (Ints (st v ks us bs ks.length).1) (st v ks us bs ks.length).2) := by
  obtain ⟨i0, hi, hz0, hz1, hz2⟩ := info_parts Try.info3
  have HLA := Lib.hid hla
  have HLB := Lib.hid hlb
  clear hla hlb
  go_enter Try.func15, Try.ntmps15
  go_wp2_with fail
  go_loopw [0, 10, 11] (fun nv ov kv wr => ∃ (i : Nat), i ≤ ks.length ∧ kv = .int .i64 i ∧ nv = .int .i64 (st v ks us bs i).2 ∧ wr.ownsRow w.heap.size 3 1 ov i (iv (st v ks us bs i).1) ∧ Below w.heap.size w wr)
    (fun _ _ kv _ => ks.length - (intOf kv).toNat)
  case atStart => exact ⟨0, Nat.zero_le _, rfl, rfl, World.ownsRow_made w #[] 0 (Nat.le_refl _) (by simp [maxLen]) rfl, (Below.refl _ _).alloc (Nat.le_refl _) _⟩
  case round =>
    obtain ⟨i, hi', rfl, rfl, hO, hB0⟩ := hrel
    have O0 := Lib.hid hO
    have B0 := Lib.hid hB0
    clear hO hB0
    by_cases q1 : i < ks.length
    · obtain ⟨kd, hk⟩ := get_of_lt q1
      obtain ⟨av, ha⟩ := get_of_lt (xs := us) (k := i) (by rw [HLA.out]; exact q1)
      obtain ⟨bv', hb⟩ := get_of_lt (xs := bs) (k := i) (by rw [HLB.out]; exact q1)
      obtain ⟨p1, o1, rfl, KC⟩ := hK _ _ (iv_get hk)
      obtain ⟨p2, o2, rfl, AC⟩ := hA _ _ (iv_get ha)
      obtain ⟨p3, o3, rfl, BC⟩ := hB _ _ (iv_get hb)
      have hla' : (i : Int) < (us.length : Int) := by rw [HLA.out]; omega
      have hlb' : (i : Int) < (bs.length : Int) := by rw [HLB.out]; omega
      have HK := Lib.hid hk
      have HA := Lib.hid ha
      have HB := Lib.hid hb
      have KC0 := cell_in' B0.out KC
      have AC0 := cell_in' B0.out AC
      have BC0 := cell_in' B0.out BC
      clear hk ha hb
      by_cases k0 : kd = 0
      · have HS := Lib.hid (st_next HK.out HA.out HB.out (stp_0 (n := (st v ks us bs i).2) k0))
        have t0 : ((kd : Int) == 0) = true := by simp [k0]
        have K0 := Lib.hid k0
        clear k0
        have hsz := B0.out.size
        go_wp2_with (at_builtin; refine wpList_append_own _ rfl _ _ 22 rfl w.heap.size 3 i0 (.int .i64 0) 1 8 Try.underlying22 hi hz0 hz1 hz2 rfl (by decide) _ _ _ rfl (O0.out.alloc _) ⟨wr.heap.size, 0, none⟩ 1 1 [.int .i64 ((st v ks us bs i).2)] rfl rfl (cell_one_new _ _ _) (by simp [Value.oneCell']) (by unfold maxLen; omega) (by omega) (by simp; omega) ?_; intro v' w3 hown' hgrow _; have B3 := Lib.hid ((B0.out.alloc B0.out.size (.cells #[.int .i64 ((st v ks us bs i).2)] 3)).grown hgrow (by simp; omega) (fun j e => (O0.out.lt j e).1)); have AC3 := cell_in' B3.out AC; have BC3 := cell_in' B3.out BC; have O3 := Lib.hid hown'; clear hown' hgrow AC0 BC0 KC0 O0)
        go_roundw
        case rel =>
          have hown' := O3.out
          rw [iv_snoc, ← HS.out.1] at hown'
          exact ⟨i + 1, by omega, by go_num, by rw [HS.out.2], hown', B3.out⟩
        case measure => simp [intOf]; omega
      · have t0 : ((kd : Int) == 0) = false := by simpa using k0
        by_cases k1 : kd = 1
        · have HS := Lib.hid (st_next HK.out HA.out HB.out (stp_1 (n := (st v ks us bs i).2) k1))
          have t1 : ((kd : Int) == 1) = true := by simp [k1]
          have K1 := Lib.hid k1
          clear k1 k0
          have hsz := B0.out.size
          go_wp2_with (at_builtin; refine wpList_append_own _ rfl _ _ 22 rfl w.heap.size 3 i0 (.int .i64 0) 1 8 Try.underlying22 hi hz0 hz1 hz2 rfl (by decide) _ _ _ rfl (O0.out.alloc _) ⟨wr.heap.size, 0, none⟩ 1 1 [.int .i64 (0)] rfl rfl (cell_one_new _ _ _) (by simp [Value.oneCell']) (by unfold maxLen; omega) (by omega) (by simp; omega) ?_; intro v' w3 hown' hgrow _; have B3 := Lib.hid ((B0.out.alloc B0.out.size (.cells #[.int .i64 (0)] 3)).grown hgrow (by simp; omega) (fun j e => (O0.out.lt j e).1)); have AC3 := cell_in' B3.out AC; have BC3 := cell_in' B3.out BC; have O3 := Lib.hid hown'; clear hown' hgrow AC0 BC0 KC0 O0)
          go_roundw
          case rel =>
            have hown' := O3.out
            rw [iv_snoc, ← HS.out.1] at hown'
            exact ⟨i + 1, by omega, by go_num, by rw [HS.out.2], hown', B3.out⟩
          case measure => simp [intOf]; omega
        · have t1 : ((kd : Int) == 1) = false := by simpa using k1
          by_cases k2 : kd = 2
          · have HS := Lib.hid (st_next HK.out HA.out HB.out (stp_2 (n := (st v ks us bs i).2) k2))
            have t2 : ((kd : Int) == 2) = true := by simp [k2]
            have K2 := Lib.hid k2
            clear k2 k1 k0
            have hsz := B0.out.size
            go_wp2_with (at_builtin; refine wpList_append_own _ rfl _ _ 22 rfl w.heap.size 3 i0 (.int .i64 0) 1 8 Try.underlying22 hi hz0 hz1 hz2 rfl (by decide) _ _ _ rfl (O0.out.alloc _) ⟨wr.heap.size, 0, none⟩ 1 1 [.int .i64 ((st v ks us bs i).2)] rfl rfl (cell_one_new _ _ _) (by simp [Value.oneCell']) (by unfold maxLen; omega) (by omega) (by simp; omega) ?_; intro v' w3 hown' hgrow _; have B3 := Lib.hid ((B0.out.alloc B0.out.size (.cells #[.int .i64 ((st v ks us bs i).2)] 3)).grown hgrow (by simp; omega) (fun j e => (O0.out.lt j e).1)); have AC3 := cell_in' B3.out AC; have BC3 := cell_in' B3.out BC; have O3 := Lib.hid hown'; clear hown' hgrow AC0 BC0 KC0 O0)
            go_roundw
            case rel =>
              have hown' := O3.out
              rw [iv_snoc, ← HS.out.1] at hown'
              exact ⟨i + 1, by omega, by go_num, by rw [HS.out.2], hown', B3.out⟩
            case measure => simp [intOf]; omega
          · have t2 : ((kd : Int) == 2) = false := by simpa using k2
            by_cases hq : (st v ks us bs i).2 = av
            · have HS := Lib.hid (st_next HK.out HA.out HB.out (stp_3 k0 k1 k2 hq))
              have hqb : ((st v ks us bs i).2 == av) = true := by simp [hq]
              have QQ := Lib.hid hq
              clear hq k0 k1 k2
              have hsz := B0.out.size
              go_wp2_with (at_builtin; refine wpList_append_own _ rfl _ _ 22 rfl w.heap.size 3 i0 (.int .i64 0) 1 8 Try.underlying22 hi hz0 hz1 hz2 rfl (by decide) _ _ _ rfl (O0.out.alloc _) ⟨wr.heap.size, 0, none⟩ 1 1 [.int .i64 (1)] rfl rfl (cell_one_new _ _ _) (by simp [Value.oneCell']) (by unfold maxLen; omega) (by omega) (by simp; omega) ?_; intro v' w3 hown' hgrow _; have B3 := Lib.hid ((B0.out.alloc B0.out.size (.cells #[.int .i64 (1)] 3)).grown hgrow (by simp; omega) (fun j e => (O0.out.lt j e).1)); have AC3 := cell_in' B3.out AC; have BC3 := cell_in' B3.out BC; have O3 := Lib.hid hown'; clear hown' hgrow AC0 BC0 KC0 O0)
              go_roundw
              case rel =>
                have hown' := O3.out
                rw [iv_snoc, ← HS.out.1] at hown'
                exact ⟨i + 1, by omega, by go_num, by rw [HS.out.2], hown', B3.out⟩
              case measure => simp [intOf]; omega
            · have HS := Lib.hid (st_next HK.out HA.out HB.out (stp_4 k0 k1 k2 hq))
              have hqb : ((st v ks us bs i).2 == av) = false := by simpa using hq
              have QQ := Lib.hid hq
              clear hq k0 k1 k2
              have hsz := B0.out.size
              go_wp2_with (at_builtin; refine wpList_append_own _ rfl _ _ 22 rfl w.heap.size 3 i0 (.int .i64 0) 1 8 Try.underlying22 hi hz0 hz1 hz2 rfl (by decide) _ _ _ rfl (O0.out.alloc _) ⟨wr.heap.size, 0, none⟩ 1 1 [.int .i64 (0)] rfl rfl (cell_one_new _ _ _) (by simp [Value.oneCell']) (by unfold maxLen; omega) (by omega) (by simp; omega) ?_; intro v' w3 hown' hgrow _; have B3 := Lib.hid ((B0.out.alloc B0.out.size (.cells #[.int .i64 (0)] 3)).grown hgrow (by simp; omega) (fun j e => (O0.out.lt j e).1)); have AC3 := cell_in' B3.out AC; have BC3 := cell_in' B3.out BC; have O3 := Lib.hid hown'; clear hown' hgrow AC0 BC0 KC0 O0)
              go_roundw
              case rel =>
                have hown' := O3.out
                rw [iv_snoc, ← HS.out.1] at hown'
                exact ⟨i + 1, by omega, by go_num, by rw [HS.out.2], hown', B3.out⟩
              case measure => simp [intOf]; omega
    · obtain rfl : i = ks.length := by omega
      go_wp2_with fail
      go_ret2
      obtain ⟨a', cap', e1, e2, e3, e4, _⟩ := Cells.of_ownsRow (st_own O0.out)
      rw [iv_length, st_length] at e1
      rw [iv_length] at e2
      subst e1
      exact ⟨.slice a' (st v ks us bs ks.length).1.length cap', by rw [st_length]; rfl, ⟨a', cap', rfl, e2, e3, e4⟩, B0.out⟩

end Go.Proofs.Ytfegglolblglpab

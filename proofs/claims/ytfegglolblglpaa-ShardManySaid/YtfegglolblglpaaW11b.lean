/-
  The walk of the comparing of rows of rows, and of shard.Sum and the document's own.
-/
import Derived.Test.YtfegglolblglpaaW11
import Derived.RegionTactic
namespace Go.Proofs.Ytfegglolblglpaa
open Go.RowKit
set_option linter.unusedVariables false

def eqG (xss yss : List (List Int)) : Bool := decide (xss = yss)

set_option maxRecDepth 100000 in
set_option maxHeartbeats 2000000 in
theorem SameG_calls (a b : Option Addr) (xss yss : List (List Int)) (ca cb : Nat) (hl : xss.length ≤ 9223372036854775807) (hr : ∀ r ∈ xss, r.length ≤ 9223372036854775807) (w : World) (hA : Grid w a xss) (hB : Grid w b yss) :
    Calls Try.prog 31 #[.slice a xss.length ca, .slice b yss.length cb] w fun e w' => e = .returned (.bool (eqG xss yss)) ∧ Below w.heap.size w w' := by
  by_cases he : xss.length = yss.length
  · have he1 : ((xss.length : Int) != (yss.length : Int)) = false := by simp [he]
    have HE := Lib.hid he
    have HR := Lib.hid hr
    clear he hr
    go_enter Try.func31, Try.ntmps31
    go_wp2
    go_loopw [5] (fun i wr => ∃ k : Nat, k ≤ xss.length ∧ i = .int .i64 k ∧ xss.take k = yss.take k ∧ Below w.heap.size w wr)
      (fun i _ => xss.length - (intOf i).toNat)
    case atStart => exact ⟨0, Nat.zero_le _, rfl, by simp, Below.refl _ _⟩
    case round =>
      obtain ⟨i, hi, rfl, ht, hnx⟩ := hrel
      have HT := Lib.hid ht
      clear ht
      by_cases hlt : i < xss.length
      · obtain ⟨xs, hx⟩ := get_of_lt hlt
        obtain ⟨ys, hy⟩ := get_of_lt (xs := yss) (k := i) (by rw [← HE.out]; exact hlt)
        have hxl : xs.length ≤ 9223372036854775807 := HR.out xs (List.mem_of_getElem? hx)
        obtain ⟨b1, o1, a1, c1, rfl, hc1, hu1⟩ := (hA.below hnx).at hx
        obtain ⟨b2, o2, a2, c2, rfl, hc2, hu2⟩ := (hB.below hnx).at hy
        have hlt2 : (i : Int) < (yss.length : Int) := by have := HE.out; omega
        have hlt1 : (i : Int) < (xss.length : Int) := by omega
        have HX := Lib.hid hx
        have HY := Lib.hid hy
        have HN := Lib.hid hnx
        clear hx hy hnx
        by_cases hlen : xs.length = ys.length
        · have hn1 : ((xs.length : Int) != (ys.length : Int)) = false := by simp [hlen]
          have HL := Lib.hid hlen
          clear hlen
          go_wp2_with fail
          go_quiet (fail)
          go_wp2_with fail
          have hu1' := hu1.below (below_drewN (Below.refl _ wr) nq)
          have hu2' := hu2.below (below_drewN (Below.refl _ wr) nq)
          have hc1' : (wr.drewN nq).cell? ⟨b1, o1 + i, none⟩ = some (.slice a1 xs.length c1) := hc1
          have hc2' : (wr.drewN nq).cell? ⟨b2, o2 + i, none⟩ = some (.slice a2 ys.length c2) := hc2
          have hN' := below_drewN HN.out nq
          clear hu1 hu2 hc1 hc2
          obtain ⟨wo, hwo⟩ : ∃ wo : World, wr.drewN nq = wo := ⟨_, rfl⟩
          rw [hwo] at hu1' hu2' hc1' hc2' hN' ⊢
          clear hwo
          have HN2 := Lib.hid hN'
          clear hN'
          go_loopw [6] (fun kv wk => ∃ k : Nat, k ≤ xs.length ∧ kv = .int .i64 k ∧ xs.take k = ys.take k ∧ Below wo.heap.size wo wk)
            (fun kv _ => xs.length - (intOf kv).toNat)
          case atStart => exact ⟨0, Nat.zero_le _, rfl, by simp, Below.refl _ _⟩
          case round =>
            obtain ⟨k, hk, rfl, htk, hnk⟩ := hrel
            have HTK := Lib.hid htk
            clear htk
            have d1 : wr.cell? ⟨b1, o1 + i, none⟩ = some (.slice a1 xs.length c1) := by rw [hnk.cell (World.block_lt_of_cell? _ _ hc1')]; exact hc1'
            have d2 : wr.cell? ⟨b2, o2 + i, none⟩ = some (.slice a2 ys.length c2) := by rw [hnk.cell (World.block_lt_of_cell? _ _ hc2')]; exact hc2'
            by_cases hlk : k < xs.length
            · obtain ⟨x, hx⟩ := get_of_lt hlk
              obtain ⟨y, hy⟩ := get_of_lt (xs := ys) (k := k) (by rw [← HL.out]; exact hlk)
              obtain ⟨p1, q1, rfl, e1⟩ := (hu1'.below hnk) _ _ (uv_get hx)
              obtain ⟨p2, q2, rfl, e2⟩ := (hu2'.below hnk) _ _ (uv_get hy)
              have hk1 : (k : Int) < (xs.length : Int) := by omega
              have hk2 : (k : Int) < (ys.length : Int) := by have := HL.out; omega
              have HXK := Lib.hid hx
              have HYK := Lib.hid hy
              have HNK := Lib.hid hnk
              clear hx hy hnk
              by_cases hxy : x = y
              · have hb1 : (x != y) = false := by simp [hxy]
                have HXY := Lib.hid hxy
                clear hxy
                go_wp2_with fail
                go_quiet (fail)
                go_wp2
                go_roundw
                case rel =>
                  refine ⟨k + 1, by omega, by go_num, ?_, below_drewN HNK.out _⟩
                  rw [List.take_add_one, List.take_add_one, HTK.out, HXK.out, HYK.out, HXY.out]
                case measure => simp [intOf]; omega
              · have hb1 : (x != y) = true := by simp [hxy]
                have hres : eqG xss yss = false := by
                  simp only [eqG, decide_eq_false_iff_not]
                  rintro rfl
                  have h1 := HX.out
                  have h2 := HY.out
                  rw [h1] at h2
                  have := Option.some.inj h2
                  subst this
                  have h1 := HXK.out
                  have h2 := HYK.out
                  rw [h1] at h2
                  exact hxy (Option.some.inj h2)
                have HRS := Lib.hid hres
                clear hxy hres
                go_wp2_with fail
                go_quiet (fail)
                go_wp2
                go_ret
                exact ⟨ret_bool HRS.out.symm, below_drewN (HN2.out.trans (HNK.out.mono HN2.out.size)) _⟩
            · obtain rfl : k = xs.length := by omega
              have hxy : xs = ys := by
                have h1 := HTK.out
                have h2 := HL.out
                rwa [List.take_of_length_le (Nat.le_refl _), List.take_of_length_le (by omega)] at h1
              have HXY := Lib.hid hxy
              have HNK := Lib.hid hnk
              clear hxy hnk
              go_wp2_with fail
              go_roundw
              case rel =>
                refine ⟨i + 1, by omega, by go_num, ?_, HN2.out.trans (HNK.out.mono HN2.out.size)⟩
                rw [List.take_add_one, List.take_add_one, HT.out, HX.out, HY.out, HXY.out]
              case measure => simp [intOf]; omega
        · have hn1 : ((xs.length : Int) != (ys.length : Int)) = true := by simp; omega
          have hres : eqG xss yss = false := by
            simp only [eqG, decide_eq_false_iff_not]
            rintro rfl
            have h1 := HX.out
            have h2 := HY.out
            rw [h1] at h2
            have := Option.some.inj h2
            subst this
            exact hlen rfl
          have HRS := Lib.hid hres
          clear hlen hres
          go_wp2_with fail
          go_quiet (fail)
          go_wp2
          go_ret
          exact ⟨ret_bool HRS.out.symm, below_drewN HN.out _⟩
      · have hres : eqG xss yss = true := by
          have h1 := HT.out
          have h2 := HE.out
          rw [List.take_of_length_le (by omega), List.take_of_length_le (by omega)] at h1
          simp [eqG, h1]
        have HRS := Lib.hid hres
        clear hres
        go_wp2
        go_ret
        exact ⟨ret_bool HRS.out.symm, hnx⟩
  · have he1 : ((xss.length : Int) != (yss.length : Int)) = true := by simp; omega
    have hres : eqG xss yss = false := by
      simp only [eqG, decide_eq_false_iff_not]
      rintro rfl
      exact he rfl
    rw [hres]
    clear he hres
    go_enter Try.func31, Try.ntmps31
    go_wp2
    go_ret
    exact ⟨rfl, Below.refl _ _⟩

end Go.Proofs.Ytfegglolblglpaa

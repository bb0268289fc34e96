/-
  The walk of the statement TurnsSpread.
-/
import Derived.Test.YtfegglolblglpaaT12
import Derived.Test.YtfegglolblglpaaCount
import Derived.Deep.RegionHeld3
namespace Go.Proofs.Ytfegglolblglpaa
open Go.RowKit
set_option linter.unusedVariables false

/-- A walk's start up to Spread's answer, and 'turned' at once: the error, or too many endpoints, or tickets that go round. -/
theorem turnsSpread_off (c0 c1 c2 : Value) (a : Option Addr) (hs : List Bool) (cap : Nat) (hl3 : hs.length ≤ 17592186044416) (t : Nat) (ht : t < 18446744073709551616) (n : Int) (w : World) (hC : Cells w a (bv hs))
    (hoff : 1000 < hs.length ∨ spE hs n ≠ 0) :
    Calls Try.prog 5 #[.agg #[c0, c1, c2, .slice a hs.length cap], .int .u64 t, .int .i64 n] w fun e w' => e = .returned (.bool true) ∧ Below w.heap.size w w' := by
  have HT := Lib.hid ht
  clear ht
  have H0 : Below w.heap.size w (w.alloc (Obj.cells #[c0, c1, c2, Value.slice a hs.length cap] 24)) := (Below.refl _ w).alloc (Nat.le_refl _) _
  have B0 := Boxes.new w c0 c1 c2 (.slice a hs.length cap) 24
  by_cases hbig : 1000 < hs.length
  · clear hoff
    go_enter Try.func5, Try.ntmps5
    go_wp2_with fail
    refine (Spread_calls _ _ _ _ _ _ hl3 _ HT.out _ _ (hC.below H0)).mono ?_
    rintro e w1 ⟨v1, rfl, ⟨a1, cap1, rfl, _, _, D1⟩, hB1⟩
    have B1 := B0.below hB1
    have H1 := fur H0 hB1
    obtain ⟨b0, b1, b2, b3⟩ := B1
    clear B0 H0 hB1
    go_wp2_with fail
    refine (turned_calls _).mono ?_
    rintro e w2 ⟨rfl, hB2⟩
    go_wp2_with fail
    go_ret
    exact ⟨rfl, fur H1 hB2⟩
  · have hE : spE hs n ≠ 0 := hoff.resolve_left hbig
    have hsm : hs.length ≤ 1000 := by omega
    have he : (spE hs n != 0) = true := by simp [hE]
    clear hoff hbig hE
    go_enter Try.func5, Try.ntmps5
    go_wp2_with fail
    refine (Spread_calls _ _ _ _ _ _ hl3 _ HT.out _ _ (hC.below H0)).mono ?_
    rintro e w1 ⟨v1, rfl, ⟨a1, cap1, rfl, _, _, D1⟩, hB1⟩
    have B1 := B0.below hB1
    have H1 := fur H0 hB1
    obtain ⟨b0, b1, b2, b3⟩ := B1
    clear B0 H0 hB1
    go_wp2_with fail
    refine (turned_calls _).mono ?_
    rintro e w2 ⟨rfl, hB2⟩
    go_wp2_with fail
    go_ret
    exact ⟨rfl, fur H1 hB2⟩

set_option maxRecDepth 100000 in
set_option maxHeartbeats 4000000 in
theorem turnsSpread_on (c0 c1 c2 : Value) (a : Option Addr) (hs : List Bool) (cap : Nat) (hsm : hs.length ≤ 1000) (t : Nat) (ht : t < 18446744073709551616) (n : Nat) (hn : n ≤ 1000) (hz : hl hs ≠ []) (w : World) (hC : Cells w a (bv hs)) :
    Calls Try.prog 5 #[.agg #[c0, c1, c2, .slice a hs.length cap], .int .u64 t, .int .i64 n] w fun e w' => e = .returned (.bool true) ∧ Below w.heap.size w w' := by
  have hl3 : hs.length ≤ 17592186044416 := by omega
  have H0 : Below w.heap.size w (w.alloc (Obj.cells #[c0, c1, c2, Value.slice a hs.length cap] 24)) := (Below.refl _ w).alloc (Nat.le_refl _) _
  have B0 := Boxes.new w c0 c1 c2 (.slice a hs.length cap) 24
  have hE : spE hs n = 0 := by simp [spE, hz]; omega
  have hL : spL hs t n = spTo (hl hs) hs.length t n := by simp [spL, hE]
  have hlen : (spTo (hl hs) hs.length t n).length = hs.length := spTo_length _ _ _ _
  have HE := Lib.hid hE
  have HL := Lib.hid hL
  have HLEN := Lib.hid hlen
  have HT := Lib.hid ht
  have HZ := Lib.hid hz
  by_cases hov : t + n < 18446744073709551616
  · have hw : IntKind.u64.wrap ((t : Int) + (n : Int)) = ((t + n : Nat) : Int) := by
      simp only [IntKind.wrap, IntKind.bits, IntKind.signed]; simp; omega
    have hge : (t : Int) ≤ ((t + n : Nat) : Int) := by omega
    have HOV := Lib.hid (show t + n ≤ 18446744073709551616 by omega)
    generalize t + n = m at hw hge
    have hS : ∀ w', Cells w' a (bv hs) → Calls Try.prog 17 #[.agg #[c0, c1, c2, .slice a hs.length cap], .int .u64 t, .int .i64 n] w' (GivesE w' (Ints (spTo (hl hs) hs.length t n)) 0) := fun w' h => by
      have := Spread_calls c0 c1 c2 a hs cap hl3 t ht n w' h
      rwa [hE, hL] at this
    have HS := Lib.hid hS
    have hpair : ∀ (i k : Nat) (x y : Int), hs[i]? = some true → hs[k]? = some true → (spTo (hl hs) hs.length t n)[i]? = some x → (spTo (hl hs) hs.length t n)[k]? = some y → x ≤ y + 1 := fun i k x y h1 h2 h3 h4 => spread_pair HOV.out h1 h2 h3 h4
    have hsick : ∀ i : Nat, hs[i]? = some false → (spTo (hl hs) hs.length t n)[i]? = some (0 : Int) := fun i h => spTo_sick hz h n
    have hsum : (spTo (hl hs) hs.length t n).sum = n := spTo_sum hz n
    have hnn : ∀ x ∈ spTo (hl hs) hs.length t n, 0 ≤ x ∧ x ≤ 1000 := fun x hx => by
      obtain ⟨i, hi, e⟩ := List.mem_iff_getElem.1 hx
      have := spTo_bound (hl hs) hs.length t n i x (by rw [List.getElem?_eq_getElem hi, e])
      omega
    have htk : ∀ i, 0 ≤ ((spTo (hl hs) hs.length t n).take i).sum ∧ ((spTo (hl hs) hs.length t n).take i).sum ≤ 1000 := fun i => by
      have := sum_take_le (fun x hx => (hnn x hx).1) i
      omega
    generalize spTo (hl hs) hs.length t n = L at hpair hsick hsum hnn htk hlen HS
    have l1 : L.length ≤ hs.length := by omega
    have l2 : hs.length ≤ L.length := by omega
    have HP := Lib.hid hpair
    have HSI := Lib.hid hsick
    have HSU := Lib.hid hsum
    have HNN := Lib.hid hnn
    have HTK := Lib.hid htk
    have dbig : decide ((1000 : Int) < (hs.length : Int)) = false := by simp; omega
    have dmt : decide (m < t) = false := by simp; omega
    clear hS hpair hsick hsum hnn htk hlen hov hE hL ht hz HLEN HL HE HZ
    go_enter Try.func5, Try.ntmps5
    go_wp2_with fail
    refine (HS.out _ (hC.below H0)).mono ?_
    rintro e w1 ⟨v1, rfl, ⟨a1, cap1, rfl, _, _, D1⟩, hB1⟩
    have B1 := B0.below hB1
    have H1 := fur H0 hB1
    have HC1 := Lib.hid (hC.below H1)
    have HD1 := Lib.hid D1
    have HB1 := Lib.hid B1
    have HH1 := Lib.hid H1
    obtain ⟨b0, b1, b2, b3⟩ := B1
    clear B0 H0 hB1 hC D1 H1
    go_wp2_with fail
    go_loopw [9, 10] (fun s i wr => ∃ k : Nat, k ≤ L.length ∧ i = .int .i64 k ∧ s = .int .i64 (L.take k).sum ∧ Below w1.heap.size w1 wr)
      (fun _ i _ => L.length - (intOf i).toNat)
    case atStart => exact ⟨0, Nat.zero_le _, rfl, by simp, Below.refl _ _⟩
    case round =>
      obtain ⟨i, hi, rfl, rfl, hnx⟩ := hrel
      clear b0 b1 b2 b3
      obtain ⟨b0, b1, b2, b3⟩ := HB1.out.below hnx
      have HN := Lib.hid hnx
      clear hnx
      by_cases hlt : i < L.length
      · obtain ⟨x, hx⟩ := get_of_lt hlt
        obtain ⟨h, hh⟩ := get_of_lt (xs := hs) (k := i) (by omega)
        obtain ⟨bl, ol, rfl, hcl⟩ := (HD1.out.below HN.out) _ _ (iv_get hx)
        obtain ⟨ba, oa, rfl, hca⟩ := (HC1.out.below HN.out) _ _ (bv_get hh)
        obtain ⟨s1, s2⟩ := HTK.out i
        obtain ⟨s3, s4⟩ := HTK.out (i + 1)
        have hs1 := sum_take_succ hx
        rw [hs1] at s3 s4
        have HS1 := Lib.hid hs1
        obtain ⟨x1, x2⟩ := HNN.out x (List.mem_of_getElem? hx)
        have hx0 : h = false → x = 0 := fun e => by
          subst e
          have := HSI.out i hh
          rw [hx] at this
          exact Option.some.inj this
        have HX := Lib.hid hx
        have HH := Lib.hid hh
        clear hx hh hs1
        have i1 : (i : Int) < (hs.length : Int) := by omega
        have i3 : (i : Int) < (L.length : Int) := by omega
        have di : decide (hs.length ≤ i) = false := by simp; omega
        obtain ⟨wo, hwo⟩ : ∃ wo : World, wo = wr := ⟨_, rfl⟩
        subst hwo
        cases h with
        | false =>
          obtain rfl := hx0 rfl
          clear hx0
          go_wp2_with fail
          go_loopw [11] (fun kv wr => ∃ k : Nat, k ≤ i ∧ kv = .int .i64 k ∧ Below w1.heap.size w1 wr) (fun kv _ => i - (intOf kv).toNat)
          case atStart => exact ⟨0, Nat.zero_le _, rfl, HN.out⟩
          case round =>
            obtain ⟨k, hk, rfl, hnx⟩ := hrel
            clear b0 b1 b2 b3 hca hcl
            obtain ⟨b0, b1, b2, b3⟩ := HB1.out.below hnx
            obtain ⟨ba2, oa2, ea, hca⟩ := (HC1.out.below hnx) _ _ (bv_get HH.out)
            cases ea
            have HN2 := Lib.hid hnx
            clear hnx
            by_cases hlk : k < i
            · go_wp2_with fail
              go_quiet (fail)
              go_wp2
              go_roundw
              case rel => exact ⟨k + 1, by omega, by go_num, below_drewN HN2.out _⟩
              case measure => simp [intOf]; omega
            · obtain rfl : k = i := by omega
              go_wp2_with fail
              go_roundw
              case rel => exact ⟨k + 1, by omega, by go_num, by rw [HS1.out]; simp, HN2.out⟩
              case measure => simp [intOf]; omega
        | true =>
          clear hx0
          go_wp2_with fail
          go_loopw [11] (fun kv wr => ∃ k : Nat, k ≤ i ∧ kv = .int .i64 k ∧ Below w1.heap.size w1 wr) (fun kv _ => i - (intOf kv).toNat)
          case atStart => exact ⟨0, Nat.zero_le _, rfl, HN.out⟩
          case round =>
            obtain ⟨k, hk, rfl, hnx⟩ := hrel
            clear b0 b1 b2 b3 hca hcl
            obtain ⟨b0, b1, b2, b3⟩ := HB1.out.below hnx
            obtain ⟨ba2, oa2, ea, hca⟩ := (HC1.out.below hnx) _ _ (bv_get HH.out)
            cases ea
            obtain ⟨bl2, ol2, el, hcl⟩ := (HD1.out.below hnx) _ _ (iv_get HX.out)
            cases el
            by_cases hlk : k < i
            · obtain ⟨y, hy⟩ := get_of_lt (xs := L) (k := k) (by omega)
              obtain ⟨g, hg⟩ := get_of_lt (xs := hs) (k := k) (by omega)
              obtain ⟨bl3, ol3, el, hcl2⟩ := (HD1.out.below hnx) _ _ (iv_get hy)
              cases el
              obtain ⟨ba3, oa3, ea, hca2⟩ := (HC1.out.below hnx) _ _ (bv_get hg)
              cases ea
              obtain ⟨y1, y2⟩ := HNN.out y (List.mem_of_getElem? hy)
              have hp1 : g = true → x ≤ y + 1 := fun e => HP.out i k x y HH.out (e ▸ hg) HX.out hy
              have hp2 : g = true → y ≤ x + 1 := fun e => HP.out k i y x (e ▸ hg) HH.out hy HX.out
              have HN2 := Lib.hid hnx
              have i2 : (k : Int) < (hs.length : Int) := by omega
              have i4 : (k : Int) < (L.length : Int) := by omega
              have w1' : IntKind.i64.wrap (y + 1) = y + 1 := IntWalk.i64_in _ (by omega)
              have w2' : IntKind.i64.wrap (x + 1) = x + 1 := IntWalk.i64_in _ (by omega)
              clear hnx hy hg
              cases g with
              | false =>
                clear hp1 hp2
                go_wp2_with fail
                go_quiet (fail)
                go_wp2
                go_roundw
                case rel => exact ⟨k + 1, by omega, by go_num, below_drewN HN2.out _⟩
                case measure => simp [intOf]; omega
              | true =>
                have hp1 := hp1 rfl
                have hp2 := hp2 rfl
                have d1 : decide (y + 1 < x) = false := by simp; omega
                have d2 : decide (x + 1 < y) = false := by simp; omega
                go_wp2_with fail
                go_quiet (fail)
                go_wp2
                go_roundw
                case rel => exact ⟨k + 1, by omega, by go_num, below_drewN HN2.out _⟩
                case measure => simp [intOf]; omega
            · obtain rfl : k = i := by omega
              have HN2 := Lib.hid hnx
              clear hnx
              go_wp2_with fail
              go_roundw
              case rel => exact ⟨k + 1, by omega, by go_num, by rw [HS1.out], HN2.out⟩
              case measure => simp [intOf]; omega
      · obtain rfl : i = L.length := by omega
        have hall : L.sum = (n : Int) := HSU.out
        have l3 : ((L.length : Int) == (hs.length : Int)) = true := by simp; omega
        clear b0 b1 b2 b3
        go_wp2_with fail
        refine (turned_calls _).mono ?_
        rintro e w2 ⟨rfl, hB2⟩
        obtain ⟨b0, b1, b2, b3⟩ := (HB1.out.below HN.out).below hB2
        go_wp2_with fail
        go_ret
        exact ⟨rfl, fur (fur HH1.out HN.out) hB2⟩
  · have hw : IntKind.u64.wrap ((t : Int) + (n : Int)) = ((t + n - 18446744073709551616 : Nat) : Int) := by
      simp only [IntKind.wrap, IntKind.bits, IntKind.signed]; simp; omega
    have hlt : ((t + n - 18446744073709551616 : Nat) : Int) < (t : Int) := by omega
    obtain ⟨m, hm⟩ : ∃ m, m = t + n - 18446744073709551616 := ⟨_, rfl⟩
    rw [← hm] at hw hlt
    clear hm hov hE hL hlen ht hz
    go_enter Try.func5, Try.ntmps5
    go_wp2_with fail
    refine (Spread_calls _ _ _ _ _ _ hl3 _ HT.out _ _ (hC.below H0)).mono ?_
    rintro e w1 ⟨v1, rfl, ⟨a1, cap1, rfl, _, _, D1⟩, hB1⟩
    rw [HE.out]
    have B1 := B0.below hB1
    have H1 := fur H0 hB1
    obtain ⟨b0, b1, b2, b3⟩ := B1
    clear B0 H0 hB1
    go_wp2_with fail
    refine (turned_calls _).mono ?_
    rintro e w2 ⟨rfl, hB2⟩
    go_wp2_with fail
    go_ret
    exact ⟨rfl, fur H1 hB2⟩

theorem turnsSpread_walk (c0 c1 c2 : Value) (a : Option Addr) (hs : List Bool) (cap : Nat) (hl3 : hs.length ≤ 17592186044416) (t : Nat) (ht : t < 18446744073709551616) (n : Int) (w : World) (hC : Cells w a (bv hs)) :
    Calls Try.prog 5 #[.agg #[c0, c1, c2, .slice a hs.length cap], .int .u64 t, .int .i64 n] w fun e w' => e = .returned (.bool true) ∧ Below w.heap.size w w' := by
  by_cases hoff : 1000 < hs.length ∨ spE hs n ≠ 0
  · exact turnsSpread_off c0 c1 c2 a hs cap hl3 t ht n w hC hoff
  · have hz : hl hs ≠ [] := fun e => hoff (.inr (by simp only [spE, e]; split <;> simp))
    have hn : ¬ (n < 0 ∨ 1000 < n) := fun e => hoff (.inr (by simp [spE, e]))
    obtain ⟨m, rfl⟩ := Int.eq_ofNat_of_zero_le (show 0 ≤ n by omega)
    exact turnsSpread_on c0 c1 c2 a hs cap (by omega) t ht m (by omega) hz w hC

end Go.Proofs.Ytfegglolblglpaa

/-
  The walks of layer 12: what turns.Turn and turns.Spread, and the document's own answers, come to.
-/
import Derived.WalkKit
import Derived.WalkSpells
import Derived.WalkLawsBesides
import Derived.Lib.Hide
import Derived.Deep.QuietTactic
import Derived.BigQuiet
import Derived.Test.YtfegglolblglpaaIter
namespace Go.Proofs.Ytfegglolblglpaa
open Go.RowKit
set_option linter.unusedVariables false

set_option maxHeartbeats 400000 in
theorem Turn_calls (c0 c1 c2 : Value) (a : Option Addr) (hs : List Bool) (cap : Nat) (hlen : hs.length ≤ 17592186044416) (t : Nat) (w : World) (hC : Cells w a (bv hs)) :
    Calls Try.prog 15 #[.agg #[c0, c1, c2, .slice a hs.length cap], .int .u64 t] w fun e w' => e = .returned (.tuple #[.int .i64 (turnA hs t), .int .i64 (turnE hs)]) ∧ Below w.heap.size w w' := by
  by_cases hz : hl hs = []
  · have e1 : turnA hs t = 0 := by simp [turnA, hz]
    have e2 : turnE hs = 5 := by simp [turnE, hz]
    rw [e1, e2]
    clear e1 e2
    have hz2 : ((hl hs).length == 0) = true := by simp [hz]
    clear hz
    go_enter Try.func15, Try.ntmps15
    go_wp2_with (go_at_call 21; refine (Healthy_calls _ _ _ _ _ _ hlen _ (hC.alloc _)).mono ?_; rintro e w1 ⟨v, rfl, ⟨a1, cap1, rfl, h1, h2, h3⟩, h4⟩)
    go_ret2
    exact ⟨rfl, (((Below.refl _ w).alloc (Nat.le_refl _) _).trans (h4.mono (by simp)))⟩
  · have e2 : turnE hs = 0 := by simp [turnE, hz]
    have hpos : 0 < (hl hs).length := List.length_pos_iff.2 hz
    have hbd : (hl hs).length ≤ 17592186044416 := Nat.le_trans (hl_le hs) hlen
    rw [e2]
    clear e2 hz
    obtain ⟨x, hx⟩ := get_of_lt (Nat.mod_lt t hpos)
    have e1 : turnA hs t = x := by simp [turnA, List.getD, hx]
    rw [e1]
    clear e1
    have HX := Lib.hid hx
    clear hx
    have m1 : 0 ≤ (t : Int) % ((hl hs).length : Int) := Int.emod_nonneg _ (by omega)
    have m2 : (t : Int) % ((hl hs).length : Int) < ((hl hs).length : Int) := Int.emod_lt_of_pos _ (by omega)
    go_enter Try.func15, Try.ntmps15
    go_wp2_with (go_at_call 21; refine (Healthy_calls _ _ _ _ _ _ hlen _ (hC.alloc _)).mono ?_; rintro e w1 ⟨v, rfl, ⟨a1, cap1, rfl, h1, h2, h3⟩, h4⟩; obtain ⟨b1, o1, rfl, hc1⟩ := h3 _ _ (iv_get HX.out); clear h3 h1 h2)
    go_ret2
    exact ⟨rfl, (((Below.refl _ w).alloc (Nat.le_refl _) _).trans (h4.mono (by simp)))⟩

set_option maxHeartbeats 400000 in
/-- The document's own Healthy. -/
theorem refHealthy_calls (c0 c1 c2 : Value) (a : Option Addr) (hs : List Bool) (cap : Nat) (hlen : hs.length ≤ 17592186044416) (w : World) (hC : Cells w a (bv hs)) :
    Calls Try.prog 22 #[.agg #[c0, c1, c2, .slice a hs.length cap]] w (Gives w (Ints (hl hs))) := by
  obtain ⟨i0, hi, hz0, hz1, hz2⟩ := info_parts Try.info3
  go_enter Try.func22, Try.ntmps22
  have hbd : hs.length ≤ 9223372036854775807 := by omega
  have hbx : (w.alloc (Obj.cells #[c0, c1, c2, Value.slice a hs.length cap] 24)).cell? ⟨w.heap.size, 3, none⟩ = some (.slice a hs.length cap) := by go_simp
  have HBX := Lib.hid hbx
  clear hbx
  go_wp2
  go_loopw [3, 4] (fun v i wr => ∃ k : Nat, k ≤ hs.length ∧ i = .int .i64 k ∧ wr.ownsRow (w.heap.size + 1) 3 1 v (hlTo hs k).length (iv (hlTo hs k)) ∧ Below (w.heap.size + 1) (w.alloc (Obj.cells #[c0, c1, c2, Value.slice a hs.length cap] 24)) wr)
    (fun _ i _ => hs.length - (intOf i).toNat)
  case atStart =>
    refine ⟨0, Nat.zero_le _, rfl, ?_, (Below.refl _ _).alloc (by simp) _⟩
    have := World.ownsRow_made (w.alloc (Obj.cells #[c0, c1, c2, Value.slice a hs.length cap] 24)) (base := w.heap.size + 1) (e := 3) (size := 1) #[] 0 (by simp) (by simp [maxLen]) rfl
    rw [World.size_alloc] at this
    exact this
  case round =>
    obtain ⟨k, hk, rfl, hrow, hnx⟩ := hrel
    have hbx : wr.cell? ⟨w.heap.size, 3, none⟩ = some (.slice a hs.length cap) := (hnx.cell (p := ⟨w.heap.size, 3, none⟩) (by simp)).trans HBX.out
    have hle := hlTo_le hs k
    have hsz : w.heap.size + 1 ≤ wr.heap.size := by have := hnx.size; simpa using this
    by_cases hlt : k < hs.length
    · obtain ⟨x, hx⟩ := get_of_lt hlt
      obtain ⟨b, o, rfl, hc⟩ := hC k (.bool x) (bv_get hx)
      have hcx : wr.cell? ⟨b, o + k, none⟩ = some (.bool x) := (hnx.cell (p := ⟨b, o + k, none⟩) (Nat.lt_succ_of_lt (World.block_lt_of_cell? _ _ hc))).trans (((Below.refl _ w).alloc (Nat.le_refl _) _).cell (p := ⟨b, o + k, none⟩) (World.block_lt_of_cell? _ _ hc) |>.trans hc)
      have HX := Lib.hid hx
      clear hx hc
      cases x with
      | true =>
        go_wp2_with (at_builtin; refine wpList_append_own _ rfl _ _ 29 rfl (w.heap.size + 1) 3 i0 (.int .i64 0) 1 8 Try.underlying29 hi hz0 hz1 hz2 rfl (by decide) _ _ _ rfl (hrow.alloc _) ⟨wr.heap.size, 0, none⟩ 1 1 [.int .i64 (k : Int)] rfl rfl (cell_one_new _ _ _) (by simp [Value.oneCell']) (by unfold maxLen; omega) (by omega) (by simp; omega) ?_; intro v' w1 hown' hgrow _)
        go_roundw
        case rel =>
          refine ⟨k + 1, by omega, by go_num, by rw [hlTo_hit HX.out]; simpa [iv] using hown', ?_⟩
          exact (hnx.alloc (by omega) _).grown hgrow (by simp; omega) (fun j e => (hrow.lt j e).1)
        case measure => simp [intOf]; omega
      | false =>
        go_wp2
        go_roundw
        case rel => exact ⟨k + 1, by omega, by go_num, by rw [hlTo_miss HX.out]; exact hrow, hnx⟩
        case measure => simp [intOf]; omega
    · obtain rfl : k = hs.length := by omega
      go_wp2
      go_ret
      obtain ⟨a', cap', h1, h2, h3, h4, _⟩ := Cells.of_ownsRow hrow
      exact ⟨_, rfl, .of_row ⟨a', cap', h1, h2, h3, h4⟩, ((Below.refl _ w).alloc (Nat.le_refl _) _).trans (hnx.mono (by simp))⟩
set_option maxHeartbeats 400000 in
theorem refTurn_calls (c0 c1 c2 : Value) (a : Option Addr) (hs : List Bool) (cap : Nat) (hlen : hs.length ≤ 17592186044416) (t : Nat) (w : World) (hC : Cells w a (bv hs)) :
    Calls Try.prog 16 #[.agg #[c0, c1, c2, .slice a hs.length cap], .int .u64 t] w fun e w' => e = .returned (.tuple #[.int .i64 (turnA hs t), .int .i64 (turnE hs)]) ∧ Below w.heap.size w w' := by
  by_cases hz : hl hs = []
  · have e1 : turnA hs t = 0 := by simp [turnA, hz]
    have e2 : turnE hs = 5 := by simp [turnE, hz]
    rw [e1, e2]
    clear e1 e2
    have hz2 : ((hl hs).length == 0) = true := by simp [hz]
    clear hz
    go_enter Try.func16, Try.ntmps16
    go_wp2_with (go_at_call 22; refine (refHealthy_calls _ _ _ _ _ _ hlen _ (hC.alloc _)).mono ?_; rintro e w1 ⟨v, rfl, ⟨a1, cap1, rfl, h1, h2, h3⟩, h4⟩)
    go_ret2
    exact ⟨rfl, (((Below.refl _ w).alloc (Nat.le_refl _) _).trans (h4.mono (by simp)))⟩
  · have e2 : turnE hs = 0 := by simp [turnE, hz]
    have hpos : 0 < (hl hs).length := List.length_pos_iff.2 hz
    have hbd : (hl hs).length ≤ 17592186044416 := Nat.le_trans (hl_le hs) hlen
    rw [e2]
    clear e2 hz
    obtain ⟨x, hx⟩ := get_of_lt (Nat.mod_lt t hpos)
    have e1 : turnA hs t = x := by simp [turnA, List.getD, hx]
    rw [e1]
    clear e1
    have HX := Lib.hid hx
    clear hx
    have m1 : 0 ≤ (t : Int) % ((hl hs).length : Int) := Int.emod_nonneg _ (by omega)
    have m2 : (t : Int) % ((hl hs).length : Int) < ((hl hs).length : Int) := Int.emod_lt_of_pos _ (by omega)
    go_enter Try.func16, Try.ntmps16
    go_wp2_with (go_at_call 22; refine (refHealthy_calls _ _ _ _ _ _ hlen _ (hC.alloc _)).mono ?_; rintro e w1 ⟨v, rfl, ⟨a1, cap1, rfl, h1, h2, h3⟩, h4⟩; obtain ⟨b1, o1, rfl, hc1⟩ := h3 _ _ (iv_get HX.out); clear h3 h1 h2)
    go_ret2
    exact ⟨rfl, (((Below.refl _ w).alloc (Nat.le_refl _) _).trans (h4.mono (by simp)))⟩


theorem wrap_tk (t i : Nat) : IntKind.u64.wrap ((tk t i : Int) + 1) = (tk t (i + 1) : Int) := by
  simp only [IntKind.wrap, IntKind.bits, IntKind.signed, tk]
  simp
  omega

theorem iv_bump (L : List Int) (j : Nat) (y : Int) (h : L[j]? = some y) : (iv L).set j (.int .i64 (y + 1)) = iv (bump L j) := by
  simp [iv, bump, List.getD, h, List.map_set]

set_option maxHeartbeats 400000 in
theorem Spread_bad (c0 c1 c2 c3 : Value) (t : Nat) (n : Int) (hn : n < 0 ∨ 1000 < n) (w : World) :
    Calls Try.prog 17 #[.agg #[c0, c1, c2, c3], .int .u64 t, .int .i64 n] w (GivesE w (Ints []) 1) := by
  rcases hn with h | h
  · go_enter Try.func17, Try.ntmps17
    go_wp2
    go_ret2
    exact ⟨_, rfl, Ints.nil _, (Below.refl _ w).alloc (Nat.le_refl _) _⟩
  · have h' : 0 ≤ n := by omega
    go_enter Try.func17, Try.ntmps17
    go_wp2
    go_ret2
    exact ⟨_, rfl, Ints.nil _, (Below.refl _ w).alloc (Nat.le_refl _) _⟩

set_option maxHeartbeats 400000 in
theorem Spread_none (c0 c1 c2 : Value) (a : Option Addr) (hs : List Bool) (cap : Nat) (hlen : hs.length ≤ 17592186044416) (t : Nat) (n : Int) (h0 : 0 ≤ n) (h1 : n ≤ 1000) (hz : hl hs = []) (w : World) (hC : Cells w a (bv hs)) :
    Calls Try.prog 17 #[.agg #[c0, c1, c2, .slice a hs.length cap], .int .u64 t, .int .i64 n] w (GivesE w (Ints []) 5) := by
  have hz2 : ((hl hs).length == 0) = true := by simp [hz]
  clear hz
  go_enter Try.func17, Try.ntmps17
  go_wp2_with (go_at_call 21; refine (Healthy_calls _ _ _ _ _ _ hlen _ (hC.alloc _)).mono ?_; rintro e w1 ⟨v, rfl, ⟨a1, cap1, rfl, g1, g2, g3⟩, g4⟩)
  go_ret2
  exact ⟨_, rfl, Ints.nil _, (((Below.refl _ w).alloc (Nat.le_refl _) _).trans (g4.mono (by simp)))⟩

theorem made_ints {w : World} {B n : Nat} {v : Value} (h : w.ownsRow B 3 1 v n (madeCells (Value.int IntKind.i64 0).cells (n * 1)).toList) : w.ownsRow B 3 1 v n (iv (List.replicate n 0)) := by
  rw [show (Value.int IntKind.i64 0).cells = #[.int .i64 0] from rfl, toList_madeCells_one, Nat.mul_one] at h
  simpa [iv] using h

set_option maxHeartbeats 1000000 in
theorem Spread_some (c0 c1 c2 : Value) (a : Option Addr) (hs : List Bool) (cap : Nat) (hlen : hs.length ≤ 17592186044416) (t : Nat) (ht : t < 18446744073709551616) (n : Nat) (h1 : n ≤ 1000) (hz : hl hs ≠ []) (w : World) (hC : Cells w a (bv hs)) :
    Calls Try.prog 17 #[.agg #[c0, c1, c2, .slice a hs.length cap], .int .u64 t, .int .i64 n] w (GivesE w (Ints (spTo (hl hs) hs.length t n)) 0) := by
  obtain ⟨i0, hi, hz0, hz1, hz2⟩ := info_parts Try.info3
  have hpos : 0 < (hl hs).length := List.length_pos_iff.2 hz
  have hbd : (hl hs).length ≤ 17592186044416 := Nat.le_trans (hl_le hs) hlen
  have hbx : (w.alloc (Obj.cells #[c0, c1, c2, Value.slice a hs.length cap] 24)).cell? ⟨w.heap.size, 3, none⟩ = some (.slice a hs.length cap) := by go_simp
  have HBX := Lib.hid hbx
  clear hbx hz
  have HT := Lib.hid ht
  clear ht
  go_enter Try.func17, Try.ntmps17
  go_wp2_with (first | (go_at_call 21; refine (Healthy_calls _ _ _ _ _ _ hlen _ (hC.alloc _)).mono ?_; rintro e w1 ⟨v, rfl, ⟨a1, cap1, rfl, g1, g2, g3⟩, g4⟩; have hb3 := (g4.cell (p := ⟨w.heap.size, 3, none⟩) (by simp)).trans HBX.out) | (at_make; refine wpList_make_full _ rfl _ _ 29 rfl (w.heap.size + 1) 3 i0 (.int .i64 0) 1 Try.underlying29 hi hz0 hz1 _ _ _ _ hs.length rfl rfl rfl rfl (by rw [hz2]; omega) (by unfold maxLen; omega) (by have := g4.size; simp at this; omega) ?_; intro w2 hown hgrow))
  have hown := made_ints hown
  have hg5 : Below w1.heap.size w1 w2 := (Below.refl _ _).grown hgrow (Nat.le_refl _) (fun k e => by cases e)
  have hsz1 : w.heap.size + 1 ≤ w1.heap.size := by have := g4.size; simpa using this
  have g5 : Below w.heap.size w w1 := ((Below.refl _ w).alloc (Nat.le_refl _) _).trans (g4.mono (by simp))
  clear hgrow g4 hb3
  go_loopw [1, 26] (fun tv i wr => ∃ k : Nat, k ≤ n ∧ i = .int .i64 k ∧ tv = .int .u64 (tk t k : Nat) ∧ wr.ownsRow (w.heap.size + 1) 3 1 (.slice (some ⟨w1.heap.size, 0, none⟩) hs.length hs.length) hs.length (iv (spTo (hl hs) hs.length t k)) ∧ Below w1.heap.size w1 wr)
    (fun _ i _ => n - (intOf i).toNat)
  case atStart => exact ⟨0, Nat.zero_le _, rfl, by rw [tk_zero HT.out], by simpa [spTo] using hown, hg5⟩
  case round =>
    obtain ⟨k, hk, rfl, rfl, hrow, hnx⟩ := hrel
    by_cases hlt : k < n
    · obtain ⟨j, hj1, hj2, _⟩ := hl_get (Nat.mod_lt (tk t k) hpos)
      obtain ⟨b1, o1, rfl, hc1⟩ := (g3.below hnx) _ _ (iv_get hj1)
      obtain ⟨y, hy⟩ := get_of_lt (xs := spTo (hl hs) hs.length t k) (k := j) (by rw [spTo_length]; exact hj2)
      obtain ⟨y1, y2⟩ := spTo_bound _ _ _ _ _ _ hy
      have hcj : wr.cell? ⟨w1.heap.size, j, none⟩ = some (.int .i64 y) := by rw [hrow.cellAt j (by omega)]; exact iv_get hy
      have hfj := hrow.frozenAt j
      have hst := (hrow.stored j (.int .i64 (y + 1))).1
      rw [iv_bump _ _ _ hy] at hst
      have HST := Lib.hid hst
      have HJ := Lib.hid hj1
      have HN := Lib.hid hnx
      have m1 : 0 ≤ (tk t k : Int) % ((hl hs).length : Int) := Int.emod_nonneg _ (by omega)
      have m2 : (tk t k : Int) % ((hl hs).length : Int) < ((hl hs).length : Int) := Int.emod_lt_of_pos _ (by omega)
      clear hst hj1 hy hrow hnx hown hg5
      go_wp2
      go_roundw
      case rel => exact ⟨k + 1, by omega, by go_num, by rw [wrap_tk], by rw [spTo]; simpa [List.getD, HJ.out] using HST.out, HN.out.setCell (Nat.le_refl _) _⟩
      case measure => simp [intOf]; omega
    · obtain rfl : k = n := by omega
      go_wp2
      go_ret2
      obtain ⟨a', cap', e1, e2, e3, e4, _⟩ := Cells.of_ownsRow hrow
      exact ⟨_, rfl, .of_row ⟨a', cap', e1, e2, e3, e4⟩, g5.trans (hnx.mono (by omega))⟩

/-- Are two rows of numbers the same? -/
def eqI (xs ys : List Int) : Bool := decide (xs = ys)

set_option maxHeartbeats 400000 in
theorem Same_calls (a b : Option Addr) (xs ys : List Int) (ca cb : Nat) (hl : xs.length ≤ 9223372036854775807) (w : World) (hA : Cells w a (iv xs)) (hB : Cells w b (iv ys)) :
    Calls Try.prog 20 #[.slice a xs.length ca, .slice b ys.length cb] w fun e w' => e = .returned (.bool (eqI xs ys)) ∧ Below w.heap.size w w' := by
  by_cases he : xs.length = ys.length
  · have he1 : ((xs.length : Int) != (ys.length : Int)) = false := by simp [he]
    have HE := Lib.hid he
    clear he
    go_enter Try.func20, Try.ntmps20
    go_wp2
    go_loopw [5] (fun i wr => ∃ k : Nat, k ≤ xs.length ∧ i = .int .i64 k ∧ xs.take k = ys.take k ∧ Below w.heap.size w wr)
      (fun i _ => xs.length - (intOf i).toNat)
    case atStart => exact ⟨0, Nat.zero_le _, rfl, by simp, Below.refl _ _⟩
    case round =>
      obtain ⟨k, hk, rfl, ht, hnx⟩ := hrel
      have HT := Lib.hid ht
      clear ht
      by_cases hlt : k < xs.length
      · obtain ⟨x, hx⟩ := get_of_lt hlt
        obtain ⟨y, hy⟩ := get_of_lt (xs := ys) (k := k) (by rw [← HE.out]; exact hlt)
        obtain ⟨b1, o1, rfl, hc1⟩ := (hA.below hnx) _ _ (iv_get hx)
        obtain ⟨b2, o2, rfl, hc2⟩ := (hB.below hnx) _ _ (iv_get hy)
        have hlt2 : (k : Int) < (ys.length : Int) := by have := HE.out; omega
        have hlt1 : (k : Int) < (xs.length : Int) := by omega
        have HX := Lib.hid hx
        have HY := Lib.hid hy
        have HN := Lib.hid hnx
        clear hx hy hnx
        by_cases hxy : x = y
        · have hb1 : (x != y) = false := by simp [hxy]
          have HXY := Lib.hid hxy
          clear hxy
          go_wp2_with fail
          go_quiet (fail)
          go_wp2
          go_roundw
          case rel =>
            refine ⟨k + 1, by omega, by go_num, ?_, below_drewN HN.out _⟩
            rw [List.take_add_one, List.take_add_one, HT.out, HX.out, HY.out, HXY.out]
          case measure => simp [intOf]; omega
        · have hb1 : (x != y) = true := by simp [hxy]
          have hres : eqI xs ys = false := by
            simp only [eqI, decide_eq_false_iff_not]
            rintro rfl
            have h1 := HX.out
            have h2 := HY.out
            rw [h1] at h2
            exact hxy (by simpa using h2)
          have HR := Lib.hid hres
          clear hxy hres
          go_wp2_with fail
          go_quiet (fail)
          go_wp2
          go_ret
          exact ⟨by rw [HR.out]; rfl, below_drewN HN.out _⟩
      · have hres : eqI xs ys = true := by
          have h1 := HT.out
          have h2 := HE.out
          rw [List.take_of_length_le (by omega), List.take_of_length_le (by omega)] at h1
          simp [eqI, h1]
        have HR := Lib.hid hres
        clear hres
        go_wp2
        go_ret
        exact ⟨by rw [HR.out]; rfl, hnx⟩
  · have he1 : ((xs.length : Int) != (ys.length : Int)) = true := by simp; omega
    have hres : eqI xs ys = false := by
      simp only [eqI, decide_eq_false_iff_not]
      rintro rfl
      exact he rfl
    rw [hres]
    clear he hres
    go_enter Try.func20, Try.ntmps20
    go_wp2
    go_ret
    exact ⟨rfl, Below.refl _ _⟩

set_option maxHeartbeats 400000 in
theorem refSpread_bad (c0 c1 c2 c3 : Value) (t : Nat) (n : Int) (hn : n < 0 ∨ 1000 < n) (w : World) :
    Calls Try.prog 18 #[.agg #[c0, c1, c2, c3], .int .u64 t, .int .i64 n] w (GivesE w (Ints []) 1) := by
  rcases hn with h | h
  · go_enter Try.func18, Try.ntmps18
    go_wp2
    go_ret2
    exact ⟨_, rfl, Ints.nil _, (Below.refl _ w).alloc (Nat.le_refl _) _⟩
  · have h' : 0 ≤ n := by omega
    go_enter Try.func18, Try.ntmps18
    go_wp2
    go_ret2
    exact ⟨_, rfl, Ints.nil _, (Below.refl _ w).alloc (Nat.le_refl _) _⟩

theorem spTo_zeros (k : Nat) : iv (List.replicate k 0) ++ [.int .i64 0] = iv (List.replicate (k + 1) 0) := by
  simp [iv, List.replicate_succ']

theorem ownsRow_pos {W : World} {base : Nat} {e : TypeId} {v : Value} {n : Nat} {xs : List Value} (h : W.ownsRow base e 1 v n xs) (hn : 0 < n) : ∃ g cap, v = .slice (some ⟨g, 0, none⟩) n cap ∧ base ≤ g := by
  rcases h.2 with ⟨_, h0⟩ | ⟨g, cap, _, rfl, hb, _⟩
  · omega
  · exact ⟨g, cap, rfl, hb⟩

/-- The four cells of a boxed cluster, in whatever world has grown since. -/
theorem box4 {w wr : World} {c0 c1 c2 c3 : Value} (h : Below (w.heap.size + 1) (w.alloc (Obj.cells #[c0, c1, c2, c3] 24)) wr) :
    wr.cell? ⟨w.heap.size, 0, none⟩ = some c0 ∧ wr.cell? ⟨w.heap.size, 1, none⟩ = some c1 ∧ wr.cell? ⟨w.heap.size, 2, none⟩ = some c2 ∧ wr.cell? ⟨w.heap.size, 3, none⟩ = some c3 := by
  refine ⟨?_, ?_, ?_, ?_⟩ <;> (rw [h.cell (by simp), World.cell?_alloc_new]; rfl)

theorem wrap_tk2 (t k : Nat) : IntKind.u64.wrap ((t : Int) + (k : Int)) = (tk t k : Int) := by
  simp only [IntKind.wrap, IntKind.bits, IntKind.signed, tk]
  simp

set_option maxHeartbeats 1000000 in
theorem refSpread_good (c0 c1 c2 : Value) (a : Option Addr) (hs : List Bool) (cap : Nat) (hlen : hs.length ≤ 17592186044416) (t : Nat) (ht : t < 18446744073709551616) (n : Nat) (h1 : n ≤ 1000) (w : World) (hC : Cells w a (bv hs)) :
    Calls Try.prog 18 #[.agg #[c0, c1, c2, .slice a hs.length cap], .int .u64 t, .int .i64 n] w (GivesE w (Ints (spL hs t n)) (spE hs n)) := by
  obtain ⟨i0, hi, hz0, hz1, hz2⟩ := info_parts Try.info3
  have HT := Lib.hid ht
  clear ht
  go_enter Try.func18, Try.ntmps18
  go_wp2_with fail
  go_loopw [8, 9] (fun v i wr => ∃ k : Nat, k ≤ hs.length ∧ i = .int .i64 k ∧ wr.ownsRow (w.heap.size + 1) 3 1 v k (iv (List.replicate k 0)) ∧ Below (w.heap.size + 1) (w.alloc (Obj.cells #[c0, c1, c2, Value.slice a hs.length cap] 24)) wr)
    (fun _ i _ => hs.length - (intOf i).toNat)
  case atStart =>
    refine ⟨0, Nat.zero_le _, rfl, ?_, (Below.refl _ _).alloc (by simp) _⟩
    have := World.ownsRow_made (w.alloc (Obj.cells #[c0, c1, c2, Value.slice a hs.length cap] 24)) (base := w.heap.size + 1) (e := 3) (size := 1) #[] 0 (by simp) (by simp [maxLen]) rfl
    rw [World.size_alloc] at this
    exact this
  case round =>
    obtain ⟨k, hk, rfl, hrow, hnx⟩ := hrel
    obtain ⟨b0, b1, b2, b3⟩ := box4 hnx
    have hsz : w.heap.size + 1 ≤ wr.heap.size := by have := hnx.size; simpa using this
    have HN := Lib.hid hnx
    clear hnx
    by_cases hlt : k < hs.length
    · go_wp2_with (at_builtin; refine wpList_append_own _ rfl _ _ 29 rfl (w.heap.size + 1) 3 i0 (.int .i64 0) 1 8 Try.underlying29 hi hz0 hz1 hz2 rfl (by decide) _ _ _ rfl (hrow.alloc _) ⟨wr.heap.size, 0, none⟩ 1 1 [.int .i64 0] rfl rfl (cell_one_new _ _ _) (by simp [Value.oneCell']) (by unfold maxLen; omega) (by omega) (by simp; omega) ?_; intro v' w1 hown' hgrow _)
      go_roundw
      case rel =>
        refine ⟨k + 1, by omega, by go_num, by rw [← spTo_zeros]; exact hown', ?_⟩
        exact (HN.out.alloc (by omega) _).grown hgrow (by simp; omega) (fun j e => (hrow.lt j e).1)
      case measure => simp [intOf]; omega
    · obtain rfl : k = hs.length := by omega
      have g5 : Below w.heap.size w wr := ((Below.refl _ w).alloc (Nat.le_refl _) _).trans (HN.out.mono (by simp))
      by_cases hz : hl hs = []
      · have hz2 : ((hl hs).length == 0) = true := by simp [hz]
        have hE : spE hs n = 5 := by simp [spE, hz]; omega
        have hL : spL hs t n = [] := by simp [spL, hE]
        have HE := Lib.hid hE
        have HL := Lib.hid hL
        have HG := Lib.hid g5
        clear hz hE hL g5
        go_wp2_with (go_at_call 22; refine (refHealthy_calls _ _ _ _ _ _ hlen _ (hC.below HG.out)).mono ?_; rintro e w3 ⟨v3, rfl, ⟨a3, cap3, rfl, g1, g2, g3⟩, g4⟩)
        go_ret2
        rw [HE.out, HL.out]
        exact ⟨_, rfl, Ints.nil _, HG.out.trans (g4.mono HG.out.size)⟩
      · have hpos : 0 < (hl hs).length := List.length_pos_iff.2 hz
        have hbd : (hl hs).length ≤ 17592186044416 := Nat.le_trans (hl_le hs) hlen
        have hpos2 : 0 < hs.length := Nat.lt_of_lt_of_le hpos (hl_le hs)
        have hE : spE hs n = 0 := by simp [spE, hz]; omega
        have hL : spL hs t n = spTo (hl hs) hs.length t n := by simp [spL, hE]
        obtain ⟨g, capg, rfl, hgb⟩ := ownsRow_pos hrow hpos2
        have hz3 : (((hl hs).length : Int) == 0) = false := by simp; omega
        have HE := Lib.hid hE
        have HL := Lib.hid hL
        have HG := Lib.hid g5
        clear hz hE hL g5
        go_wp2_with (go_at_call 22; refine (refHealthy_calls _ _ _ _ _ _ hlen _ (hC.below HG.out)).mono ?_; rintro e w3 ⟨v3, rfl, ⟨a3, cap3, rfl, g1, g2, g3⟩, g4⟩)
        have g6 : Below w.heap.size w w3 := HG.out.trans (g4.mono HG.out.size)
        have g7 : Below (w.heap.size + 1) (w.alloc (Obj.cells #[c0, c1, c2, Value.slice a hs.length cap] 24)) w3 := HN.out.trans (g4.mono hsz)
        have hrow3 : w3.ownsRow (w.heap.size + 1) 3 1 (.slice (some ⟨g, 0, none⟩) hs.length capg) hs.length (iv (List.replicate hs.length 0)) :=
          hrow.kept (w' := w3) (row := none) ⟨g4.os, g4.tape, g4.output, g4.size, fun k hk _ => g4.block k hk⟩ (.inr (by simp [Value.ownBlock]))
        clear hrow b0 b1 b2 b3 hsz HN HG g1 g2 g3
        go_loopw [10] (fun i wr => ∃ k : Nat, k ≤ n ∧ i = .int .i64 k ∧ wr.ownsRow (w.heap.size + 1) 3 1 (.slice (some ⟨g, 0, none⟩) hs.length capg) hs.length (iv (spTo (hl hs) hs.length t k)) ∧ Below (w.heap.size + 1) (w.alloc (Obj.cells #[c0, c1, c2, Value.slice a hs.length cap] 24)) wr)
          (fun i _ => n - (intOf i).toNat)
        case atStart => exact ⟨0, Nat.zero_le _, rfl, by simpa [spTo] using hrow3, g7⟩
        case round =>
          obtain ⟨k, hk, rfl, hrow, hnx⟩ := hrel
          have g5 : Below w.heap.size w wr := ((Below.refl _ w).alloc (Nat.le_refl _) _).trans (hnx.mono (by simp))
          obtain ⟨b0, b1, b2, b3⟩ := box4 hnx
          have hsz : w.heap.size + 1 ≤ wr.heap.size := by have := hnx.size; simpa using this
          have HN := Lib.hid hnx
          have HG := Lib.hid g5
          clear hnx g5
          by_cases hlt : k < n
          · have htk := wrap_tk2 t k
            obtain ⟨j, hj1, hj2, _⟩ := hl_get (Nat.mod_lt (tk t k) hpos)
            have hA : turnA hs (tk t k) = j := by simp [turnA, List.getD, hj1]
            have HA := Lib.hid hA
            have HJ := Lib.hid hj1
            obtain ⟨y, hy⟩ := get_of_lt (xs := spTo (hl hs) hs.length t k) (k := j) (by rw [spTo_length]; exact hj2)
            obtain ⟨y1, y2⟩ := spTo_bound _ _ _ _ _ _ hy
            have HY := Lib.hid hy
            have HR := Lib.hid hrow
            clear hA hj1 hy hrow
            go_wp2_with (go_at_call 16; refine (refTurn_calls _ _ _ _ _ _ hlen _ _ (hC.below HG.out)).mono ?_; rintro e w4 ⟨rfl, g4'⟩; rw [HA.out]; have hr4 : w4.ownsRow (w.heap.size + 1) 3 1 (.slice (some ⟨g, 0, none⟩) hs.length capg) hs.length (iv (spTo (hl hs) hs.length t k)) := HR.out.kept (w' := w4) (row := none) ⟨g4'.os, g4'.tape, g4'.output, g4'.size, fun k hk _ => g4'.block k hk⟩ (.inr (by simp [Value.ownBlock])); have hcj : w4.cell? ⟨g, j, none⟩ = some (.int .i64 y) := (by rw [hr4.cellAt j (by omega)]; exact iv_get HY.out); have hfj := hr4.frozenAt j; have hst := (hr4.stored j (.int .i64 (y + 1))).1; rw [iv_bump _ _ _ HY.out] at hst; have HST := Lib.hid hst; have HN4 := Lib.hid (HN.out.trans (g4'.mono hsz)); clear hst hr4 g4')
            go_roundw
            case rel => exact ⟨k + 1, by omega, by go_num, by rw [spTo]; simpa [List.getD, HJ.out] using HST.out, HN4.out.setCell hgb _⟩
            case measure => simp [intOf]; omega
          · obtain rfl : k = n := by omega
            go_wp2_with fail
            go_ret2
            obtain ⟨a', cap', e1, e2, e3, e4, _⟩ := Cells.of_ownsRow hrow
            rw [HE.out, HL.out]
            exact ⟨_, rfl, .of_row ⟨a', cap', e1, e2, e3, e4⟩, HG.out⟩

/-- turns.Spread. -/
theorem Spread_good (c0 c1 c2 : Value) (a : Option Addr) (hs : List Bool) (cap : Nat) (hlen : hs.length ≤ 17592186044416) (t : Nat) (ht : t < 18446744073709551616) (n : Nat) (h1 : n ≤ 1000) (w : World) (hC : Cells w a (bv hs)) :
    Calls Try.prog 17 #[.agg #[c0, c1, c2, .slice a hs.length cap], .int .u64 t, .int .i64 n] w (GivesE w (Ints (spL hs t n)) (spE hs n)) := by
  by_cases hz : hl hs = []
  · have hE : spE hs n = 5 := by simp [spE, hz]; omega
    have hL : spL hs t n = [] := by simp [spL, hE]
    rw [hE, hL]
    exact Spread_none c0 c1 c2 a hs cap hlen t n (by omega) (by omega) hz w hC
  · have hE : spE hs n = 0 := by simp [spE, hz]; omega
    have hL : spL hs t n = spTo (hl hs) hs.length t n := by simp [spL, hE]
    rw [hE, hL]
    exact Spread_some c0 c1 c2 a hs cap hlen t ht n h1 hz w hC

theorem Spread_calls (c0 c1 c2 : Value) (a : Option Addr) (hs : List Bool) (cap : Nat) (hlen : hs.length ≤ 17592186044416) (t : Nat) (ht : t < 18446744073709551616) (n : Int) (w : World) (hC : Cells w a (bv hs)) :
    Calls Try.prog 17 #[.agg #[c0, c1, c2, .slice a hs.length cap], .int .u64 t, .int .i64 n] w (GivesE w (Ints (spL hs t n)) (spE hs n)) := by
  by_cases hn : n < 0 ∨ 1000 < n
  · have hE : spE hs n = 1 := by simp [spE, hn]
    have hL : spL hs t n = [] := by simp [spL, hE]
    rw [hE, hL]
    exact Spread_bad c0 c1 c2 _ t n hn w
  · obtain ⟨m, rfl⟩ := Int.eq_ofNat_of_zero_le (show 0 ≤ n by omega)
    exact Spread_good c0 c1 c2 a hs cap hlen t ht m (by omega) w hC

theorem refSpread_calls (c0 c1 c2 : Value) (a : Option Addr) (hs : List Bool) (cap : Nat) (hlen : hs.length ≤ 17592186044416) (t : Nat) (ht : t < 18446744073709551616) (n : Int) (w : World) (hC : Cells w a (bv hs)) :
    Calls Try.prog 18 #[.agg #[c0, c1, c2, .slice a hs.length cap], .int .u64 t, .int .i64 n] w (GivesE w (Ints (spL hs t n)) (spE hs n)) := by
  by_cases hn : n < 0 ∨ 1000 < n
  · have hE : spE hs n = 1 := by simp [spE, hn]
    have hL : spL hs t n = [] := by simp [spL, hE]
    rw [hE, hL]
    exact refSpread_bad c0 c1 c2 _ t n hn w
  · obtain ⟨m, rfl⟩ := Int.eq_ofNat_of_zero_le (show 0 ≤ n by omega)
    exact refSpread_good c0 c1 c2 a hs cap hlen t ht m (by omega) w hC

end Go.Proofs.Ytfegglolblglpaa

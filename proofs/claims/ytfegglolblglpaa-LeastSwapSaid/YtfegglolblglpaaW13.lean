/-
  The walks of layer 13: least.Draw, least.Less, least.Pick, and the document's own answers.
-/
import Derived.Test.YtfegglolblglpaaT12
import Derived.Deep.RegionHeld3
import Derived.Deep.QuietTactic
import Derived.BigQuiet
namespace Go.Proofs.Ytfegglolblglpaa
open Go.RowKit
set_option linter.unusedVariables false

/-- Who a draw means. -/
def drawA (hs : List Bool) (d : Int) : Int := (hl hs).getD (d % ((hl hs).length : Int)).toNat 0
/-- Which of two is taken. -/
def lessI (a x b y : Int) : Int := if x ≤ y then a else b
def pickE (hs : List Bool) (act : List Int) : Int := if act.length ≠ hs.length then 1 else turnE hs
def pickV (hs : List Bool) (d0 d1 : Int) (act : List Int) : Int :=
  if pickE hs act = 0 then lessI (drawA hs d0) (act.getD (drawA hs d0).toNat 0) (drawA hs d1) (act.getD (drawA hs d1).toNat 0) else 0

theorem drawA_nil {hs : List Bool} (h : hl hs = []) (d : Int) : drawA hs d = 0 := by simp [drawA, h]

/-- A draw's place among the healthy ones. -/
theorem draw_place {hs : List Bool} (h : hl hs ≠ []) (d : Int) : ∃ r j : Nat, d % ((hl hs).length : Int) = (r : Int) ∧ (hl hs)[r]? = some (j : Int) ∧ r < (hl hs).length ∧ j < hs.length ∧ hs[j]? = some true ∧ drawA hs d = j := by
  have hpos := List.length_pos_iff.2 h
  have h1 : 0 ≤ d % ((hl hs).length : Int) := Int.emod_nonneg _ (by omega)
  have h2 : d % ((hl hs).length : Int) < ((hl hs).length : Int) := Int.emod_lt_of_pos _ (by omega)
  obtain ⟨r, hr⟩ := Int.eq_ofNat_of_zero_le h1
  obtain ⟨j, hj1, hj2, hj3⟩ := hl_get (hs := hs) (i := r) (by omega)
  exact ⟨r, j, hr, hj1, by omega, hj2, hj3, by simp [drawA, hr, List.getD, hj1]⟩

theorem go_rest {d : Int} {n : Nat} (hn : 0 < n) : -(n : Int) < d.tmod n ∧ d.tmod n < n ∧ (d.tmod n + n) % (n : Int) = d % n := by
  refine ⟨?_, Int.tmod_lt_of_pos _ (by omega), ?_⟩
  · have := Int.lt_tmod_of_pos d (show (0 : Int) < n by omega)
    omega
  · rw [Int.add_emod_right]
    have := Int.tmod_def d n
    rw [this, Int.sub_emod, Int.mul_emod_right]
    simp

/-- A block of two numbers. -/
def Two (B : Nat) (x y : Int) (w : World) : Prop := w.heap[B]? = some (.cells #[.int .i64 x, .int .i64 y] 61 (0, 0))
theorem Two.cells {B : Nat} {x y : Int} {w : World} (h : Two B x y w) : w.cell? ⟨B, 0, none⟩ = some (.int .i64 x) ∧ w.cell? ⟨B, 1, none⟩ = some (.int .i64 y) ∧ w.frozen? ⟨B, 0, none⟩ = false ∧ w.frozen? ⟨B, 1, none⟩ = false := by
  have h : w.heap[B]? = _ := h
  refine ⟨?_, ?_, ?_, ?_⟩ <;> simp [World.cell?, World.frozen?, h]
theorem Two.set0 {B : Nat} {x y : Int} {w : World} (h : Two B x y w) (z : Int) : Two B z y (w.setCell ⟨B, 0, none⟩ (.int .i64 z)) := by
  obtain ⟨hlt, hk⟩ := Array.getElem?_eq_some_iff.1 h
  show (w.heap.modify B _)[B]? = _
  rw [Array.getElem?_eq_getElem (by rw [Array.size_modify]; exact hlt), Array.getElem_modify_self, hk]
  rfl
theorem Two.set1 {B : Nat} {x y : Int} {w : World} (h : Two B x y w) (z : Int) : Two B x z (w.setCell ⟨B, 1, none⟩ (.int .i64 z)) := by
  obtain ⟨hlt, hk⟩ := Array.getElem?_eq_some_iff.1 h
  show (w.heap.modify B _)[B]? = _
  rw [Array.getElem?_eq_getElem (by rw [Array.size_modify]; exact hlt), Array.getElem_modify_self, hk]
  rfl
theorem Two.new (w : World) (x y : Int) : Two w.heap.size x y (w.alloc (.cells #[.int .i64 x, .int .i64 y] 61)) := heap_alloc_new w _

/-- Where the loop over the two draws stands. -/
def Drawn (B : Nat) (d0 d1 a b : Int) (k : Nat) (w : World) : Prop := (k = 0 ∧ Two B d0 d1 w) ∨ (k = 1 ∧ Two B a d1 w) ∨ (k = 2 ∧ Two B a b w)

set_option maxHeartbeats 1000000 in
theorem Draw_calls (c0 c1 c2 : Value) (a : Option Addr) (hs : List Bool) (cap : Nat) (hlen : hs.length ≤ 1000) (d0 d1 : Int) (b0 : -9223372036854775808 ≤ d0 ∧ d0 ≤ 9223372036854775807) (b1 : -9223372036854775808 ≤ d1 ∧ d1 ≤ 9223372036854775807) (w : World) (hC : Cells w a (bv hs)) :
    Calls Try.prog 34 #[.agg #[c0, c1, c2, .slice a hs.length cap], .int .i64 d0, .int .i64 d1] w fun e w' => e = .returned (.tuple #[.int .i64 (drawA hs d0), .int .i64 (drawA hs d1), .int .i64 (turnE hs)]) ∧ Below w.heap.size w w' := by
  have hl3 : hs.length ≤ 17592186044416 := by omega
  have H0 : Below w.heap.size w (w.alloc (Obj.cells #[c0, c1, c2, Value.slice a hs.length cap] 24)) := (Below.refl _ w).alloc (Nat.le_refl _) _
  by_cases hz : hl hs = []
  · rw [drawA_nil hz, drawA_nil hz, show turnE hs = 5 by simp [turnE, hz]]
    have hz2 : ((hl hs).length == 0) = true := by simp [hz]
    clear hz
    go_enter Try.func34, Try.ntmps34
    go_wp2_with (go_at_call 21; refine (Healthy_calls _ _ _ _ _ _ hl3 _ (hC.alloc _)).mono ?_; rintro e w1 ⟨v, rfl, ⟨a1, cap1, rfl, h1, h2, h3⟩, h4⟩)
    go_ret3
    exact ⟨rfl, fur H0 h4⟩
  · have hpos : 0 < (hl hs).length := List.length_pos_iff.2 hz
    have hbd : (hl hs).length ≤ 1000 := Nat.le_trans (hl_le hs) hlen
    obtain ⟨r0, j0, q0, g0, l0, m0, _, e0⟩ := draw_place hz d0
    obtain ⟨r1, j1, q1, g1, l1, m1, _, e1⟩ := draw_place hz d1
    rw [e0, e1, show turnE hs = 0 by simp [turnE, hz]]
    obtain ⟨t0, t1, t2⟩ := go_rest (d := d0) hpos
    obtain ⟨s0, s1, s2⟩ := go_rest (d := d1) hpos
    rw [q0] at t2
    rw [q1] at s2
    have hz3 : (((hl hs).length : Int) == 0) = false := by simp; omega
    have G0 := Lib.hid g0
    have G1 := Lib.hid g1
    clear hz e0 e1 q0 q1 g0 g1
    go_enter Try.func34, Try.ntmps34
    go_wp2_with (go_at_call 21; refine (Healthy_calls _ _ _ _ _ _ hl3 _ (hC.alloc _)).mono ?_; rintro e w1 ⟨v, rfl, ⟨a1, cap1, rfl, h1, h2, h3⟩, h4⟩)
    go_loopw [22] (fun i wr => ∃ k : Nat, i = .int .i64 k ∧ Drawn w1.heap.size d0 d1 j0 j1 k wr ∧ Below w1.heap.size w1 wr) (fun i _ => 2 - (intOf i).toNat)
    case atStart => exact ⟨0, rfl, .inl ⟨rfl, Two.new _ _ _⟩, (Below.refl _ _).alloc (Nat.le_refl _) _⟩
    case round =>
      obtain ⟨k, rfl, hD, hnx⟩ := hrel
      have HN := Lib.hid hnx
      have H3 := Lib.hid h3
      clear hnx h3
      rcases hD with ⟨rfl, hT⟩ | ⟨rfl, hT⟩ | ⟨rfl, hT⟩
      · obtain ⟨p0, p1, f0, f1⟩ := hT.cells
        obtain ⟨bl, ol, rfl, hcl⟩ := (H3.out.below HN.out) _ _ (iv_get G0.out)
        have HT := Lib.hid hT
        clear hT
        go_wp2_with fail
        go_roundw
        case rel => exact ⟨1, rfl, .inr (.inl ⟨rfl, HT.out.set0 _⟩), HN.out.setCell (Nat.le_refl _) _⟩
        case measure => simp [intOf]
      · obtain ⟨p0, p1, f0, f1⟩ := hT.cells
        obtain ⟨bl, ol, rfl, hcl⟩ := (H3.out.below HN.out) _ _ (iv_get G1.out)
        have HT := Lib.hid hT
        clear hT
        go_wp2_with fail
        go_roundw
        case rel => exact ⟨2, rfl, .inr (.inr ⟨rfl, HT.out.set1 _⟩), HN.out.setCell (Nat.le_refl _) _⟩
        case measure => simp [intOf]
      · obtain ⟨p0, p1, f0, f1⟩ := hT.cells
        go_wp2_with fail
        go_quiet (fail)
        go_wp2
        go_ret3
        exact ⟨rfl, fur H0 (fur h4 (below_drewN HN.out _))⟩

set_option maxHeartbeats 400000 in
theorem rest_calls (d : Int) (n r : Nat) (hn : 0 < n) (hn2 : n ≤ 1000) (hr : d % (n : Int) = r) (w : World) :
    Calls Try.prog 43 #[.int .i64 d, .int .i64 n] w fun e w' => e = .returned (.int .i64 r) ∧ w' = w := by
  obtain ⟨t0, t1, t2⟩ := go_rest (d := d) hn
  rw [hr] at t2
  have hlt : (r : Int) < n := by rw [← hr]; exact Int.emod_lt_of_pos _ (by omega)
  by_cases hneg : d.tmod n < 0
  · have e : d.tmod n + n = (r : Int) := by rw [← t2, Int.emod_eq_of_lt (by omega) (by omega)]
    have E := Lib.hid e
    clear e t2 hr
    go_enter Try.func43, Try.ntmps43
    go_wp2
    go_ret
    exact ⟨by rw [← E.out]; rfl, rfl⟩
  · have e : d.tmod n = (r : Int) := by
      rw [Int.add_emod_right, Int.emod_eq_of_lt (by omega) (by omega)] at t2
      exact t2
    have E := Lib.hid e
    clear e t2 hr
    go_enter Try.func43, Try.ntmps43
    go_wp2
    go_ret
    exact ⟨by rw [← E.out]; rfl, rfl⟩

set_option maxHeartbeats 1000000 in
theorem refDraw_calls (c0 c1 c2 : Value) (a : Option Addr) (hs : List Bool) (cap : Nat) (hlen : hs.length ≤ 1000) (d0 d1 : Int) (w : World) (hC : Cells w a (bv hs)) :
    Calls Try.prog 35 #[.agg #[c0, c1, c2, .slice a hs.length cap], .int .i64 d0, .int .i64 d1] w fun e w' => e = .returned (.tuple #[.int .i64 (drawA hs d0), .int .i64 (drawA hs d1), .int .i64 (turnE hs)]) ∧ Below w.heap.size w w' := by
  have hl3 : hs.length ≤ 17592186044416 := by omega
  have H0 : Below w.heap.size w (w.alloc (Obj.cells #[c0, c1, c2, Value.slice a hs.length cap] 24)) := (Below.refl _ w).alloc (Nat.le_refl _) _
  by_cases hz : hl hs = []
  · rw [drawA_nil hz, drawA_nil hz, show turnE hs = 5 by simp [turnE, hz]]
    have hz2 : ((hl hs).length == 0) = true := by simp [hz]
    clear hz
    go_enter Try.func35, Try.ntmps35
    go_wp2_with (go_at_call 22; refine (refHealthy_calls _ _ _ _ _ _ hl3 _ (hC.alloc _)).mono ?_; rintro e w1 ⟨v, rfl, ⟨a1, cap1, rfl, h1, h2, h3⟩, h4⟩)
    go_ret3
    exact ⟨rfl, fur H0 h4⟩
  · have hpos : 0 < (hl hs).length := List.length_pos_iff.2 hz
    have hbd : (hl hs).length ≤ 1000 := Nat.le_trans (hl_le hs) hlen
    obtain ⟨r0, j0, q0, g0, l0, m0, _, e0⟩ := draw_place hz d0
    obtain ⟨r1, j1, q1, g1, l1, m1, _, e1⟩ := draw_place hz d1
    rw [e0, e1, show turnE hs = 0 by simp [turnE, hz]]
    have hz3 : (((hl hs).length : Int) == 0) = false := by simp; omega
    have k0 : (r0 : Int) < ((hl hs).length : Int) := by omega
    have k1 : (r1 : Int) < ((hl hs).length : Int) := by omega
    have G0 := Lib.hid g0
    have G1 := Lib.hid g1
    have Q0 := Lib.hid q0
    have Q1 := Lib.hid q1
    clear hz e0 e1 q0 q1 g0 g1
    go_enter Try.func35, Try.ntmps35
    go_wp2_with (go_at_call 22; refine (refHealthy_calls _ _ _ _ _ _ hl3 _ (hC.alloc _)).mono ?_; rintro e w1 ⟨v, rfl, ⟨a1, cap1, rfl, h1, h2, h3⟩, h4⟩; obtain ⟨bl, ol, rfl, hcl⟩ := h3 _ _ (iv_get G0.out); obtain ⟨bl2, ol2, el, hcl2⟩ := h3 _ _ (iv_get G1.out); cases el; clear h3)
    go_quiet ((first | (go_at_call_of 43 d0; exact Calls.quiet_of_same (rest_calls d0 _ r0 hpos hbd Q0.out _)) | (go_at_call_of 43 d1; exact Calls.quiet_of_same (rest_calls d1 _ r1 hpos hbd Q1.out _))))
    go_wp2
    go_ret3
    exact ⟨rfl, fur H0 (below_drewN h4 _)⟩

set_option maxHeartbeats 400000 in
theorem Less_calls (a x b y : Int) (w : World) : Calls Try.prog 39 #[.int .i64 a, .int .i64 x, .int .i64 b, .int .i64 y] w fun e w' => e = .returned (.int .i64 (lessI a x b y)) ∧ w' = w := by
  by_cases h : x ≤ y
  · rw [show lessI a x b y = a by simp [lessI, h]]
    go_enter Try.func39, Try.ntmps39
    go_wp2
    go_ret
    exact ⟨rfl, rfl⟩
  · rw [show lessI a x b y = b by simp [lessI, h]]
    go_enter Try.func39, Try.ntmps39
    go_wp2
    go_ret
    exact ⟨rfl, rfl⟩

set_option maxHeartbeats 400000 in
theorem refLess_calls (a x b y : Int) (w : World) : Calls Try.prog 40 #[.int .i64 a, .int .i64 x, .int .i64 b, .int .i64 y] w fun e w' => e = .returned (.int .i64 (lessI a x b y)) ∧ w' = w := by
  by_cases h : x ≤ y
  · rw [show lessI a x b y = a by simp [lessI, h]]
    go_enter Try.func40, Try.ntmps40
    go_wp2
    go_ret
    exact ⟨rfl, rfl⟩
  · rw [show lessI a x b y = b by simp [lessI, h]]
    go_enter Try.func40, Try.ntmps40
    go_wp2
    go_ret
    exact ⟨rfl, rfl⟩

set_option maxHeartbeats 1000000 in
theorem Pick_calls (c0 c1 c2 : Value) (a : Option Addr) (hs : List Bool) (cap : Nat) (hlen : hs.length ≤ 1000) (d0 d1 : Int) (b0 : -9223372036854775808 ≤ d0 ∧ d0 ≤ 9223372036854775807) (b1 : -9223372036854775808 ≤ d1 ∧ d1 ≤ 9223372036854775807)
    (aa : Option Addr) (act : List Int) (ca : Nat) (w : World) (hC : Cells w a (bv hs)) (hA : Cells w aa (iv act)) :
    Calls Try.prog 36 #[.agg #[c0, c1, c2, .slice a hs.length cap], .int .i64 d0, .int .i64 d1, .slice aa act.length ca] w fun e w' => e = .returned (.tuple #[.int .i64 (pickV hs d0 d1 act), .int .i64 (pickE hs act)]) ∧ Below w.heap.size w w' := by
  have H0 : Below w.heap.size w (w.alloc (Obj.cells #[c0, c1, c2, Value.slice a hs.length cap] 24)) := (Below.refl _ w).alloc (Nat.le_refl _) _
  have hA1 := hA.below H0
  have hC1 := hC.below H0
  by_cases hal : act.length = hs.length
  · have hne : ((act.length : Int) != (hs.length : Int)) = false := by simp [hal]
    have hpe : pickE hs act = turnE hs := by simp [pickE, hal]
    by_cases hz : turnE hs = 0
    · have hzz : hl hs ≠ [] := by intro e; simp [turnE, e] at hz
      obtain ⟨r0, j0, q0, g0, l0, m0, _, e0⟩ := draw_place hzz d0
      obtain ⟨r1, j1, q1, g1, l1, m1, _, e1⟩ := draw_place hzz d1
      obtain ⟨x, hx⟩ := get_of_lt (xs := act) (k := j0) (by omega)
      obtain ⟨y, hy⟩ := get_of_lt (xs := act) (k := j1) (by omega)
      have hpv : pickV hs d0 d1 act = lessI j0 x j1 y := by simp [pickV, hpe, hz, e0, e1, List.getD, hx, hy]
      rw [hpv, hpe, hz]
      have k0 : (j0 : Int) < (act.length : Int) := by omega
      have k1 : (j1 : Int) < (act.length : Int) := by omega
      have E0 := Lib.hid e0
      have E1 := Lib.hid e1
      have EZ := Lib.hid hz
      have HX := Lib.hid hx
      have HY := Lib.hid hy
      have HL := Lib.hid hal
      have HC1 := Lib.hid hC1
      have HA1 := Lib.hid hA1
      clear e0 e1 hz hx hy hal q0 g0 q1 g1 hpv hpe hC hA hzz hC1 hA1
      go_enter Try.func36, Try.ntmps36
      go_wp2_with fail
      refine (Draw_calls _ _ _ _ _ _ hlen _ _ b0 b1 _ HC1.out).mono ?_
      rintro e w1 ⟨rfl, hB1⟩
      rw [E0.out, E1.out, EZ.out]
      obtain ⟨bl, ol, rfl, hcl⟩ := (HA1.out.below hB1) _ _ (iv_get HX.out)
      obtain ⟨bl2, ol2, el, hcl2⟩ := (HA1.out.below hB1) _ _ (iv_get HY.out)
      cases el
      go_wp2_with fail
      go_quiet ((go_at_call 39; exact Calls.quiet_of_same (Less_calls _ _ _ _ _)))
      go_wp2
      go_ret2
      exact ⟨rfl, fur H0 (below_drewN hB1 _)⟩
    · have hpv : pickV hs d0 d1 act = 0 := by simp [pickV, hpe, hz]
      rw [hpv, hpe]
      have hz5 : turnE hs = 5 := by
        simp only [turnE] at hz ⊢
        split
        · rfl
        · rename_i h; simp [h] at hz
      have EZ := Lib.hid hz5
      have HL := Lib.hid hal
      clear hal hz hpv hpe hz5
      rw [EZ.out]
      go_enter Try.func36, Try.ntmps36
      go_wp2_with fail
      refine (Draw_calls _ _ _ _ _ _ hlen _ _ b0 b1 _ hC1).mono ?_
      rintro e w1 ⟨rfl, hB1⟩
      rw [EZ.out]
      go_wp2_with fail
      go_ret2
      exact ⟨rfl, fur H0 hB1⟩
  · have hne : ((act.length : Int) != (hs.length : Int)) = true := by simp; omega
    have hpe : pickE hs act = 1 := by simp [pickE, hal]
    rw [show pickV hs d0 d1 act = 0 by simp [pickV, hpe], hpe]
    clear hpe hal
    go_enter Try.func36, Try.ntmps36
    go_wp2_with fail
    go_ret2
    exact ⟨rfl, H0⟩

set_option maxHeartbeats 1000000 in
theorem refPick_calls (c0 c1 c2 : Value) (a : Option Addr) (hs : List Bool) (cap : Nat) (hlen : hs.length ≤ 1000) (d0 d1 : Int) 
    (aa : Option Addr) (act : List Int) (ca : Nat) (w : World) (hC : Cells w a (bv hs)) (hA : Cells w aa (iv act)) :
    Calls Try.prog 37 #[.agg #[c0, c1, c2, .slice a hs.length cap], .int .i64 d0, .int .i64 d1, .slice aa act.length ca] w fun e w' => e = .returned (.tuple #[.int .i64 (pickV hs d0 d1 act), .int .i64 (pickE hs act)]) ∧ Below w.heap.size w w' := by
  have H0 : Below w.heap.size w (w.alloc (Obj.cells #[c0, c1, c2, Value.slice a hs.length cap] 24)) := (Below.refl _ w).alloc (Nat.le_refl _) _
  have hA1 := hA.below H0
  have hC1 := hC.below H0
  by_cases hal : act.length = hs.length
  · have hne : ((act.length : Int) != (hs.length : Int)) = false := by simp [hal]
    have hpe : pickE hs act = turnE hs := by simp [pickE, hal]
    by_cases hz : turnE hs = 0
    · have hzz : hl hs ≠ [] := by intro e; simp [turnE, e] at hz
      obtain ⟨r0, j0, q0, g0, l0, m0, _, e0⟩ := draw_place hzz d0
      obtain ⟨r1, j1, q1, g1, l1, m1, _, e1⟩ := draw_place hzz d1
      obtain ⟨x, hx⟩ := get_of_lt (xs := act) (k := j0) (by omega)
      obtain ⟨y, hy⟩ := get_of_lt (xs := act) (k := j1) (by omega)
      have hpv : pickV hs d0 d1 act = lessI j0 x j1 y := by simp [pickV, hpe, hz, e0, e1, List.getD, hx, hy]
      rw [hpv, hpe, hz]
      have k0 : (j0 : Int) < (act.length : Int) := by omega
      have k1 : (j1 : Int) < (act.length : Int) := by omega
      have E0 := Lib.hid e0
      have E1 := Lib.hid e1
      have EZ := Lib.hid hz
      have HX := Lib.hid hx
      have HY := Lib.hid hy
      have HL := Lib.hid hal
      have HC1 := Lib.hid hC1
      have HA1 := Lib.hid hA1
      clear e0 e1 hz hx hy hal q0 g0 q1 g1 hpv hpe hC hA hzz hC1 hA1
      go_enter Try.func37, Try.ntmps37
      go_wp2_with fail
      refine (refDraw_calls _ _ _ _ _ _ hlen _ _ _ HC1.out).mono ?_
      rintro e w1 ⟨rfl, hB1⟩
      rw [E0.out, E1.out, EZ.out]
      obtain ⟨bl, ol, rfl, hcl⟩ := (HA1.out.below hB1) _ _ (iv_get HX.out)
      obtain ⟨bl2, ol2, el, hcl2⟩ := (HA1.out.below hB1) _ _ (iv_get HY.out)
      cases el
      go_wp2_with fail
      go_quiet ((go_at_call 40; exact Calls.quiet_of_same (refLess_calls _ _ _ _ _)))
      go_wp2
      go_ret2
      exact ⟨rfl, fur H0 (below_drewN hB1 _)⟩
    · have hpv : pickV hs d0 d1 act = 0 := by simp [pickV, hpe, hz]
      rw [hpv, hpe]
      have hz5 : turnE hs = 5 := by
        simp only [turnE] at hz ⊢
        split
        · rfl
        · rename_i h; simp [h] at hz
      have EZ := Lib.hid hz5
      have HL := Lib.hid hal
      clear hal hz hpv hpe hz5
      rw [EZ.out]
      go_enter Try.func37, Try.ntmps37
      go_wp2_with fail
      refine (refDraw_calls _ _ _ _ _ _ hlen _ _ _ hC1).mono ?_
      rintro e w1 ⟨rfl, hB1⟩
      rw [EZ.out]
      go_wp2_with fail
      go_ret2
      exact ⟨rfl, fur H0 hB1⟩
  · have hne : ((act.length : Int) != (hs.length : Int)) = true := by simp; omega
    have hpe : pickE hs act = 1 := by simp [pickE, hal]
    rw [show pickV hs d0 d1 act = 0 by simp [pickV, hpe], hpe]
    clear hpe hal
    go_enter Try.func37, Try.ntmps37
    go_wp2_with fail
    go_ret2
    exact ⟨rfl, H0⟩

end Go.Proofs.Ytfegglolblglpaa

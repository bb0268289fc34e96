/-
  The walk of the statement CellTexts.
-/
import Derived.Test.YtfegglolblglpabHeld
import Derived.Deep.RegionWith
namespace Go.Proofs.Ytfegglolblglpab
open Go.RowKit
set_option linter.unusedVariables false

theorem text_in {w w' : World} {p : Addr} {v : Value} (h : Below w.heap.size w w') (hc : w.cell? p = some v) : w'.cell? p = some v := by
  rw [h.cell (World.block_lt_of_cell? _ _ hc)]
  exact hc

/-- Texts as values. -/
def sv (xs : List ByteArray) : List Value := xs.map Value.string
theorem sv_get {xs : List ByteArray} {i : Nat} {x : ByteArray} (h : xs[i]? = some x) : (sv xs)[i]? = some (.string x) := by simp [sv, h]

theorem CasS_left {c : Nat} {n u : ByteArray} {k : Int} (v : ByteArray) {w : World} (h : CellS c n k w) (hne : (n.toList == u.toList) = false) : Calls Try.prog 20 #[.pointer (some ⟨c, 0, none⟩), .string u, .string v] w (fun e w' => e = .returned (.bool false) ∧ CellS c n (inc64 k) w' ∧ Left c w w') := by
  obtain ⟨b, h⟩ := h
  refine (CasS_miss c b n u v k w h hne).mono ?_
  rintro e w' ⟨rfl, h', rfl⟩
  exact ⟨rfl, ⟨_, h'⟩, Left.miss _ _ _ _ _⟩

theorem CellS.drew {c : Nat} {n : ByteArray} {k : Int} {w : World} (h : CellS c n k w) : CellS c n k w.drew := h
theorem below_drew {B : Nat} {w w' : World} (h : Below B w w') : Below B w w'.drew := h.drew

def nthS (v : ByteArray) (ls : List ByteArray) (i : Nat) : ByteArray := (v :: ls).getD i .empty

set_option maxRecDepth 100000 in
set_option maxHeartbeats 4000000 in
theorem cellTexts_small (v : ByteArray) (la : Option Addr) (ls : List ByteArray) (lc : Nat) (hl : ls.length ≤ 1000) (w : World) (hL : Cells w la (sv ls)) :
    Calls Try.prog 4 #[.string v, .slice la ls.length lc] w (fun e w' => e = .returned (.bool true) ∧ Below w.heap.size w w') := by
  have g1 : decide ((ls.length : Int) > 1000) = false := by simp; omega
  go_enter Try.func4, Try.ntmps4
  go_wp2_with fail
  refine (NewS_calls v w).mono ?_
  rintro e w1 ⟨rfl, h1, b1⟩
  have C1 := Lib.hid (show CellS (w.heap.size + 1) v 0 w1 from ⟨_, h1⟩)
  have B1 := Lib.hid b1
  have hwc : w.heap.size ≤ w.heap.size + 1 := by omega
  clear h1 b1
  generalize hcc : w.heap.size + 1 = c at *
  clear hcc
  go_wp2_with fail
  go_loopw [0, 6] (fun sx kv wr => ∃ (i : Nat) (k : Int), i ≤ ls.length ∧ kv = .int .i64 i ∧ sx = .string (nthS v ls i) ∧ CellS c (nthS v ls i) k wr ∧ Below w.heap.size w wr)
    (fun _ kv _ => ls.length - (intOf kv).toNat)
  case atStart => exact ⟨0, 0, Nat.zero_le _, rfl, rfl, C1.out, B1.out⟩
  case round =>
    obtain ⟨i, k, hi', rfl, rfl, hC, hB⟩ := hrel
    have C0 := Lib.hid hC.drew
    have C0' := Lib.hid hC
    have B0 := Lib.hid hB
    clear hC hB
    by_cases q1 : i < ls.length
    · obtain ⟨x', hx⟩ := get_of_lt q1
      obtain ⟨p1, o1, rfl, LC⟩ := hL _ _ (sv_get hx)
      have hn : nthS v ls (i + 1) = x' := by simp [nthS, List.getD, hx]
      have HN := Lib.hid hn
      clear hx hn
      have hL0 := text_in B0.out LC
      generalize hcur : nthS v ls i = cur at *
      clear hcur
      go_wp2_with fail
      go_region_with (first | (go_at_call 20; refine (CasS_cell x' C0.out).mono ?_; rintro e w2 ⟨rfl, cc, l⟩; have B2 := Lib.hid (l.below (below_drew B0.out) B0.out.size hwc); have hL2 := text_in B2.out LC; have C2 := Lib.hid cc; clear cc l) | (go_at_call 21; refine (Load_cellS C2.out).mono ?_; rintro e w3 ⟨rfl, cc, l⟩; have B3 := Lib.hid (l.below B2.out B2.out.size hwc); have hL3 := text_in B3.out LC; have C3 := Lib.hid cc; clear cc l))
      all_goals
        clear hL0 hL2 C0 C0' B0 B2 C2
        have C4 := Lib.hid C3.out
        by_cases hq : (x'.toList == cur.toList) = true
        · have hq' : (x'.toList != cur.toList) = false := by simpa using hq
          go_wp2_with fail
          go_roundw
          case rel => exact ⟨i + 1, _, by omega, by go_num, by rw [HN.out], by rw [HN.out]; exact C3.out, B3.out⟩
          case measure => simp [intOf]; omega
        · have hq1 : (x'.toList == cur.toList) = false := by simpa using hq
          have hq' : (x'.toList != cur.toList) = true := by simpa using hq
          have HQ := Lib.hid hq1
          clear hq
          go_wp2_with fail
          refine (CasS_left .empty C3.out HQ.out).mono ?_
          rintro e w4 ⟨rfl, cc, l⟩
          have B4 := Lib.hid (l.below B3.out B3.out.size hwc)
          have hL4 := text_in B4.out LC
          have C5 := Lib.hid cc
          clear cc l
          go_wp2_with fail
          go_roundw
          case rel => exact ⟨i + 1, _, by omega, by go_num, by rw [HN.out], by rw [HN.out]; exact C5.out, B4.out⟩
          case measure => simp [intOf]; omega
    · obtain rfl : i = ls.length := by omega
      generalize hcur : nthS v ls ls.length = cur at *
      clear hcur
      go_wp2_with fail
      refine (held_calls wr).mono ?_
      rintro e w2 ⟨rfl, b2⟩
      have C2 := Lib.hid (C0'.out.below b2)
      have B2 := Lib.hid (B0.out.trans (b2.mono B0.out.size))
      clear b2 C0 C0' B0
      go_wp2_with fail
      refine (Load_cellS C2.out).mono ?_
      rintro e w3 ⟨rfl, cc, l⟩
      have B3 := Lib.hid (l.below B2.out B2.out.size hwc)
      clear cc l
      go_wp2_with fail
      go_ret
      exact ⟨rfl, B3.out⟩

theorem cellTexts_walk (v : ByteArray) (la : Option Addr) (ls : List ByteArray) (lc : Nat) (hll : ls.length ≤ 9223372036854775807) (w : World) (hL : Cells w la (sv ls)) :
    Calls Try.prog 4 #[.string v, .slice la ls.length lc] w (fun e w' => e = .returned (.bool true) ∧ Below w.heap.size w w') := by
  by_cases hl : ls.length ≤ 1000
  · exact cellTexts_small v la ls lc hl w hL
  · have g1 : decide ((ls.length : Int) > 1000) = true := by simp; omega
    go_enter Try.func4, Try.ntmps4
    go_wp2_with fail
    go_ret
    exact ⟨rfl, Below.refl _ _⟩

end Go.Proofs.Ytfegglolblglpab

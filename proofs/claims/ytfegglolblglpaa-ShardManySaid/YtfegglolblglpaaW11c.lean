/-
  The walks of shard.Sum and the document's own Sum.
-/
import Derived.Test.YtfegglolblglpaaW11
import Derived.RegionTactic
import Derived.ChangeAlike
namespace Go.Proofs.Ytfegglolblglpaa
open Go.RowKit
set_option linter.unusedVariables false

/-- Block B is an array of six counts. -/
def Six (B : Nat) (L : List Int) (w : World) : Prop := w.heap[B]? = some (.cells (uv L).toArray 41 (0, 0)) ∧ L.length = 6
theorem Six.at {B : Nat} {L : List Int} {w : World} (h : Six B L w) {k : Nat} {x : Int} (hx : L[k]? = some x) : w.cell? ⟨B, k, none⟩ = some (.int .u64 x) ∧ w.frozen? ⟨B, k, none⟩ = false := by
  have h1 : w.heap[B]? = _ := h.1
  refine ⟨?_, ?_⟩
  · simp [World.cell?, h1, uv, hx]
  · simp [World.frozen?, h1]
theorem Six.set {B : Nat} {L : List Int} {w : World} (h : Six B L w) (k : Nat) (y : Int) : Six B (L.set k y) (w.setCell ⟨B, k, none⟩ (.int .u64 y)) := by
  obtain ⟨hlt, hk⟩ := Array.getElem?_eq_some_iff.1 h.1
  refine ⟨?_, by simp [h.2]⟩
  show (w.heap.modify B _)[B]? = _
  rw [Array.getElem?_eq_getElem (by rw [Array.size_modify]; exact hlt), Array.getElem_modify_self, hk]
  simp [uv, List.map_set]
theorem Six.other {B : Nat} {L : List Int} {w : World} (h : Six B L w) {p : Addr} (hp : p.block ≠ B) (u : Value) : Six B L (w.setCell p u) :=
  ⟨(Below.heap_setCell w p u B (fun e => hp e.symm)).trans h.1, h.2⟩
theorem Six.drew {B : Nat} {L : List Int} {w : World} (h : Six B L w) (n : Nat) : Six B L (w.drewN n) := h
theorem Six.below {B : Nat} {L : List Int} {w w' : World} (h : Six B L w) (hb : Below w.heap.size w w') : Six B L w' := ⟨(hb.block B (Array.getElem?_eq_some_iff.1 h.1).1).trans h.1, h.2⟩

/-- Where adding row i stands when k of its counts are added. -/
def rowState (xss : List (List Int)) (i k : Nat) : List Int := (List.range 6).map fun j => if j < k then colTo xss j (i + 1) else colTo xss j i
theorem rowState_length (xss : List (List Int)) (i k : Nat) : (rowState xss i k).length = 6 := by simp [rowState]
theorem rowState_full (xss : List (List Int)) (i : Nat) : rowState xss i 6 = rowState xss (i + 1) 0 := by
  unfold rowState
  refine List.map_congr_left fun j hj => ?_
  have := List.mem_range.1 hj
  simp [this]
theorem rowState_at {xss : List (List Int)} {i k : Nat} (hk : k < 6) : (rowState xss i k)[k]? = some (colTo xss k i) := by
  simp [rowState, hk]
theorem rowState_step {xss : List (List Int)} {i k : Nat} (hk : k < 6) : (rowState xss i k).set k (colTo xss k (i + 1)) = rowState xss i (k + 1) := by
  apply List.ext_getElem?
  intro j
  simp only [rowState, List.getElem?_set, List.length_map, List.length_range, List.getElem?_map]
  by_cases hj : j < 6
  · by_cases e : k = j
    · subst e
      simp [hj]
    · simp only [e, if_false, hj, List.getElem?_range, Option.map_some]
      have h1 : (j < k + 1) ↔ (j < k) := by omega
      simp [h1]
  · have hj' : (List.range 6)[j]? = none := by simp; omega
    have e : ¬ k = j := by omega
    simp [hj', e]
theorem rowState_six (xss : List (List Int)) (i : Nat) : rowState xss i 0 = [colTo xss 0 i, colTo xss 1 i, colTo xss 2 i, colTo xss 3 i, colTo xss 4 i, colTo xss 5 i] := by
  simp [rowState, List.range_succ]
theorem colTo_step {xss : List (List Int)} {k i : Nat} {r : List Int} {x : Int} (hr : xss[i]? = some r) (hx : r[k]? = some x) : colTo xss k (i + 1) = IntKind.u64.wrap (colTo xss k i + x) := by
  simp [colTo, List.getD, hr, hx]

theorem isB_parts {xss : List (List Int)} (h : isB xss = true) : (∀ r ∈ xss, r.length = 6) ∧ 1 ≤ xss.length ∧ xss.length ≤ 8 := by simpa [isB] using h

/-- What a sum comes to. -/
def Summed (xss : List (List Int)) (w : World) (e : Ending) (w' : World) : Prop :=
  e = .returned (.tuple #[.agg #[.int .u64 (sumK xss 0), .int .u64 (sumK xss 1), .int .u64 (sumK xss 2), .int .u64 (sumK xss 3), .int .u64 (sumK xss 4), .int .u64 (sumK xss 5)], .int .i64 (sumE xss)]) ∧ Below w.heap.size w w'

set_option maxRecDepth 100000 in
set_option maxHeartbeats 2000000 in
theorem Sum_calls (a : Option Addr) (xss : List (List Int)) (cap : Nat) (hl : xss.length ≤ 9223372036854775807) (w : World) (hG : Grid w a xss) :
    Calls Try.prog 26 #[.slice a xss.length cap] w (Summed xss w) := by
  have H0 : Below w.heap.size w ((w.alloc (Obj.cells #[.int .u64 0, .int .u64 0, .int .u64 0, .int .u64 0, .int .u64 0, .int .u64 0] 41)).alloc (Obj.cells #[.int .u64 0, .int .u64 0, .int .u64 0, .int .u64 0, .int .u64 0, .int .u64 0] 41)) :=
    ((Below.refl _ w).alloc (Nat.le_refl _) _).alloc (by simp) _
  have hG0 := hG.below H0
  by_cases hB : isB xss = true
  · obtain ⟨p6, p1, p8⟩ := isB_parts hB
    have P6 := Lib.hid p6
    clear p6
    have HB := Lib.hid hB
    clear hB
    go_enter Try.func26, Try.ntmps26
    go_wp2_with (go_at_call 32; refine (Is_calls _ _ _ hl _ hG0).mono ?_; rintro e w' ⟨rfl, rfl⟩; rw [HB.out])
    go_loopw [14] (fun iv_ wr => ∃ i : Nat, i ≤ xss.length ∧ iv_ = .int .i64 i ∧ Six (w.heap.size + 1) (rowState xss i 0) wr ∧ Six w.heap.size zeros wr ∧ Below w.heap.size w wr)
      (fun iv_ _ => xss.length - (intOf iv_).toNat)
    case atStart =>
      refine ⟨0, Nat.zero_le _, rfl, ⟨?_, rowState_length _ _ _⟩, ⟨?_, rfl⟩, H0⟩
      · rw [rowState_six]
        have := heap_alloc_new (w.alloc (Obj.cells #[.int .u64 0, .int .u64 0, .int .u64 0, .int .u64 0, .int .u64 0, .int .u64 0] 41)) (Obj.cells #[.int .u64 0, .int .u64 0, .int .u64 0, .int .u64 0, .int .u64 0, .int .u64 0] 41)
        rw [World.size_alloc] at this
        exact this
      · exact (Below.heap_alloc _ _ _ (by simp)).trans (heap_alloc_new w _)
    case round =>
      obtain ⟨i, hi, rfl, hS, hZ, hnx⟩ := hrel
      have HN := Lib.hid hnx
      have HZ := Lib.hid hZ
      have HS := Lib.hid hS
      clear hnx hZ hS
      by_cases hlt : i < xss.length
      · obtain ⟨r, hr⟩ := get_of_lt hlt
        have hr6 : r.length = 6 := P6.out r (List.mem_of_getElem? hr)
        obtain ⟨b1, o1, a1, c1, rfl, hc0, hu1⟩ := hG.at hr
        rw [hr6] at hc0
        have hc1 : wr.cell? ⟨b1, o1 + i, none⟩ = some (.slice a1 6 c1) := by rw [HN.out.cell (World.block_lt_of_cell? _ _ hc0)]; exact hc0
        have HR := Lib.hid hr
        have HR6 := Lib.hid hr6
        have HU := Lib.hid hu1
        clear hr hr6 hu1 hc0
        go_wp2_with fail
        obtain ⟨wo, hwo⟩ : ∃ wo : World, wr = wo := ⟨_, rfl⟩
        subst hwo
        go_loopw [18] (fun kv wk => ∃ k : Nat, k ≤ 6 ∧ kv = .int .i64 k ∧ Six (w.heap.size + 1) (rowState xss i k) wk ∧ Six w.heap.size zeros wk ∧ Below w.heap.size w wk)
          (fun kv _ => 6 - (intOf kv).toNat)
        case atStart => exact ⟨0, Nat.zero_le _, rfl, HS.out, HZ.out, HN.out⟩
        case round =>
          obtain ⟨k, hk, rfl, hS, hZ, hnk⟩ := hrel
          have HZK := Lib.hid hZ
          have HSK := Lib.hid hS
          have HNK := Lib.hid hnk
          clear hS hZ hnk hc1
          by_cases hlk : k < 6
          · obtain ⟨x, hx⟩ := get_of_lt (xs := r) (k := k) (by rw [HR6.out]; exact hlk)
            obtain ⟨p1, q1, rfl, e1'⟩ := HU.out _ _ (uv_get hx)
            have e1 : wr.cell? ⟨p1, q1 + k, none⟩ = some (.int .u64 x) := by rw [HNK.out.cell (World.block_lt_of_cell? _ _ e1')]; exact e1'
            obtain ⟨e2, e3⟩ := HSK.out.at (rowState_at (xss := xss) (i := i) hlk)
            have hstep := colTo_step HR.out hx
            have hk1 : (k : Int) < 6 := by omega
            have HX := Lib.hid hx
            have HST := Lib.hid hstep
            clear hx hstep e1'
            go_wp2_with fail
            go_region
            go_wp2_with fail
            go_roundw
            case rel =>
              refine ⟨k + 1, by omega, by go_num, ?_, HZK.out.other (by simp) _, (HNK.out.setCell (by simp) _).drew⟩
              rw [← rowState_step hlk, HST.out]
              exact HSK.out.set k _
            case measure => simp [intOf]; omega
          · obtain rfl : k = 6 := by omega
            go_wp2_with fail
            go_roundw
            case rel => exact ⟨i + 1, by omega, by go_num, by rw [← rowState_full]; exact HSK.out, HZK.out, HNK.out⟩
            case measure => simp [intOf]; omega
      · obtain rfl : i = xss.length := by omega
        have hS6 := HS.out
        rw [rowState_six] at hS6
        obtain ⟨s0, _⟩ := hS6.at (k := 0) rfl
        obtain ⟨s1, _⟩ := hS6.at (k := 1) rfl
        obtain ⟨s2, _⟩ := hS6.at (k := 2) rfl
        obtain ⟨s3, _⟩ := hS6.at (k := 3) rfl
        obtain ⟨s4, _⟩ := hS6.at (k := 4) rfl
        obtain ⟨s5, _⟩ := hS6.at (k := 5) rfl
        have hzb : wr.heap[w.heap.size]? = some (.cells #[.int .u64 0, .int .u64 0, .int .u64 0, .int .u64 0, .int .u64 0, .int .u64 0] 41 (0, 0)) := HZ.out.1
        have z0 := HZ.out.at (k := 0) rfl
        have z1 := HZ.out.at (k := 1) rfl
        have z2 := HZ.out.at (k := 2) rfl
        have z3 := HZ.out.at (k := 3) rfl
        have z4 := HZ.out.at (k := 4) rfl
        have z5 := HZ.out.at (k := 5) rfl
        clear hS6 hzb
        go_wp2_with fail
        have hi := HB.out
        have k0 : ∀ k, sumK xss k = colTo xss k xss.length := fun k => by simp [sumK, hi]
        have k1 : sumE xss = 0 := by simp [sumE, hi]
        refine bodyPost_ret (v := .tuple #[.agg #[.int .u64 (colTo xss 0 xss.length), .int .u64 (colTo xss 1 xss.length), .int .u64 (colTo xss 2 xss.length), .int .u64 (colTo xss 3 xss.length), .int .u64 (colTo xss 4 xss.length), .int .u64 (colTo xss 5 xss.length)], .int .i64 0]) (by simp [results, Try.results26, go_sem, z0, z1, z2, z3, z4, z5]) rfl ⟨by simp only [k0, k1], ?_⟩
        trace_state
        exact (((((HN.out.setCell (Nat.le_refl _) _).setCell (Nat.le_refl _) _).setCell (Nat.le_refl _) _).setCell (Nat.le_refl _) _).setCell (Nat.le_refl _) _).setCell (Nat.le_refl _) _
  · have hB' : isB xss = false := by simpa using hB
    have HB := Lib.hid hB'
    have e0 : ∀ k, sumK xss k = 0 := fun k => by simp [sumK, hB']
    have e1 : sumE xss = 1 := by simp [sumE, hB']
    have E0 := Lib.hid e0
    have E1 := Lib.hid e1
    clear hB hB' e0 e1
    go_enter Try.func26, Try.ntmps26
    go_wp2_with (go_at_call 32; refine (Is_calls _ _ _ hl _ hG0).mono ?_; rintro e w' ⟨rfl, rfl⟩; rw [HB.out])
    refine bodyPost_ret (v := .tuple #[.agg #[.int .u64 0, .int .u64 0, .int .u64 0, .int .u64 0, .int .u64 0, .int .u64 0], .int .i64 1]) (by simp [results, Try.results26, go_sem]) rfl ⟨?_, ?_⟩
    · rw [E0.out, E0.out, E0.out, E0.out, E0.out, E0.out, E1.out]
    · exact ((Below.refl _ w).alloc (Nat.le_refl _) _).alloc (by simp) _

end Go.Proofs.Ytfegglolblglpaa

/-
  The walk of the document's own Sum.
-/
import Derived.Test.YtfegglolblglpaaW11c
namespace Go.Proofs.Ytfegglolblglpaa
open Go.RowKit
set_option linter.unusedVariables false

/-- Where adding kind k stands when i of the rows are added. -/
def colState (xss : List (List Int)) (k i : Nat) : List Int := (List.range 6).map fun j => if j < k then colTo xss j xss.length else if j = k then colTo xss j i else 0
theorem colState_length (xss : List (List Int)) (k i : Nat) : (colState xss k i).length = 6 := by simp [colState]
theorem colState_full (xss : List (List Int)) (k : Nat) : colState xss k xss.length = colState xss (k + 1) 0 := by
  unfold colState
  refine List.map_congr_left fun j hj => ?_
  by_cases h : j < k
  · have : j < k + 1 := by omega
    simp [h, this]
  · by_cases e : j = k
    · subst e; simp
    · have h1 : ¬ j < k + 1 := by omega
      simp [h, e, h1, colTo]
theorem colState_start (xss : List (List Int)) : colState xss 0 0 = zeros := by
  simp [colState, List.range_succ, colTo, zeros]
theorem colState_at {xss : List (List Int)} {k i : Nat} (hk : k < 6) : (colState xss k i)[k]? = some (colTo xss k i) := by
  simp [colState, hk]
theorem colState_step {xss : List (List Int)} {k i : Nat} (hk : k < 6) : (colState xss k i).set k (colTo xss k (i + 1)) = colState xss k (i + 1) := by
  apply List.ext_getElem?
  intro j
  simp only [colState, List.getElem?_set, List.length_map, List.length_range, List.getElem?_map]
  by_cases hj : j < 6
  · by_cases e : k = j
    · subst e
      simp [hj]
    · have e' : ¬ j = k := fun h => e h.symm
      simp only [e, e', if_false, hj, List.getElem?_range, Option.map_some]
  · have hj' : (List.range 6)[j]? = none := by simp; omega
    have e : ¬ k = j := by omega
    simp [hj', e]
theorem colState_six (xss : List (List Int)) : colState xss 6 0 = [colTo xss 0 xss.length, colTo xss 1 xss.length, colTo xss 2 xss.length, colTo xss 3 xss.length, colTo xss 4 xss.length, colTo xss 5 xss.length] := by
  simp [colState, List.range_succ]

set_option maxRecDepth 100000 in
set_option maxHeartbeats 2000000 in
theorem refSum_calls (a : Option Addr) (xss : List (List Int)) (cap : Nat) (hl : xss.length ≤ 9223372036854775807) (w : World) (hG : Grid w a xss) :
    Calls Try.prog 27 #[.slice a xss.length cap] w (Summed xss w) := by
  have H0 : Below w.heap.size w ((w.alloc (Obj.cells #[.int .u64 0, .int .u64 0, .int .u64 0, .int .u64 0, .int .u64 0, .int .u64 0] 41)).alloc (Obj.cells #[.int .u64 0, .int .u64 0, .int .u64 0, .int .u64 0, .int .u64 0, .int .u64 0] 41)) :=
    ((Below.refl _ w).alloc (Nat.le_refl _) _).alloc (by simp) _
  have hnew := heap_alloc_new (w.alloc (Obj.cells #[.int .u64 0, .int .u64 0, .int .u64 0, .int .u64 0, .int .u64 0, .int .u64 0] 41)) (Obj.cells #[.int .u64 0, .int .u64 0, .int .u64 0, .int .u64 0, .int .u64 0, .int .u64 0] 41)
  rw [World.size_alloc] at hnew
  have hnew0 := (Below.heap_alloc (w.alloc (Obj.cells #[.int .u64 0, .int .u64 0, .int .u64 0, .int .u64 0, .int .u64 0, .int .u64 0] 41)) (Obj.cells #[.int .u64 0, .int .u64 0, .int .u64 0, .int .u64 0, .int .u64 0, .int .u64 0] 41) w.heap.size (by simp)).trans (heap_alloc_new w _)
  have HN1 := Lib.hid hnew
  have HN0 := Lib.hid hnew0
  clear hnew hnew0
  have hG0 := hG.below H0
  by_cases hB : isB xss = true
  · obtain ⟨p6, p1, p8⟩ := isB_parts hB
    have P6 := Lib.hid p6
    clear p6
    have HB := Lib.hid hB
    clear hB
    go_enter Try.func27, Try.ntmps27
    go_wp2_with (go_at_call 33; refine (refIs_calls _ _ _ hl _ hG0).mono ?_; rintro e w' ⟨rfl, rfl⟩; rw [HB.out])
    go_loopw [5] (fun kv wr => ∃ k : Nat, k ≤ 6 ∧ kv = .int .i64 k ∧ Six (w.heap.size + 1) (colState xss k 0) wr ∧ Six w.heap.size zeros wr ∧ Below w.heap.size w wr)
      (fun kv _ => 6 - (intOf kv).toNat)
    case atStart => exact ⟨0, Nat.zero_le _, rfl, ⟨by rw [colState_start]; exact HN1.out, colState_length _ _ _⟩, ⟨HN0.out, rfl⟩, H0⟩
    case round =>
      obtain ⟨k, hk, rfl, hS, hZ, hnx⟩ := hrel
      have HN := Lib.hid hnx
      have HZ := Lib.hid hZ
      have HS := Lib.hid hS
      clear hnx hZ hS
      by_cases hlk : k < 6
      · have hk1 : (k : Int) < 6 := by omega
        go_wp2_with fail
        obtain ⟨wo, hwo⟩ : ∃ wo : World, wr = wo := ⟨_, rfl⟩
        subst hwo
        go_loopw [6] (fun iv_ wk => ∃ i : Nat, i ≤ xss.length ∧ iv_ = .int .i64 i ∧ Six (w.heap.size + 1) (colState xss k i) wk ∧ Six w.heap.size zeros wk ∧ Below w.heap.size w wk)
          (fun iv_ _ => xss.length - (intOf iv_).toNat)
        case atStart => exact ⟨0, Nat.zero_le _, rfl, HS.out, HZ.out, HN.out⟩
        case round =>
          obtain ⟨i, hi, rfl, hS, hZ, hnk⟩ := hrel
          have HZK := Lib.hid hZ
          have HSK := Lib.hid hS
          have HNK := Lib.hid hnk
          clear hS hZ hnk
          by_cases hlt : i < xss.length
          · obtain ⟨r, hr⟩ := get_of_lt hlt
            have hr6 : r.length = 6 := P6.out r (List.mem_of_getElem? hr)
            obtain ⟨b1, o1, a1, c1, rfl, hc0, hu1⟩ := hG.at hr
            rw [hr6] at hc0
            have hc1 : wr.cell? ⟨b1, o1 + i, none⟩ = some (.slice a1 6 c1) := by rw [HNK.out.cell (World.block_lt_of_cell? _ _ hc0)]; exact hc0
            obtain ⟨x, hx⟩ := get_of_lt (xs := r) (k := k) (by rw [hr6]; exact hlk)
            obtain ⟨p1, q1, rfl, e1'⟩ := hu1 _ _ (uv_get hx)
            have e1 : wr.cell? ⟨p1, q1 + k, none⟩ = some (.int .u64 x) := by rw [HNK.out.cell (World.block_lt_of_cell? _ _ e1')]; exact e1'
            obtain ⟨e2, e3⟩ := HSK.out.at (colState_at (xss := xss) (i := i) hlk)
            have hstep := colTo_step hr hx
            have HST := Lib.hid hstep
            clear hx hr hr6 hu1 hc0 hstep e1'
            go_wp2_with fail
            go_region
            go_wp2_with fail
            go_roundw
            case rel =>
              refine ⟨i + 1, by omega, by go_num, ?_, HZK.out.other (by simp) _, (HNK.out.setCell (by simp) _).drew⟩
              rw [← colState_step hlk, HST.out]
              exact HSK.out.set k _
            case measure => simp [intOf]; omega
          · obtain rfl : i = xss.length := by omega
            go_wp2_with fail
            go_roundw
            case rel => exact ⟨k + 1, by omega, by go_num, by rw [← colState_full]; exact HSK.out, HZK.out, HNK.out⟩
            case measure => simp [intOf]; omega
      · obtain rfl : k = 6 := by omega
        have hS6 := HS.out
        rw [colState_six] at hS6
        obtain ⟨s0, _⟩ := hS6.at (k := 0) rfl
        obtain ⟨s1, _⟩ := hS6.at (k := 1) rfl
        obtain ⟨s2, _⟩ := hS6.at (k := 2) rfl
        obtain ⟨s3, _⟩ := hS6.at (k := 3) rfl
        obtain ⟨s4, _⟩ := hS6.at (k := 4) rfl
        obtain ⟨s5, _⟩ := hS6.at (k := 5) rfl
        have z0 := HZ.out.at (k := 0) rfl
        have z1 := HZ.out.at (k := 1) rfl
        have z2 := HZ.out.at (k := 2) rfl
        have z3 := HZ.out.at (k := 3) rfl
        have z4 := HZ.out.at (k := 4) rfl
        have z5 := HZ.out.at (k := 5) rfl
        clear hS6
        go_wp2_with fail
        have hi := HB.out
        have k0 : ∀ k, sumK xss k = colTo xss k xss.length := fun k => by simp [sumK, hi]
        have k1 : sumE xss = 0 := by simp [sumE, hi]
        refine bodyPost_ret (v := .tuple #[.agg #[.int .u64 (colTo xss 0 xss.length), .int .u64 (colTo xss 1 xss.length), .int .u64 (colTo xss 2 xss.length), .int .u64 (colTo xss 3 xss.length), .int .u64 (colTo xss 4 xss.length), .int .u64 (colTo xss 5 xss.length)], .int .i64 0]) (by simp [results, Try.results27, go_sem, z0, z1, z2, z3, z4, z5]) rfl ⟨by simp only [k0, k1], ?_⟩
        exact (((((HN.out.setCell (Nat.le_refl _) _).setCell (Nat.le_refl _) _).setCell (Nat.le_refl _) _).setCell (Nat.le_refl _) _).setCell (Nat.le_refl _) _).setCell (Nat.le_refl _) _
  · have hB' : isB xss = false := by simpa using hB
    have HB := Lib.hid hB'
    have e0 : ∀ k, sumK xss k = 0 := fun k => by simp [sumK, hB']
    have e1 : sumE xss = 1 := by simp [sumE, hB']
    have E0 := Lib.hid e0
    have E1 := Lib.hid e1
    clear hB hB' e0 e1
    go_enter Try.func27, Try.ntmps27
    go_wp2_with (go_at_call 33; refine (refIs_calls _ _ _ hl _ hG0).mono ?_; rintro e w' ⟨rfl, rfl⟩; rw [HB.out])
    refine bodyPost_ret (v := .tuple #[.agg #[.int .u64 0, .int .u64 0, .int .u64 0, .int .u64 0, .int .u64 0, .int .u64 0], .int .i64 1]) (by simp [results, Try.results27, go_sem]) rfl ⟨?_, ?_⟩
    · rw [E0.out, E0.out, E0.out, E0.out, E0.out, E0.out, E1.out]
    · exact H0

end Go.Proofs.Ytfegglolblglpaa

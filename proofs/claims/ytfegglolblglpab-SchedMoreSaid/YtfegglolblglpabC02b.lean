/-
  The walks of the cell of numbers.
-/
import Derived.Test.YtfegglolblglpabC02
namespace Go.Proofs.Ytfegglolblglpab
open Go.RowKit
set_option linter.unusedVariables false

/-- One access more. -/
def inc64 (k : Int) : Int := IntKind.i64.wrap (k + 1)
theorem inc64_in {k : Nat} (h : k < 9223372036854775807) : inc64 k = ((k + 1 : Nat) : Int) := by
  simp [inc64, IntKind.wrap, IntKind.signed, IntKind.bits]
  omega

set_option maxHeartbeats 1000000 in
theorem AddN_calls (c : Nat) (k : Int) (w : World) (hc : w.cell? ⟨c, 1, none⟩ = some (.int .i64 k)) (hz : w.frozen? ⟨c, 1, none⟩ = false) :
    Calls Try.prog 49 #[.pointer (some ⟨c, 1, none⟩), .int .i64 1] w (fun e w' => e = .returned (.int .i64 (inc64 k)) ∧ w' = w.setCell ⟨c, 1, none⟩ (.int .i64 (inc64 k))) := by
  have h2 := run_call_add (P := Try.prog) (f := 54) Try.func54 (by kernel_rfl) (by kernel_rfl) (by kernel_rfl) .i64 (by kernel_rfl) (y := 1) (s := inc64 k) hc hz (by rfl)
  go_enter Try.func49, Try.ntmps49
  go_wp2_with fail
  go_ret
  exact ⟨rfl, rfl⟩

/-- Block c is a cell of numbers that has n and was come to k times; its number lies in block b. -/
def Has (c b : Nat) (n k : Int) (w : World) : Prop := w.heap[c]? = some (.cells #[.pointer (some ⟨b, 0, none⟩), .int .i64 k] 64 (0, 0)) ∧ One b n w ∧ c ≠ b
theorem Has.at0 {c b : Nat} {n k : Int} {w : World} (h : Has c b n k w) : w.cell? ⟨c, 0, none⟩ = some (.pointer (some ⟨b, 0, none⟩)) ∧ w.frozen? ⟨c, 0, none⟩ = false := by
  have h1 := h.1
  constructor
  · simp [World.cell?, h1]
  · simp [World.frozen?, h1]
theorem Has.at1 {c b : Nat} {n k : Int} {w : World} (h : Has c b n k w) : w.cell? ⟨c, 1, none⟩ = some (.int .i64 k) ∧ w.frozen? ⟨c, 1, none⟩ = false := by
  have h1 := h.1
  constructor
  · simp [World.cell?, h1]
  · simp [World.frozen?, h1]
theorem set_here {c : Nat} {vs : Array Value} {t : Nat} {w : World} (h : w.heap[c]? = some (.cells vs t (0, 0))) (i : Nat) (u : Value) : (w.setCell ⟨c, i, none⟩ u).heap[c]? = some (.cells (vs.setIfInBounds i u) t (0, 0)) := by
  obtain ⟨hlt, hk⟩ := Array.getElem?_eq_some_iff.1 h
  show (w.heap.modify c _)[c]? = _
  rw [Array.getElem?_eq_getElem (by rw [Array.size_modify]; exact hlt), Array.getElem_modify_self, hk]
  simp
theorem Has.come {c b : Nat} {n k : Int} {w : World} (h : Has c b n k w) : Has c b n (inc64 k) (w.setCell ⟨c, 1, none⟩ (.int .i64 (inc64 k))) :=
  ⟨set_here h.1 1 _, h.2.1.other h.2.2 _, h.2.2⟩
theorem Has.put {c b b' : Nat} {n n' k : Int} {w : World} (h : Has c b n k w) (h' : One b' n' w) (hn : c ≠ b') : Has c b' n' k (w.setCell ⟨c, 0, none⟩ (.pointer (some ⟨b', 0, none⟩))) :=
  ⟨set_here h.1 0 _, h'.other hn _, hn⟩
theorem Has.below {c b B : Nat} {n k : Int} {w w' : World} (h : Has c b n k w) (hb : Below B w w') (hc : c < B) (hbB : b < B) : Has c b n k w' := ⟨(hb.block c hc).trans h.1, h.2.1.below hb hbB, h.2.2⟩

set_option maxHeartbeats 1000000 in
theorem come_calls (c b : Nat) (n k : Int) (w : World) (h : Has c b n k w) :
    Calls Try.prog 36 #[.pointer (some ⟨c, 0, none⟩)] w (fun e w' => e = .returned (.bool true) ∧ w' = w.setCell ⟨c, 1, none⟩ (.int .i64 (inc64 k))) := by
  go_enter Try.func36, Try.ntmps36
  go_wp2_with fail
  refine (AddN_calls c k w h.at1.1 h.at1.2).mono ?_
  rintro e w' ⟨rfl, rfl⟩
  go_wp2_with fail
  go_ret
  exact ⟨rfl, rfl⟩

set_option maxHeartbeats 1000000 in
theorem Load_calls (c b : Nat) (n k : Int) (w : World) (h : Has c b n k w) :
    Calls Try.prog 18 #[.pointer (some ⟨c, 0, none⟩)] w (fun e w' => e = .returned (.int .i64 n) ∧ w' = w.setCell ⟨c, 1, none⟩ (.int .i64 (inc64 k))) := by
  have h2 := h.come
  go_enter Try.func18, Try.ntmps18
  go_wp2_with fail
  refine (come_calls c b n k w h).mono ?_
  rintro e w' ⟨rfl, rfl⟩
  go_wp2_with fail
  refine (LoadP_calls c b n _ h2.at0.1 h2.2.1).mono ?_
  rintro e w' ⟨rfl, rfl⟩
  have h3 := h2.2.1.at
  go_wp2_with fail
  go_ret
  exact ⟨rfl, rfl⟩

set_option maxHeartbeats 1000000 in
theorem Accesses_calls (c b : Nat) (n k : Int) (w : World) (h : Has c b n k w) :
    Calls Try.prog 16 #[.pointer (some ⟨c, 0, none⟩)] w (fun e w' => e = .returned (.int .i64 k) ∧ w' = w) := by
  go_enter Try.func16, Try.ntmps16
  go_wp2_with fail
  refine (LoadN_calls c k w h.at1.1).mono ?_
  rintro e w' ⟨rfl, rfl⟩
  go_wp2_with fail
  go_ret
  exact ⟨rfl, rfl⟩

theorem row_cell {c t i : Nat} {vs : Array Value} {v : Value} {w : World} (h : w.heap[c]? = some (.cells vs t (0, 0))) (hv : vs[i]? = some v) : w.cell? ⟨c, i, none⟩ = some v ∧ w.frozen? ⟨c, i, none⟩ = false := by
  constructor
  · unfold World.cell?
    rw [h]
    simpa using hv
  · unfold World.frozen?
    rw [h]
    simp
theorem box_one (w : World) (n : Int) : One w.heap.size n (w.alloc (Obj.cells #[.int .i64 n] 3)) := heap_alloc_new w _

set_option maxHeartbeats 1000000 in
theorem New_calls (n : Int) (w : World) : Calls Try.prog 13 #[.int .i64 n] w (fun e w' => e = .returned (.pointer (some ⟨w.heap.size + 1, 0, none⟩)) ∧ Has (w.heap.size + 1) w.heap.size n 0 w' ∧ Below w.heap.size w w') := by
  have h1 : One w.heap.size n ((w.alloc (Obj.cells #[.int .i64 n] 3)).alloc (Obj.cells #[.pointer none, .int .i64 0] 64)) := (box_one w n).below ((Below.refl _ _).alloc (Nat.le_refl _) _) (box_one w n).lt
  have h2 := heap_alloc_new (w.alloc (Obj.cells #[.int .i64 n] 3)) (Obj.cells #[.pointer none, .int .i64 0] 64)
  rw [World.size_alloc] at h2
  obtain ⟨hc, hz⟩ := row_cell (i := 0) h2 rfl
  have h5 : One w.heap.size n ((w.alloc (Obj.cells #[.int .i64 n] 3)).alloc (Obj.cells #[.pointer (some ⟨w.heap.size, 0, none⟩), .int .i64 0] 64)) := (box_one w n).below ((Below.refl _ _).alloc (Nat.le_refl _) _) (box_one w n).lt
  have h6 := heap_alloc_new (w.alloc (Obj.cells #[.int .i64 n] 3)) (Obj.cells #[.pointer (some ⟨w.heap.size, 0, none⟩), .int .i64 0] 64)
  rw [World.size_alloc] at h6
  have hB : Below w.heap.size w ((w.alloc (Obj.cells #[.int .i64 n] 3)).alloc (Obj.cells #[.pointer (some ⟨w.heap.size, 0, none⟩), .int .i64 0] 64)) := ((Below.refl _ w).alloc (Nat.le_refl _) _).alloc (by simp) _
  go_enter Try.func13, Try.ntmps13
  go_wp2_with fail
  refine (StoreP_calls (w.heap.size + 1) w.heap.size _ n _ hc hz h1).mono ?_
  rintro e w' ⟨rfl, rfl⟩
  go_wp2_with fail
  go_ret
  exact ⟨rfl, ⟨h6, h5, by omega⟩, hB⟩

set_option maxHeartbeats 1000000 in
theorem Store_calls (c b : Nat) (n k v : Int) (w : World) (h : Has c b n k w) :
    Calls Try.prog 23 #[.pointer (some ⟨c, 0, none⟩), .int .i64 v] w (fun e w' => e = .returned (.tuple #[]) ∧ Has c w.heap.size v (inc64 k) w' ∧ w' = ((w.alloc (Obj.cells #[.int .i64 v] 3)).setCell ⟨c, 1, none⟩ (.int .i64 (inc64 k))).setCell ⟨c, 0, none⟩ (.pointer (some ⟨w.heap.size, 0, none⟩))) := by
  have hlt : c < w.heap.size := (Array.getElem?_eq_some_iff.1 h.1).1
  have h1 : Has c b n k (w.alloc (Obj.cells #[.int .i64 v] 3)) := h.below ((Below.refl _ _).alloc (Nat.le_refl _) _) hlt h.2.1.lt
  have h2 := h1.come
  have h3 : One w.heap.size v ((w.alloc (Obj.cells #[.int .i64 v] 3)).setCell ⟨c, 1, none⟩ (.int .i64 (inc64 k))) := (box_one w v).other (by simp; omega) _
  go_enter Try.func23, Try.ntmps23
  go_wp2_with fail
  refine (come_calls c b n k _ h1).mono ?_
  rintro e w5 ⟨rfl, hw⟩
  rw [← hw] at h2 h3
  have HW := Lib.hid hw
  clear hw
  go_wp2_with fail
  refine (StoreP_calls c w.heap.size _ v _ h2.at0.1 h2.at0.2 h3).mono ?_
  rintro e w' ⟨rfl, rfl⟩
  go_wp2_with fail
  refine bodyPost_end (v := .tuple #[]) (by simp [results, Try.results23, go_sem]) rfl ⟨rfl, h2.put h3 (by omega), by rw [HW.out]⟩

set_option maxHeartbeats 1000000 in
theorem Swap_calls (c b : Nat) (n k v : Int) (w : World) (h : Has c b n k w) :
    Calls Try.prog 22 #[.pointer (some ⟨c, 0, none⟩), .int .i64 v] w (fun e w' => e = .returned (.int .i64 n) ∧ Has c w.heap.size v (inc64 k) w' ∧ w' = ((w.alloc (Obj.cells #[.int .i64 v] 3)).setCell ⟨c, 1, none⟩ (.int .i64 (inc64 k))).setCell ⟨c, 0, none⟩ (.pointer (some ⟨w.heap.size, 0, none⟩))) := by
  have hlt : c < w.heap.size := (Array.getElem?_eq_some_iff.1 h.1).1
  have h1 : Has c b n k (w.alloc (Obj.cells #[.int .i64 v] 3)) := h.below ((Below.refl _ _).alloc (Nat.le_refl _) _) hlt h.2.1.lt
  have h2 := h1.come
  have h3 : One w.heap.size v ((w.alloc (Obj.cells #[.int .i64 v] 3)).setCell ⟨c, 1, none⟩ (.int .i64 (inc64 k))) := (box_one w v).other (by simp; omega) _
  have h4 := (h2.2.1.other (p := ⟨c, 0, none⟩) h.2.2 (.pointer (some ⟨w.heap.size, 0, none⟩))).at
  go_enter Try.func22, Try.ntmps22
  go_wp2_with fail
  refine (come_calls c b n k _ h1).mono ?_
  rintro e w5 ⟨rfl, hw⟩
  rw [← hw] at h2 h3 h4
  have HW := Lib.hid hw
  clear hw
  go_wp2_with fail
  refine (SwapP_calls c b w.heap.size n v _ h2.at0.1 h2.at0.2 h2.2.1 h3 h.2.2).mono ?_
  rintro e w' ⟨rfl, rfl⟩
  go_wp2_with fail
  go_ret
  exact ⟨rfl, h2.put h3 (by omega), by rw [HW.out]⟩

end Go.Proofs.Ytfegglolblglpab

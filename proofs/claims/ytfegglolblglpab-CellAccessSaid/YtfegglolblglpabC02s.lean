/-
  The walks of the cell of texts: New, Load.
-/
import Derived.Test.YtfegglolblglpabC02c
namespace Go.Proofs.Ytfegglolblglpab
open Go.RowKit
set_option linter.unusedVariables false

theorem Try.un68 : Try.prog.underlying 68 = some (.pointer 9) := by kernel_rfl

theorem Try.size9 : (Try.prog.info? 9).map (fun i => decide (i.size = 0)) = some false := by kernel_rfl

theorem Try.info9 : (Try.prog.info? 9).map (fun i => (i.zero, i.size, i.bytes)) = some (some (.string .empty), 1, 16) := by kernel_rfl

theorem Try.lies9 : liesAt Try.prog Try.prog.depth 9 (1 / Try.prog.cellsOf 9) 0 9 1 = true := by kernel_rfl

/-- Block b holds one number. -/
def OneS (b : Nat) (n : ByteArray) (w : World) : Prop := w.heap[b]? = some (.cells #[.string n] 9 (0, 0))

theorem OneS.at {b : Nat} {n : ByteArray} {w : World} (h : OneS b n w) : w.cell? ⟨b, 0, none⟩ = some (.string n) := by
  have h1 : w.heap[b]? = _ := h
  simp [World.cell?, h1]

set_option maxHeartbeats 1000000 in
theorem StorePS_calls (c b : Nat) (u : Value) (n : ByteArray) (w : World) (hc : w.cell? ⟨c, 0, none⟩ = some u) (hz : w.frozen? ⟨c, 0, none⟩ = false) (hb : OneS b n w) :
    Calls Try.prog 38 #[.pointer (some ⟨c, 0, none⟩), .pointer (some ⟨b, 0, none⟩)] w (fun e w' => e = .returned (.tuple #[]) ∧ w' = w.setCell ⟨c, 0, none⟩ (.pointer (some ⟨b, 0, none⟩))) := by
  have h1 := run_convert_to_unsafe (P := Try.prog) Try.un68 Try.un57 Try.size9 hb.at
  have h2 := call_storep (P := Try.prog) (f := 47) Try.func47 (by kernel_rfl) (by kernel_rfl) (by kernel_rfl) (by kernel_rfl) (p := some ⟨b, 0, none⟩) hc hz
  go_enter Try.func38, Try.ntmps38
  go_wp2_with fail
  refine bodyPost_end (v := .tuple #[]) (by simp [results, Try.results38, go_sem]) rfl ⟨rfl, rfl⟩

theorem OneS.other {b : Nat} {n : ByteArray} {w : World} (h : OneS b n w) {p : Addr} (hp : p.block ≠ b) (u : Value) : OneS b n (w.setCell p u) :=
  (Below.heap_setCell w p u b (fun e => hp e.symm)).trans h

theorem OneS.below {b B : Nat} {n : ByteArray} {w w' : World} (h : OneS b n w) (hb : Below B w w') (hB : b < B) : OneS b n w' := (hb.block b hB).trans h

theorem OneS.lt {b : Nat} {n : ByteArray} {w : World} (h : OneS b n w) : b < w.heap.size := (Array.getElem?_eq_some_iff.1 h).1

set_option maxHeartbeats 1000000 in
theorem LoadPS_calls (c b : Nat) (n : ByteArray) (w : World) (hc : w.cell? ⟨c, 0, none⟩ = some (.pointer (some ⟨b, 0, none⟩))) (hb : OneS b n w) :
    Calls Try.prog 40 #[.pointer (some ⟨c, 0, none⟩)] w (fun e w' => e = .returned (.pointer (some ⟨b, 0, none⟩)) ∧ w' = w) := by
  obtain ⟨i, hi, _, _, _⟩ := info_parts Try.info9
  have h1 := convert_back (P := Try.prog) Try.un57 Try.un68 hi Try.lies9 hb
  have h2 := call_loadp (P := Try.prog) (f := 50) Try.func50 (by kernel_rfl) (by kernel_rfl) (by kernel_rfl) (by kernel_rfl) hc
  go_enter Try.func40, Try.ntmps40
  go_wp2_with fail
  go_ret
  exact ⟨rfl, rfl⟩

set_option maxHeartbeats 1000000 in
theorem CasPS_calls (c b b' : Nat) (n n' : ByteArray) (w : World) (hc : w.cell? ⟨c, 0, none⟩ = some (.pointer (some ⟨b, 0, none⟩))) (hz : w.frozen? ⟨c, 0, none⟩ = false) (hb : OneS b n w) (hb' : OneS b' n' w) :
    Calls Try.prog 41 #[.pointer (some ⟨c, 0, none⟩), .pointer (some ⟨b, 0, none⟩), .pointer (some ⟨b', 0, none⟩)] w (fun e w' => e = .returned (.bool true) ∧ w' = w.setCell ⟨c, 0, none⟩ (.pointer (some ⟨b', 0, none⟩))) := by
  have h0 := run_convert_to_unsafe (P := Try.prog) Try.un68 Try.un57 Try.size9 hb.at
  have h1 := run_convert_to_unsafe (P := Try.prog) Try.un68 Try.un57 Try.size9 hb'.at
  have h2 := call_casp (P := Try.prog) (f := 51) Try.func51 (by kernel_rfl) (by kernel_rfl) (by kernel_rfl) (by kernel_rfl) (p := some ⟨b', 0, none⟩) hc hz
  go_enter Try.func41, Try.ntmps41
  go_wp2_with fail
  go_ret
  exact ⟨rfl, rfl⟩

/-- Block c is a cell of numbers that has n and was come to k times; its number lies in block b. -/
def HasS (c b : Nat) (n : ByteArray) (k : Int) (w : World) : Prop := w.heap[c]? = some (.cells #[.pointer (some ⟨b, 0, none⟩), .int .i64 k] 73 (0, 0)) ∧ OneS b n w ∧ c ≠ b

theorem HasS.at0 {c b : Nat} {n : ByteArray} {k : Int} {w : World} (h : HasS c b n k w) : w.cell? ⟨c, 0, none⟩ = some (.pointer (some ⟨b, 0, none⟩)) ∧ w.frozen? ⟨c, 0, none⟩ = false := by
  have h1 := h.1
  constructor
  · simp [World.cell?, h1]
  · simp [World.frozen?, h1]

theorem HasS.at1 {c b : Nat} {n : ByteArray} {k : Int} {w : World} (h : HasS c b n k w) : w.cell? ⟨c, 1, none⟩ = some (.int .i64 k) ∧ w.frozen? ⟨c, 1, none⟩ = false := by
  have h1 := h.1
  constructor
  · simp [World.cell?, h1]
  · simp [World.frozen?, h1]

theorem HasS.come {c b : Nat} {n : ByteArray} {k : Int} {w : World} (h : HasS c b n k w) : HasS c b n (inc64 k) (w.setCell ⟨c, 1, none⟩ (.int .i64 (inc64 k))) :=
  ⟨set_here h.1 1 _, h.2.1.other h.2.2 _, h.2.2⟩

theorem HasS.put {c b b' : Nat} {n n' : ByteArray} {k : Int} {w : World} (h : HasS c b n k w) (h' : OneS b' n' w) (hn : c ≠ b') : HasS c b' n' k (w.setCell ⟨c, 0, none⟩ (.pointer (some ⟨b', 0, none⟩))) :=
  ⟨set_here h.1 0 _, h'.other hn _, hn⟩

theorem HasS.below {c b B : Nat} {n : ByteArray} {k : Int} {w w' : World} (h : HasS c b n k w) (hb : Below B w w') (hc : c < B) (hbB : b < B) : HasS c b n k w' := ⟨(hb.block c hc).trans h.1, h.2.1.below hb hbB, h.2.2⟩

set_option maxHeartbeats 1000000 in
theorem comeS_calls (c b : Nat) (n : ByteArray) (k : Int) (w : World) (h : HasS c b n k w) :
    Calls Try.prog 39 #[.pointer (some ⟨c, 0, none⟩)] w (fun e w' => e = .returned (.bool true) ∧ w' = w.setCell ⟨c, 1, none⟩ (.int .i64 (inc64 k))) := by
  go_enter Try.func39, Try.ntmps39
  go_wp2_with fail
  refine (AddN_calls c k w h.at1.1 h.at1.2).mono ?_
  rintro e w' ⟨rfl, rfl⟩
  go_wp2_with fail
  go_ret
  exact ⟨rfl, rfl⟩

set_option maxHeartbeats 1000000 in
theorem LoadS_calls (c b : Nat) (n : ByteArray) (k : Int) (w : World) (h : HasS c b n k w) :
    Calls Try.prog 21 #[.pointer (some ⟨c, 0, none⟩)] w (fun e w' => e = .returned (.string n) ∧ w' = w.setCell ⟨c, 1, none⟩ (.int .i64 (inc64 k))) := by
  have h2 := h.come
  go_enter Try.func21, Try.ntmps21
  go_wp2_with fail
  refine (comeS_calls c b n k w h).mono ?_
  rintro e w' ⟨rfl, rfl⟩
  go_wp2_with fail
  refine (LoadPS_calls c b n _ h2.at0.1 h2.2.1).mono ?_
  rintro e w' ⟨rfl, rfl⟩
  have h3 := h2.2.1.at
  go_wp2_with fail
  go_ret
  exact ⟨rfl, rfl⟩

theorem box_oneS (w : World) (n : ByteArray) : OneS w.heap.size n (w.alloc (Obj.cells #[.string n] 9)) := heap_alloc_new w _

set_option maxHeartbeats 1000000 in
theorem NewS_calls (n : ByteArray) (w : World) : Calls Try.prog 19 #[.string n] w (fun e w' => e = .returned (.pointer (some ⟨w.heap.size + 1, 0, none⟩)) ∧ HasS (w.heap.size + 1) w.heap.size n 0 w' ∧ Below w.heap.size w w') := by
  have h1 : OneS w.heap.size n ((w.alloc (Obj.cells #[.string n] 9)).alloc (Obj.cells #[.pointer none, .int .i64 0] 73)) := (box_oneS w n).below ((Below.refl _ _).alloc (Nat.le_refl _) _) (box_oneS w n).lt
  have h2 := heap_alloc_new (w.alloc (Obj.cells #[.string n] 9)) (Obj.cells #[.pointer none, .int .i64 0] 73)
  rw [World.size_alloc] at h2
  obtain ⟨hc, hz⟩ := row_cell (i := 0) h2 rfl
  have h5 : OneS w.heap.size n ((w.alloc (Obj.cells #[.string n] 9)).alloc (Obj.cells #[.pointer (some ⟨w.heap.size, 0, none⟩), .int .i64 0] 73)) := (box_oneS w n).below ((Below.refl _ _).alloc (Nat.le_refl _) _) (box_oneS w n).lt
  have h6 := heap_alloc_new (w.alloc (Obj.cells #[.string n] 9)) (Obj.cells #[.pointer (some ⟨w.heap.size, 0, none⟩), .int .i64 0] 73)
  rw [World.size_alloc] at h6
  have hB : Below w.heap.size w ((w.alloc (Obj.cells #[.string n] 9)).alloc (Obj.cells #[.pointer (some ⟨w.heap.size, 0, none⟩), .int .i64 0] 73)) := ((Below.refl _ w).alloc (Nat.le_refl _) _).alloc (by simp) _
  go_enter Try.func19, Try.ntmps19
  go_wp2_with fail
  refine (StorePS_calls (w.heap.size + 1) w.heap.size _ n _ hc hz h1).mono ?_
  rintro e w' ⟨rfl, rfl⟩
  go_wp2_with fail
  go_ret
  exact ⟨rfl, ⟨h6, h5, by omega⟩, hB⟩

end Go.Proofs.Ytfegglolblglpab

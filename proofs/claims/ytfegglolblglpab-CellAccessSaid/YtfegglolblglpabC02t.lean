/-
  The walk of the cell of texts' Cas.
-/
import Derived.Test.YtfegglolblglpabC02s
namespace Go.Proofs.Ytfegglolblglpab
open Go.RowKit
set_option linter.unusedVariables false

set_option maxHeartbeats 1000000 in
theorem CasS_hit (c b : Nat) (n v : ByteArray) (k : Int) (w : World) (h : HasS c b n k w) :
    Calls Try.prog 20 #[.pointer (some ⟨c, 0, none⟩), .string n, .string v] w (fun e w' => e = .returned (.bool true) ∧ HasS c w.heap.size v (inc64 k) w' ∧ w' = ((w.alloc (Obj.cells #[.string v] 9)).setCell ⟨c, 1, none⟩ (.int .i64 (inc64 k))).setCell ⟨c, 0, none⟩ (.pointer (some ⟨w.heap.size, 0, none⟩))) := by
  have hlt : c < w.heap.size := (Array.getElem?_eq_some_iff.1 h.1).1
  have h1 : HasS c b n k (w.alloc (Obj.cells #[.string v] 9)) := h.below ((Below.refl _ _).alloc (Nat.le_refl _) _) hlt h.2.1.lt
  have h2 := h1.come
  have h3 : OneS w.heap.size v ((w.alloc (Obj.cells #[.string v] 9)).setCell ⟨c, 1, none⟩ (.int .i64 (inc64 k))) := (box_oneS w v).other (by simp; omega) _
  go_enter Try.func20, Try.ntmps20
  go_wp2_with fail
  refine (comeS_calls c b n k _ h1).mono ?_
  rintro e w5 ⟨rfl, hw⟩
  rw [← hw] at h2 h3
  have HW := Lib.hid hw
  clear hw
  have hx := h2.2.1.at
  go_wp2_with fail
  refine wp_loop_once ?_
  go_wp2_with fail
  refine (LoadPS_calls c b n w5 h2.at0.1 h2.2.1).mono ?_
  rintro e w6 ⟨rfl, hw6⟩
  obtain rfl := hw6.symm
  clear hw6
  go_wp2_with fail
  refine (CasPS_calls c b w.heap.size n v w5 h2.at0.1 h2.at0.2 h2.2.1 h3).mono ?_
  rintro e w6 ⟨rfl, rfl⟩
  go_wp2_with fail
  go_ret
  exact ⟨rfl, h2.put h3 (by omega), by rw [HW.out]⟩

set_option maxHeartbeats 1000000 in
theorem CasS_miss (c b : Nat) (n u v : ByteArray) (k : Int) (w : World) (h : HasS c b n k w) (hne : (n.toList == u.toList) = false) :
    Calls Try.prog 20 #[.pointer (some ⟨c, 0, none⟩), .string u, .string v] w (fun e w' => e = .returned (.bool false) ∧ HasS c b n (inc64 k) w' ∧ w' = (w.alloc (Obj.cells #[.string v] 9)).setCell ⟨c, 1, none⟩ (.int .i64 (inc64 k))) := by
  have hlt : c < w.heap.size := (Array.getElem?_eq_some_iff.1 h.1).1
  have h1 : HasS c b n k (w.alloc (Obj.cells #[.string v] 9)) := h.below ((Below.refl _ _).alloc (Nat.le_refl _) _) hlt h.2.1.lt
  have h2 := h1.come
  go_enter Try.func20, Try.ntmps20
  go_wp2_with fail
  refine (comeS_calls c b n k _ h1).mono ?_
  rintro e w5 ⟨rfl, hw⟩
  rw [← hw] at h2
  have HW := Lib.hid hw
  clear hw
  have hx := h2.2.1.at
  go_wp2_with fail
  refine wp_loop_once ?_
  go_wp2_with fail
  refine (LoadPS_calls c b n w5 h2.at0.1 h2.2.1).mono ?_
  rintro e w6 ⟨rfl, hw6⟩
  obtain rfl := hw6.symm
  clear hw6
  go_wp2_with fail
  go_ret
  exact ⟨rfl, h2, HW.out⟩

end Go.Proofs.Ytfegglolblglpab

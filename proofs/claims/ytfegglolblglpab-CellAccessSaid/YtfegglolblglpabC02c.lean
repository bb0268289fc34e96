/-
  The walk of the cell of numbers' Cas.
-/
import Derived.Test.YtfegglolblglpabC02b
namespace Go.Proofs.Ytfegglolblglpab
open Go.RowKit
set_option linter.unusedVariables false

set_option maxHeartbeats 1000000 in
theorem Cas_hit (c b : Nat) (n k v : Int) (w : World) (h : Has c b n k w) :
    Calls Try.prog 24 #[.pointer (some ⟨c, 0, none⟩), .int .i64 n, .int .i64 v] w (fun e w' => e = .returned (.bool true) ∧ Has c w.heap.size v (inc64 k) w' ∧ w' = ((w.alloc (Obj.cells #[.int .i64 v] 3)).setCell ⟨c, 1, none⟩ (.int .i64 (inc64 k))).setCell ⟨c, 0, none⟩ (.pointer (some ⟨w.heap.size, 0, none⟩))) := by
  have hlt : c < w.heap.size := (Array.getElem?_eq_some_iff.1 h.1).1
  have h1 : Has c b n k (w.alloc (Obj.cells #[.int .i64 v] 3)) := h.below ((Below.refl _ _).alloc (Nat.le_refl _) _) hlt h.2.1.lt
  have h2 := h1.come
  have h3 : One w.heap.size v ((w.alloc (Obj.cells #[.int .i64 v] 3)).setCell ⟨c, 1, none⟩ (.int .i64 (inc64 k))) := (box_one w v).other (by simp; omega) _
  go_enter Try.func24, Try.ntmps24
  go_wp2_with fail
  refine (come_calls c b n k _ h1).mono ?_
  rintro e w5 ⟨rfl, hw⟩
  rw [← hw] at h2 h3
  have HW := Lib.hid hw
  clear hw
  have hx := h2.2.1.at
  go_wp2_with fail
  refine wp_loop_once ?_
  go_wp2_with fail
  refine (LoadP_calls c b n w5 h2.at0.1 h2.2.1).mono ?_
  rintro e w6 ⟨rfl, hw6⟩
  obtain rfl := hw6.symm
  clear hw6
  go_wp2_with fail
  refine (CasP_calls c b w.heap.size n v w5 h2.at0.1 h2.at0.2 h2.2.1 h3).mono ?_
  rintro e w6 ⟨rfl, rfl⟩
  go_wp2_with fail
  go_ret
  exact ⟨rfl, h2.put h3 (by omega), by rw [HW.out]⟩

set_option maxHeartbeats 1000000 in
theorem Cas_miss (c b : Nat) (n k u v : Int) (w : World) (h : Has c b n k w) (hne : n ≠ u) :
    Calls Try.prog 24 #[.pointer (some ⟨c, 0, none⟩), .int .i64 u, .int .i64 v] w (fun e w' => e = .returned (.bool false) ∧ Has c b n (inc64 k) w' ∧ w' = (w.alloc (Obj.cells #[.int .i64 v] 3)).setCell ⟨c, 1, none⟩ (.int .i64 (inc64 k))) := by
  have hlt : c < w.heap.size := (Array.getElem?_eq_some_iff.1 h.1).1
  have h1 : Has c b n k (w.alloc (Obj.cells #[.int .i64 v] 3)) := h.below ((Below.refl _ _).alloc (Nat.le_refl _) _) hlt h.2.1.lt
  have h2 := h1.come
  have hnb : (n != u) = true := by simpa using hne
  go_enter Try.func24, Try.ntmps24
  go_wp2_with fail
  refine (come_calls c b n k _ h1).mono ?_
  rintro e w5 ⟨rfl, hw⟩
  rw [← hw] at h2
  have HW := Lib.hid hw
  clear hw
  have hx := h2.2.1.at
  go_wp2_with fail
  refine wp_loop_once ?_
  go_wp2_with fail
  refine (LoadP_calls c b n w5 h2.at0.1 h2.2.1).mono ?_
  rintro e w6 ⟨rfl, hw6⟩
  obtain rfl := hw6.symm
  clear hw6
  go_wp2_with fail
  go_ret
  exact ⟨rfl, h2, HW.out⟩

end Go.Proofs.Ytfegglolblglpab

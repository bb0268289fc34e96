/-
  What an access of a cell leaves alone: every old block but the cell's own.
-/
import Derived.Test.YtfegglolblglpabC02n
namespace Go.Proofs.Ytfegglolblglpab
open Go.RowKit
set_option linter.unusedVariables false

structure Left (c : Nat) (w w' : World) : Prop where
  os : w'.os = w.os
  tape : w'.tape = w.tape
  output : w'.output = w.output
  size : w.heap.size ≤ w'.heap.size
  block : ∀ k, k < w.heap.size → k ≠ c → w'.heap[k]? = w.heap[k]?
theorem Left.of_below {c : Nat} {w w' : World} (h : Below w.heap.size w w') : Left c w w' := ⟨h.os, h.tape, h.output, h.size, fun k hk _ => h.block k hk⟩
theorem Left.trans {c : Nat} {a b d : World} (h : Left c a b) (k : Left c b d) : Left c a d :=
  ⟨k.os.trans h.os, k.tape.trans h.tape, k.output.trans h.output, Nat.le_trans h.size k.size, fun i hi hn => (k.block i (Nat.lt_of_lt_of_le hi h.size) hn).trans (h.block i hi hn)⟩
theorem Left.set {c : Nat} (w : World) (i : Nat) (u : Value) : Left c w (w.setCell ⟨c, i, none⟩ u) :=
  ⟨rfl, rfl, rfl, by simp, fun k _ hn => Below.heap_setCell w ⟨c, i, none⟩ u k hn⟩
theorem Left.below {B c : Nat} {w0 w w' : World} (h : Left c w w') (hb : Below B w0 w) (hB : B ≤ w.heap.size) (hc : B ≤ c) : Below B w0 w' :=
  hb.trans ⟨h.os, h.tape, h.output, h.size, fun k hk => h.block k (by omega) (by omega)⟩
theorem Left.access (c : Nat) (v : Value) (t : Nat) (x : Value) (y : Value) (w : World) : Left c w (((w.alloc (Obj.cells #[v] t)).setCell ⟨c, 1, none⟩ x).setCell ⟨c, 0, none⟩ y) :=
  (Left.of_below ((Below.refl _ w).alloc (Nat.le_refl _) _)).trans ((Left.set _ 1 x).trans (Left.set _ 0 y))
theorem Left.miss (c : Nat) (v : Value) (t : Nat) (x : Value) (w : World) : Left c w ((w.alloc (Obj.cells #[v] t)).setCell ⟨c, 1, none⟩ x) :=
  (Left.of_below ((Below.refl _ w).alloc (Nat.le_refl _) _)).trans (Left.set _ 1 x)

/-- A cell of numbers at block c that has n and was come to k times. -/
def Cell (c : Nat) (n k : Int) (w : World) : Prop := ∃ b, Has c b n k w
def CellS (c : Nat) (n : ByteArray) (k : Int) (w : World) : Prop := ∃ b, HasS c b n k w

theorem Load_cell {c : Nat} {n k : Int} {w : World} (h : Cell c n k w) : Calls Try.prog 18 #[.pointer (some ⟨c, 0, none⟩)] w (fun e w' => e = .returned (.int .i64 n) ∧ Cell c n (inc64 k) w' ∧ Left c w w') := by
  obtain ⟨b, h⟩ := h
  refine (Load_calls c b n k w h).mono ?_
  rintro e w' ⟨rfl, rfl⟩
  exact ⟨rfl, ⟨b, h.come⟩, Left.set _ _ _⟩
theorem Store_cell {c : Nat} {n k : Int} (v : Int) {w : World} (h : Cell c n k w) : Calls Try.prog 23 #[.pointer (some ⟨c, 0, none⟩), .int .i64 v] w (fun e w' => e = .returned (.tuple #[]) ∧ Cell c v (inc64 k) w' ∧ Left c w w') := by
  obtain ⟨b, h⟩ := h
  refine (Store_calls c b n k v w h).mono ?_
  rintro e w' ⟨rfl, h', rfl⟩
  exact ⟨rfl, ⟨_, h'⟩, Left.access _ _ _ _ _ _⟩
theorem Swap_cell {c : Nat} {n k : Int} (v : Int) {w : World} (h : Cell c n k w) : Calls Try.prog 22 #[.pointer (some ⟨c, 0, none⟩), .int .i64 v] w (fun e w' => e = .returned (.int .i64 n) ∧ Cell c v (inc64 k) w' ∧ Left c w w') := by
  obtain ⟨b, h⟩ := h
  refine (Swap_calls c b n k v w h).mono ?_
  rintro e w' ⟨rfl, h', rfl⟩
  exact ⟨rfl, ⟨_, h'⟩, Left.access _ _ _ _ _ _⟩
theorem Cas_cell {c : Nat} {n k : Int} (u v : Int) {w : World} (h : Cell c n k w) : Calls Try.prog 24 #[.pointer (some ⟨c, 0, none⟩), .int .i64 u, .int .i64 v] w (fun e w' => e = .returned (.bool (n == u)) ∧ Cell c (if n = u then v else n) (inc64 k) w' ∧ Left c w w') := by
  obtain ⟨b, h⟩ := h
  by_cases e : n = u
  · subst e
    refine (Cas_hit c b n k v w h).mono ?_
    rintro e w' ⟨rfl, h', rfl⟩
    exact ⟨by simp, ⟨_, by simpa using h'⟩, Left.access _ _ _ _ _ _⟩
  · refine (Cas_miss c b n k u v w h e).mono ?_
    rintro e' w' ⟨rfl, h', rfl⟩
    exact ⟨by simp [e], ⟨_, by rw [if_neg e]; exact h'⟩, Left.miss _ _ _ _ _⟩

theorem Load_cellS {c : Nat} {n : ByteArray} {k : Int} {w : World} (h : CellS c n k w) : Calls Try.prog 21 #[.pointer (some ⟨c, 0, none⟩)] w (fun e w' => e = .returned (.string n) ∧ CellS c n (inc64 k) w' ∧ Left c w w') := by
  obtain ⟨b, h⟩ := h
  refine (LoadS_calls c b n k w h).mono ?_
  rintro e w' ⟨rfl, rfl⟩
  exact ⟨rfl, ⟨b, h.come⟩, Left.set _ _ _⟩
/-- Another cell is left alone. -/
theorem Cell.other {c d : Nat} {n k m j : Int} {w w' : World} (h : Cell d m j w) (hc : Cell c n k w) (hd : d ≠ c) (hl : Left c w w') : Cell d m j w' := by
  obtain ⟨b, h1, h2, h3⟩ := h
  obtain ⟨b', h1', h2', h3'⟩ := hc
  have hbc : b ≠ c := by
    rintro rfl
    have : w.heap[b]? = _ := h2
    rw [h1'] at this
    simp at this
  exact ⟨b, (hl.block d (Array.getElem?_eq_some_iff.1 h1).1 hd).trans h1, (hl.block b h2.lt hbc).trans h2, h3⟩
theorem CellS.other {c d : Nat} {n k j : Int} {m : ByteArray} {w w' : World} (h : CellS d m j w) (hc : Cell c n k w) (hd : d ≠ c) (hl : Left c w w') : CellS d m j w' := by
  obtain ⟨b, h1, h2, h3⟩ := h
  obtain ⟨b', h1', h2', h3'⟩ := hc
  have hbc : b ≠ c := by
    rintro rfl
    have : w.heap[b]? = _ := h2
    rw [h1'] at this
    simp at this
  exact ⟨b, (hl.block d (Array.getElem?_eq_some_iff.1 h1).1 hd).trans h1, (hl.block b h2.lt hbc).trans h2, h3⟩
theorem Cell.below {c : Nat} {n k : Int} {w w' : World} (h : Cell c n k w) (hb : Below w.heap.size w w') : Cell c n k w' := by
  obtain ⟨b, h1, h2, h3⟩ := h
  exact ⟨b, (hb.block c (Array.getElem?_eq_some_iff.1 h1).1).trans h1, h2.below hb h2.lt, h3⟩
theorem CellS.below {c : Nat} {n : ByteArray} {k : Int} {w w' : World} (h : CellS c n k w) (hb : Below w.heap.size w w') : CellS c n k w' := by
  obtain ⟨b, h1, h2, h3⟩ := h
  exact ⟨b, (hb.block c (Array.getElem?_eq_some_iff.1 h1).1).trans h1, h2.below hb h2.lt, h3⟩

end Go.Proofs.Ytfegglolblglpab

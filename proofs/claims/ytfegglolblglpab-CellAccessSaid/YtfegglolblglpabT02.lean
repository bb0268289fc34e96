/-
  A cell of numbers beside a row of the call's own: what an access of the cell and what an append to the row leave; the plain list that a row of accesses tells.
-/
import Derived.Test.YtfegglolblglpabHeld
import Derived.Maps.AppendAt
namespace Go.Proofs.Ytfegglolblglpab
open Go.RowKit
set_option linter.unusedVariables false

/-- What one access tells, and what the cell has then. -/
def stp (k a b n : Int) : Int × Int := if k = 0 then (n, n) else if k = 1 then (0, a) else if k = 2 then (n, a) else if n = a then (1, b) else (0, n)
/-- What the first i accesses tell, and what the cell has then. -/
def st (v : Int) (ks us bs : List Int) : Nat → List Int × Int
  | 0 => ([], v)
  | i + 1 => ((st v ks us bs i).1 ++ [(stp (ks.getD i 0) (us.getD i 0) (bs.getD i 0) (st v ks us bs i).2).1], (stp (ks.getD i 0) (us.getD i 0) (bs.getD i 0) (st v ks us bs i).2).2)
theorem st_length (v : Int) (ks us bs : List Int) (i : Nat) : (st v ks us bs i).1.length = i := by
  induction i with
  | zero => rfl
  | succ i ih => simp [st, ih]

/-- A cell at block c that has n and was come to k times, and a row of the call's own that lies elsewhere, from block B on. -/
def OutOk (c : Nat) (n k : Int) (B : Nat) (v : Value) (xs : List Int) (w : World) : Prop := ∃ b, Has c b n k w ∧ w.ownsRow B 3 1 v xs.length (iv xs) ∧ v.ownBlock ≠ some b ∧ c < B ∧ B ≤ w.heap.size

theorem OutOk.cell {c : Nat} {n k : Int} {B : Nat} {v : Value} {xs : List Int} {w : World} (h : OutOk c n k B v xs w) : Cell c n k w := by
  obtain ⟨b, h, _⟩ := h; exact ⟨b, h⟩
theorem OutOk.row {c : Nat} {n k : Int} {B : Nat} {v : Value} {xs : List Int} {w : World} (h : OutOk c n k B v xs w) : w.ownsRow B 3 1 v xs.length (iv xs) := by
  obtain ⟨b, _, h, _⟩ := h; exact h

/-- An access that leaves a new number's block. -/
theorem OutOk.put {c : Nat} {n k n' k' : Int} {B : Nat} {v : Value} {xs : List Int} {w w' : World} (h : OutOk c n k B v xs w) (h' : Has c w.heap.size n' k' w') (hl : Left c w w') : OutOk c n' k' B v xs w' := by
  obtain ⟨b, h1, h2, h3, h4, h5⟩ := h
  have hlt := h2.lt
  refine ⟨_, h', h2.kept (row := some c) ⟨hl.os, hl.tape, hl.output, hl.size, fun j hj hn => hl.block j hj (fun e => hn (by rw [e]))⟩ (.inr fun e => ?_), fun e => ?_, h4, Nat.le_trans h5 hl.size⟩
  · have := hlt c e; omega
  · have := hlt _ e; omega
/-- An access that leaves the number. -/
theorem OutOk.same {c : Nat} {n k k' : Int} {B : Nat} {v : Value} {xs : List Int} {w w' : World} (h : OutOk c n k B v xs w) (h' : ∀ b, Has c b n k w → Has c b n k' w') (hl : Left c w w') : OutOk c n k' B v xs w' := by
  obtain ⟨b, h1, h2, h3, h4, h5⟩ := h
  have hlt := h2.lt
  refine ⟨b, h' b h1, h2.kept (row := some c) ⟨hl.os, hl.tape, hl.output, hl.size, fun j hj hn => hl.block j hj (fun e => hn (by rw [e]))⟩ (.inr fun e => ?_), h3, h4, Nat.le_trans h5 hl.size⟩
  have := hlt c e; omega

theorem OutOk.alloc {c : Nat} {n k : Int} {B : Nat} {v : Value} {xs : List Int} {w : World} (h : OutOk c n k B v xs w) (o : Obj) : OutOk c n k B v xs (w.alloc o) := by
  obtain ⟨b, h1, h2, h3, h4, h5⟩ := h
  refine ⟨b, ?_, h2.alloc o, h3, h4, by simp; omega⟩
  have hlt : c < w.heap.size := (Array.getElem?_eq_some_iff.1 h1.1).1
  exact h1.below ((Below.refl _ _).alloc (Nat.le_refl _) _) hlt h1.2.1.lt

/-- The row has grown. -/
theorem OutOk.grown {c : Nat} {n k : Int} {B m : Nat} {v v' : Value} {xs ys : List Int} {w w' : World} (h : OutOk c n k B v xs w) (hr : w'.ownsRow B 3 1 v' m (iv ys)) (hm : m = ys.length) (hg : w.grownBy w' v.ownBlock)
    (hat : v'.ownBlock = v.ownBlock ∨ v'.ownBlock = some w.heap.size) : OutOk c n k B v' ys w' := by
  subst hm
  obtain ⟨b, h1, h2, h3, h4, h5⟩ := h
  have hlt := h2.lt
  have hc : c < w.heap.size := (Array.getElem?_eq_some_iff.1 h1.1).1
  refine ⟨b, ⟨(hg.block c hc fun e => ?_).trans h1.1, (hg.block b h1.2.1.lt fun e => h3 e.symm).trans h1.2.1, h1.2.2⟩, hr, ?_, h4, Nat.le_trans h5 hg.size⟩
  · have := hlt c e.symm; omega
  · rcases hat with e | e
    · rw [e]; exact h3
    · rw [e]; intro e'; have := h1.2.1.lt; simp at e'; omega

theorem OutOk.left {c : Nat} {n k : Int} {B : Nat} {v : Value} {xs : List Int} {w w' : World} (h : OutOk c n k B v xs w) (hg : w.grownBy w' v.ownBlock) {W : World} (hb : Below W.heap.size W w) (hB : W.heap.size ≤ B) : Below W.heap.size W w' := by
  obtain ⟨b, h1, h2, h3, h4, h5⟩ := h
  exact hb.grown hg (by omega) (fun j e => by have := h2.lt j e; omega)

theorem Load_out {c : Nat} {n k : Int} {B : Nat} {v : Value} {xs : List Int} {w : World} (h : OutOk c n k B v xs w) : Calls Try.prog 18 #[.pointer (some ⟨c, 0, none⟩)] w (fun e w' => e = .returned (.int .i64 n) ∧ OutOk c n (inc64 k) B v xs w' ∧ Left c w w') := by
  obtain ⟨b, h1, hr⟩ := h
  refine (Load_calls c b n k w h1).mono ?_
  rintro e w' ⟨rfl, rfl⟩
  refine ⟨rfl, ?_, Left.set _ _ _⟩
  exact OutOk.same ⟨b, h1, hr⟩ (fun b' hb' => hb'.come) (Left.set _ _ _)
theorem Store_out {c : Nat} {n k : Int} {B : Nat} {v : Value} {xs : List Int} {w : World} (u : Int) (h : OutOk c n k B v xs w) : Calls Try.prog 23 #[.pointer (some ⟨c, 0, none⟩), .int .i64 u] w (fun e w' => e = .returned (.tuple #[]) ∧ OutOk c u (inc64 k) B v xs w' ∧ Left c w w') := by
  obtain ⟨b, h1, hr⟩ := h
  refine (Store_calls c b n k u w h1).mono ?_
  rintro e w' ⟨rfl, h', rfl⟩
  exact ⟨rfl, OutOk.put ⟨b, h1, hr⟩ h' (Left.access _ _ _ _ _ _), Left.access _ _ _ _ _ _⟩
theorem Swap_out {c : Nat} {n k : Int} {B : Nat} {v : Value} {xs : List Int} {w : World} (u : Int) (h : OutOk c n k B v xs w) : Calls Try.prog 22 #[.pointer (some ⟨c, 0, none⟩), .int .i64 u] w (fun e w' => e = .returned (.int .i64 n) ∧ OutOk c u (inc64 k) B v xs w' ∧ Left c w w') := by
  obtain ⟨b, h1, hr⟩ := h
  refine (Swap_calls c b n k u w h1).mono ?_
  rintro e w' ⟨rfl, h', rfl⟩
  exact ⟨rfl, OutOk.put ⟨b, h1, hr⟩ h' (Left.access _ _ _ _ _ _), Left.access _ _ _ _ _ _⟩
theorem Cas_out {c : Nat} {n k : Int} {B : Nat} {v : Value} {xs : List Int} {w : World} (u u' : Int) (h : OutOk c n k B v xs w) : Calls Try.prog 24 #[.pointer (some ⟨c, 0, none⟩), .int .i64 u, .int .i64 u'] w (fun e w' => e = .returned (.bool (n == u)) ∧ OutOk c (if n = u then u' else n) (inc64 k) B v xs w' ∧ Left c w w') := by
  obtain ⟨b, h1, hr⟩ := h
  by_cases e : n = u
  · subst e
    refine (Cas_hit c b n k u' w h1).mono ?_
    rintro e w' ⟨rfl, h', rfl⟩
    exact ⟨by simp, by simpa using OutOk.put ⟨b, h1, hr⟩ h' (Left.access _ _ _ _ _ _), Left.access _ _ _ _ _ _⟩
  · refine (Cas_miss c b n k u u' w h1 e).mono ?_
    rintro e' w' ⟨rfl, h', rfl⟩
    refine ⟨by simp [e], ?_, Left.miss _ _ _ _ _⟩
    rw [if_neg e]
    refine OutOk.same ⟨b, h1, hr⟩ (fun b' hb' => ?_) (Left.miss _ _ _ _ _)
    have hlt : c < w.heap.size := (Array.getElem?_eq_some_iff.1 hb'.1).1
    exact (hb'.below ((Below.refl _ _).alloc (Nat.le_refl _) _) hlt hb'.2.1.lt).come

theorem cell_in' {w w' : World} {p : Addr} {v : Value} (h : Below w.heap.size w w') (hc : w.cell? p = some v) : w'.cell? p = some v := by
  rw [h.cell (World.block_lt_of_cell? _ _ hc)]
  exact hc

theorem iv_snoc (xs : List Int) (x : Int) : iv xs ++ [.int .i64 x] = iv (xs ++ [x]) := by simp [iv]

end Go.Proofs.Ytfegglolblglpab

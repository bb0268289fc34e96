/-
  Rows of rows of counts: how they lie in memory, and what is done to them: plain words.
-/
import Derived.Test.YtfegglolblglpaaBase
import Derived.IntWalk
namespace Go.Proofs.Ytfegglolblglpaa
open Go.RowKit

/-- Counts as values. -/
def uv (xs : List Int) : List Value := xs.map (Value.int .u64)
theorem uv_length (xs : List Int) : (uv xs).length = xs.length := by simp [uv]
theorem uv_get {xs : List Int} {i : Nat} {x : Int} (h : xs[i]? = some x) : (uv xs)[i]? = some (.int .u64 x) := by simp [uv, h]

/-- v is a slice that reads as the counts xs. -/
def Cnt (xs : List Int) (v : Value) (w : World) : Prop := ∃ a cap, v = .slice a xs.length cap ∧ xs.length ≤ cap ∧ cap ≤ maxLen ∧ Cells w a (uv xs)
theorem Cnt.below {w w' : World} {xs : List Int} {v : Value} (h : Cnt xs v w) (hb : Below w.heap.size w w') : Cnt xs v w' := by
  obtain ⟨a, cap, h1, h2, h3, h4⟩ := h
  exact ⟨a, cap, h1, h2, h3, h4.below hb⟩

/-- The cells from the address a on hold slices that read as the rows xss. -/
def Grid (w : World) (a : Option Addr) (xss : List (List Int)) : Prop :=
  ∀ i xs, xss[i]? = some xs → ∃ b o v, a = some ⟨b, o, none⟩ ∧ w.cell? ⟨b, o + i, none⟩ = some v ∧ Cnt xs v w
theorem Grid.below {w w' : World} {a : Option Addr} {xss : List (List Int)} (h : Grid w a xss) (hb : Below w.heap.size w w') : Grid w' a xss := fun i xs hx => by
  obtain ⟨b, o, v, ha, hc, hv⟩ := h i xs hx
  exact ⟨b, o, v, ha, by rw [hb.cell (World.block_lt_of_cell? w _ hc)]; exact hc, hv.below hb⟩
theorem Grid.nil (w : World) (a : Option Addr) : Grid w a [] := fun i xs h => by simp at h

/-- One element of a grid: the row's slice and the count. -/
theorem Grid.at {w : World} {a : Option Addr} {xss : List (List Int)} (h : Grid w a xss) {i : Nat} {xs : List Int} (hi : xss[i]? = some xs) :
    ∃ b o a' cap', a = some ⟨b, o, none⟩ ∧ w.cell? ⟨b, o + i, none⟩ = some (.slice a' xs.length cap') ∧ Cells w a' (uv xs) := by
  obtain ⟨b, o, v, ha, hc, a', cap', rfl, _, _, hu⟩ := h i xs hi
  exact ⟨b, o, a', cap', ha, hc, hu⟩

/-- A slice of rows. -/
def Rws (xss : List (List Int)) (v : Value) (w : World) : Prop := ∃ a cap, v = .slice a xss.length cap ∧ xss.length ≤ cap ∧ cap ≤ maxLen ∧ Grid w a xss
theorem Rws.below {w w' : World} {xss : List (List Int)} {v : Value} (h : Rws xss v w) (hb : Below w.heap.size w w') : Rws xss v w' := by
  obtain ⟨a, cap, h1, h2, h3, h4⟩ := h
  exact ⟨a, cap, h1, h2, h3, h4.below hb⟩
theorem Rws.nil (w : World) : Rws [] (.slice none 0 0) w := ⟨none, 0, rfl, by simp, by simp [maxLen], Grid.nil _ _⟩

/-- May they be counts? -/
def isB (xss : List (List Int)) : Bool := decide ((∀ r ∈ xss, r.length = 6) ∧ 1 ≤ xss.length ∧ xss.length ≤ 8)
def bigB (xss : List (List Int)) : Bool := decide (50 < xss.length ∨ ∃ r ∈ xss, 50 < r.length)
/-- One more, round 2^64. -/
def inc (x : Int) : Int := IntKind.u64.wrap (x + 1)
def addE (xss : List (List Int)) (t k : Int) : Int := if isB xss = true ∧ 0 ≤ t ∧ t < xss.length ∧ 0 ≤ k ∧ k < 6 then 0 else 1
def addRow (r : List Int) (k : Nat) : List Int := r.set k (inc (r.getD k 0))
def addL (xss : List (List Int)) (t k : Int) : List (List Int) := if addE xss t k = 0 then xss.set t.toNat (addRow (xss.getD t.toNat []) k.toNat) else []
/-- A kind's sum over the first i rows. -/
def colTo (xss : List (List Int)) (k : Nat) : Nat → Int
  | 0 => 0
  | i + 1 => IntKind.u64.wrap (colTo xss k i + (xss.getD i []).getD k 0)
def sumE (xss : List (List Int)) : Int := if isB xss = true then 0 else 1
def sumK (xss : List (List Int)) (k : Nat) : Int := if isB xss = true then colTo xss k xss.length else 0
def newE (n : Int) : Int := if n < 1 ∨ 8 < n then 1 else 0
def zeros : List Int := [0, 0, 0, 0, 0, 0]
def newL (n : Int) : List (List Int) := if newE n = 0 then List.replicate n.toNat zeros else []

end Go.Proofs.Ytfegglolblglpaa

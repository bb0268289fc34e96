/-
  Plain words on memory for this seat: when a slice value reads, element by element, as a list of values; how such readings are kept while the world grows. No program is named here.
-/
import Derived.WalkKit
import Derived.WalkSpells
import Derived.WalkLawsBesides
namespace Go.Proofs.Ytfegglolblglpab
open Go.RowKit

/-- The cells from the address a on hold the values vs, one cell each. -/
def Cells (w : World) (a : Option Addr) (vs : List Value) : Prop :=
  ∀ i x, vs[i]? = some x → ∃ b o, a = some ⟨b, o, none⟩ ∧ w.cell? ⟨b, o + i, none⟩ = some x

theorem Cells.nil (w : World) (a : Option Addr) : Cells w a [] := fun i x h => by simp at h

theorem Cells.below {w w' : World} {a : Option Addr} {vs : List Value} (h : Cells w a vs) (hb : Below w.heap.size w w') : Cells w' a vs := fun i x hx => by
  obtain ⟨b, o, ha, hc⟩ := h i x hx
  exact ⟨b, o, ha, by rw [hb.cell (p := ⟨b, o + i, none⟩) (World.block_lt_of_cell? w _ hc)]; exact hc⟩

theorem Cells.alloc {w : World} {a : Option Addr} {vs : List Value} (h : Cells w a vs) (o : Obj) : Cells (w.alloc o) a vs :=
  h.below ((Below.refl _ _).alloc (Nat.le_refl _) o)

theorem Cells.of_ownsRow {w : World} {B : Nat} {e : TypeId} {v : Value} {n : Nat} {vs : List Value} (h : w.ownsRow B e 1 v n vs) :
    ∃ a cap, v = .slice a vs.length cap ∧ vs.length ≤ cap ∧ cap ≤ maxLen ∧ Cells w a vs ∧ (a = none → vs = []) := by
  obtain ⟨hl, h⟩ := h
  rw [Nat.mul_one] at hl
  rcases h with ⟨rfl, rfl⟩ | ⟨g, cap, cur, rfl, hb, hg, hn, hm, hs, ht⟩
  · have : vs = [] := List.length_eq_zero_iff.1 hl
    subst this
    exact ⟨none, 0, rfl, by simp, by simp [maxLen], Cells.nil _ _, fun _ => rfl⟩
  · refine ⟨some ⟨g, 0, none⟩, cap, by rw [hl], by omega, hm, ?_, fun h => by cases h⟩
    intro i x hx
    refine ⟨g, 0, rfl, ?_⟩
    rw [cell_of_row w g (0 + i) cur e (0, 0) hg]
    rw [← ht, List.getElem?_take] at hx
    split at hx
    · simpa using hx
    · cases hx

/-- The call gives back one value, of which R speaks, and leaves all old memory alone. -/
def Gives (w : World) (R : Value → World → Prop) (e : Ending) (w' : World) : Prop := ∃ v, e = .returned v ∧ R v w' ∧ Below w.heap.size w w'

/-- The call gives back one value, of which R speaks, and an error's number. -/
def GivesE (w : World) (R : Value → World → Prop) (E : Int) (e : Ending) (w' : World) : Prop := ∃ v, e = .returned (.tuple #[v, .int .i64 E]) ∧ R v w' ∧ Below w.heap.size w w'

/-- v is a slice that reads as vs. -/
def Row (vs : List Value) (v : Value) (w : World) : Prop := ∃ a cap, v = .slice a vs.length cap ∧ vs.length ≤ cap ∧ cap ≤ maxLen ∧ Cells w a vs

theorem Row.below {w w' : World} {vs : List Value} {v : Value} (h : Row vs v w) (hb : Below w.heap.size w w') : Row vs v w' := by
  obtain ⟨a, cap, h1, h2, h3, h4⟩ := h
  exact ⟨a, cap, h1, h2, h3, h4.below hb⟩

/-- Numbers as values. -/
def iv (xs : List Int) : List Value := xs.map (Value.int .i64)
theorem iv_length (xs : List Int) : (iv xs).length = xs.length := by simp [iv]
theorem iv_get {xs : List Int} {i : Nat} {x : Int} (h : xs[i]? = some x) : (iv xs)[i]? = some (.int .i64 x) := by simp [iv, h]
def bv (xs : List Bool) : List Value := xs.map Value.bool
theorem bv_get {xs : List Bool} {i : Nat} {x : Bool} (h : xs[i]? = some x) : (bv xs)[i]? = some (.bool x) := by simp [bv, h]

/-- v is a slice that reads as the numbers xs. -/
def Ints (xs : List Int) (v : Value) (w : World) : Prop := ∃ a cap, v = .slice a xs.length cap ∧ xs.length ≤ cap ∧ cap ≤ maxLen ∧ Cells w a (iv xs)

theorem Ints.below {w w' : World} {vs : List Int} {v : Value} (h : Ints vs v w) (hb : Below w.heap.size w w') : Ints vs v w' := by
  obtain ⟨a, cap, h1, h2, h3, h4⟩ := h
  exact ⟨a, cap, h1, h2, h3, h4.below hb⟩

theorem Ints.of_row {w : World} {xs : List Int} {v : Value} (h : Row (iv xs) v w) : Ints xs v w := by
  obtain ⟨a, cap, h1, h2, h3, h4⟩ := h
  rw [iv_length] at h1 h2
  exact ⟨a, cap, h1, h2, h3, h4⟩

theorem Ints.nil (w : World) : Ints [] (.slice none 0 0) w := ⟨none, 0, rfl, by simp, by simp [maxLen], Cells.nil _ _⟩

theorem get_of_lt {α : Type} {xs : List α} {k : Nat} (h : k < xs.length) : ∃ x, xs[k]? = some x := ⟨xs[k], by simp [h]⟩

end Go.Proofs.Ytfegglolblglpab

/-
  How rows of numbers are opened.
-/
import Derived.Test.YtfegglolblglpaaOpen11
import Derived.Test.YtfegglolblglpaaL11d
namespace Go.Proofs.Ytfegglolblglpaa
open Go.ChangeShapes Go.WideShapes Go.ChangeAt Go.RowKit Go.Joins Go.Deep
set_option linter.unusedVariables false

section
variable {H : Type} {enc : TypeId × Value → H}

theorem row_is {W : World} {base fuel : Nat} {spare : Nat → Bool} {held : Bool} {v : Value} {x : DataW H × List MemPlace} (h : DataW.trod enc Try.prog W base spare held fuel 29 [v] = some x) : ∃ xs, Ints xs v W := by
  rcases open_ints Try.underlying29 Try.underlying3 Try.cells3 h with ⟨hcs, _⟩ | ⟨a, l, c, zs, hcs, _, hl, hm, hz, _, hcell, _⟩
  · simp only [List.cons.injEq, and_true] at hcs
    subst hcs
    exact ⟨[], none, 0, rfl, by simp, by simp [maxLen], Cells.nil _ _⟩
  · simp only [List.cons.injEq, and_true] at hcs
    subst hcs
    have hlz : l ≤ zs.length := by rw [hz]; split <;> omega
    have hlen : (zs.take l).length = l := by rw [List.length_take]; omega
    refine ⟨zs.take l, some a, c, by rw [hlen], by rw [hlen]; exact hl, hm, ?_⟩
    have := cells_of_add (f := fun i => Value.int .i64 (zs.getD i 0)) hcell hlz
    have e : (List.range l).map (fun i => Value.int .i64 (zs.getD i 0)) = iv (zs.take l) := by
      apply List.ext_getElem?
      intro i
      simp only [iv, List.getElem?_map, List.getElem?_take]
      by_cases hi : i < l
      · simp [hi, List.getD, List.getElem?_eq_getElem (show i < zs.length by omega)]
      · simp [hi]
    rw [← e]
    exact this

theorem open_iss {W : World} {base : Nat} {v : Value} {d : DataW H} {p : List MemPlace} (hv : Value.okWide Try.prog W .any base 48 v) (h : DataW.Trod enc Try.prog W 0 (fun _ => true) true 48 v d p) :
    ∃ a yss cap, v = .slice a yss.length cap ∧ yss.length ≤ 9223372036854775807 ∧ GridI W a yss := by
  obtain ⟨a0, len, cap, rfl⟩ := okWide_slice Try.underlying48 hv
  obtain ⟨fuel, hf⟩ := h
  rcases open_slice1 Try.underlying48 Try.cells29 hf with ⟨hcs, _⟩ | ⟨a, l, c, m, k, V, D, Pl, hcs, _, hl, hm, hmm, _, hx⟩
  · simp [Value.cells] at hcs
    obtain ⟨rfl, rfl, rfl⟩ := hcs
    exact ⟨none, [], 0, rfl, by simp, GridI.nil _ _⟩
  · simp [Value.cells] at hcs
    obtain ⟨rfl, rfl, rfl⟩ := hcs
    simp only [if_true] at hmm
    subst hmm
    obtain ⟨X, hX⟩ : ∃ X : Nat → List Int, ∀ i, i < m → Ints (X i) (V i) W := by
      refine ⟨fun i => if hi : i < m then Classical.choose (row_is (hx i hi).2) else [], fun i hi => ?_⟩
      simp only [dif_pos hi]
      exact Classical.choose_spec (row_is (hx i hi).2)
    have hC := cells_of_add (fun i hi => (hx i hi).1) hl
    refine ⟨some a, (List.range len).map X, m, by simp, by simp only [List.length_map, List.length_range]; unfold maxLen at hm; omega, fun i xs hi => ?_⟩
    simp only [List.getElem?_map, Option.map_eq_some_iff] at hi
    obtain ⟨j, hj, rfl⟩ := hi
    obtain ⟨hlt, hj'⟩ := List.getElem?_eq_some_iff.1 hj
    simp only [List.length_range, List.getElem_range] at hlt hj'
    subst hj'
    obtain ⟨b, o, ha, hc⟩ := hC i (V i) (by simp [hlt])
    exact ⟨b, o, V i, ha, hc, hX i (by omega)⟩
end

end Go.Proofs.Ytfegglolblglpaa

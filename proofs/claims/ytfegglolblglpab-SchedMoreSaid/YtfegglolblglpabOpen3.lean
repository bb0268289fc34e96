/-
  How a slice of numbers is opened, with what nil means.
-/
import Derived.Test.YtfegglolblglpabOpen
namespace Go.Proofs.Ytfegglolblglpab
open Go.ChangeShapes Go.WideShapes Go.ChangeAt Go.RowKit Go.Joins Go.Deep
set_option linter.unusedVariables false

section
variable {H : Type} {enc : TypeId × Value → H}

theorem open_isn {W : World} {base : Nat} {v : Value} {d : DataW H} {p : List MemPlace} (hv : Value.okWide Try.prog W .any base 22 v) (h : DataW.Trod enc Try.prog W 0 (fun _ => true) true 22 v d p) :
    ∃ a xs cap, v = .slice a xs.length cap ∧ xs.length ≤ cap ∧ cap ≤ 9223372036854775807 ∧ Cells W a (iv xs) ∧ (∀ x ∈ xs, -9223372036854775808 ≤ x ∧ x ≤ 9223372036854775807) ∧ (a = none → xs = [] ∧ cap = 0) := by
  obtain ⟨a0, len, cap, rfl⟩ := okWide_slice Try.underlying22 hv
  obtain ⟨fuel, hf⟩ := h
  rcases open_ints Try.underlying22 Try.underlying3 Try.cells3 hf with ⟨hcs, _⟩ | ⟨a, l, c, zs, hcs, _, hl, hm, hz, _, hcell, hwz⟩
  · simp [Value.cells] at hcs
    obtain ⟨rfl, rfl, rfl⟩ := hcs
    exact ⟨none, [], 0, rfl, by simp, by simp, Cells.nil _ _, by simp, fun _ => ⟨rfl, rfl⟩⟩
  · simp [Value.cells] at hcs
    obtain ⟨rfl, rfl, rfl⟩ := hcs
    simp only [if_true] at hz
    have hlen : (zs.take len).length = len := by rw [List.length_take]; omega
    refine ⟨some a, zs.take len, cap, by rw [hlen], by omega, by unfold maxLen at hm; omega, ?_, ?_, fun h => by cases h⟩
    · have := cells_of_add (f := fun i => Value.int .i64 (zs.getD i 0)) hcell (by omega : len ≤ zs.length)
      have e : (List.range len).map (fun i => Value.int .i64 (zs.getD i 0)) = iv (zs.take len) := by
        apply List.ext_getElem?
        intro i
        simp only [iv, List.getElem?_map, List.getElem?_take]
        by_cases hi : i < len
        · simp [hi, List.getD, List.getElem?_eq_getElem (show i < zs.length by omega)]
        · simp [hi]
      rw [← e]; exact this
    · intro x hx
      have := hwz x (List.mem_of_mem_take hx)
      simpa [Lit.wf, IntKind.min, IntKind.max, IntKind.signed, IntKind.bits] using this
end

end Go.Proofs.Ytfegglolblglpab

/-
  How a text and a slice of texts are opened.
-/
import Derived.Test.YtfegglolblglpabOpen
import Derived.Test.YtfegglolblglpabL02d
import Derived.SliceStrings
namespace Go.Proofs.Ytfegglolblglpab
open Go.ChangeShapes Go.WideShapes Go.ChangeAt Go.RowKit Go.Joins Go.Deep
open Go.ChangeMaps (open_string shut_string)
set_option linter.unusedVariables false

theorem Try.cells9 : Try.prog.cellsOf 9 = 1 := by kernel_rfl

section
variable {H : Type} {enc : TypeId × Value → H}

theorem open_st {W : World} {base : Nat} {v : Value} {d : DataW H} {p : List MemPlace} (hv : Value.okWide Try.prog W .any base 9 v) (h : DataW.Trod enc Try.prog W 0 (fun _ => true) true 9 v d p) :
    ∃ s : ByteArray, v = .string s := by
  obtain ⟨s, rfl, _⟩ := open_string Try.underlying9 hv h
  exact ⟨s, rfl⟩

theorem open_ss {W : World} {base : Nat} {v : Value} {d : DataW H} {p : List MemPlace} (hv : Value.okWide Try.prog W .any base 32 v) (h : DataW.Trod enc Try.prog W 0 (fun _ => true) true 32 v d p) :
    ∃ a xs cap, v = .slice a xs.length cap ∧ xs.length ≤ cap ∧ cap ≤ 9223372036854775807 ∧ Cells W a (sv xs) := by
  obtain ⟨a0, len, cap, rfl⟩ := okWide_slice Try.underlying32 hv
  obtain ⟨fuel, hf⟩ := h
  rcases open_strings Try.underlying32 Try.underlying9 Try.cells9 hf with ⟨hcs, _⟩ | ⟨a, l, c, zs, hcs, _, hl, hm, hz, _, hcell, hwz⟩
  · simp [Value.cells] at hcs
    obtain ⟨rfl, rfl, rfl⟩ := hcs
    exact ⟨none, [], 0, rfl, by simp, by simp, Cells.nil _ _⟩
  · simp [Value.cells] at hcs
    obtain ⟨rfl, rfl, rfl⟩ := hcs
    simp only [if_true] at hz
    have hlen : (zs.take len).length = len := by rw [List.length_take]; omega
    refine ⟨some a, zs.take len, cap, by rw [hlen], by omega, by unfold maxLen at hm; omega, ?_⟩
    have := cells_of_add (f := fun i => Value.string (zs.getD i .empty)) hcell (by omega : len ≤ zs.length)
    have e : (List.range len).map (fun i => Value.string (zs.getD i .empty)) = sv (zs.take len) := by
      apply List.ext_getElem?
      intro i
      simp only [sv, List.getElem?_map, List.getElem?_take]
      by_cases hi : i < len
      · simp [hi, List.getD, List.getElem?_eq_getElem (show i < zs.length by omega)]
      · simp [hi]
    rw [← e]; exact this
end

end Go.Proofs.Ytfegglolblglpab

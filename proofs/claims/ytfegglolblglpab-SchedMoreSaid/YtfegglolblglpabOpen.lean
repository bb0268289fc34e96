/-
  How the arguments of this seat's statements are opened: numbers.
-/
import Derived.Test.YtfegglolblglpabRows
import Derived.Test.YtfegglolblglpabBase
import Derived.WalkKit
import Derived.ProofKit
import Derived.OpenShut
import Derived.ShutString
import Derived.ChangeOld
import Derived.Deep.Slices
import Derived.Lib.SmallJoins
namespace Go.Proofs.Ytfegglolblglpab
open Go.ChangeShapes Go.WideShapes Go.ChangeAt Go.RowKit Go.Joins Go.Deep
open Go.ChangeMaps (open_string shut_string)
set_option linter.unusedVariables false

theorem Try.own : ownKnob Try.prog.godebug = none := by kernel_rfl
theorem Try.laidOut : laidOutB Try.prog = true := by kernel_rfl
theorem Try.cells3 : Try.prog.cellsOf 3 = 1 := by kernel_rfl
theorem Try.cells4 : Try.prog.cellsOf 4 = 1 := by kernel_rfl

section
variable {H : Type} {enc : TypeId × Value → H}

theorem spot_none {w : World} {b o : Nat} {s : Option Nat} {v : Value} (h : w.cell? ⟨b, o, s⟩ = some v) : s = none := by
  simp only [World.cell?] at h
  split at h
  · split at h
    · cases h
    · rename_i hs
      cases s <;> simp_all
  · cases h

/-- What lies from an address on, cell by cell. -/
theorem cells_of_add {w : World} {a : Addr} {len cap : Nat} {f : Nat → Value} (h : ∀ i, i < cap → w.cell? (a.add i) = some (f i)) (hl : len ≤ cap) : Cells w (some a) ((List.range len).map f) := by
  intro i x hx
  simp only [List.getElem?_map, Option.map_eq_some_iff] at hx
  obtain ⟨j, hj, rfl⟩ := hx
  obtain ⟨hlt, hj'⟩ := List.getElem?_eq_some_iff.1 hj
  simp only [List.length_range, List.getElem_range] at hlt hj'
  subst hj'
  · obtain ⟨b, o, s⟩ := a
    have h0 := h 0 (by omega)
    simp only [Addr.add, if_true] at h0
    obtain rfl := spot_none h0
    refine ⟨b, o, rfl, ?_⟩
    have h1 := h i (by omega)
    unfold Addr.add at h1
    split at h1
    · rename_i e; subst e; simpa using h1
    · exact h1

theorem open_i64 {W : World} {base : Nat} {v : Value} {d : DataW H} {p : List MemPlace} (hv : Value.okWide Try.prog W .any base 3 v) (h : DataW.Trod enc Try.prog W 0 (fun _ => true) true 3 v d p) :
    ∃ n : Int, v = .int .i64 n ∧ -9223372036854775808 ≤ n ∧ n ≤ 9223372036854775807 := by
  obtain ⟨n, rfl, rfl, rfl, w⟩ := open_int Try.underlying3 hv h
  have : -9223372036854775808 ≤ n ∧ n ≤ 9223372036854775807 := by simpa [Lit.wf, IntKind.min, IntKind.max, IntKind.signed, IntKind.bits] using w
  exact ⟨n, rfl, this.1, this.2⟩

end

end Go.Proofs.Ytfegglolblglpab

/-
  How the arguments of this seat's statements are opened: a cluster, numbers, slices of numbers, slices of rows.
-/
import Derived.Test.YtfegglolblglpaaRows
import Derived.Test.YtfegglolblglpaaBase
import Derived.WalkKit
import Derived.ProofKit
import Derived.OpenShut
import Derived.ShutString
import Derived.ChangeOld
import Derived.Deep.Slices
import Derived.Lib.SmallJoins
namespace Go.Proofs.Ytfegglolblglpaa
open Go.ChangeShapes Go.WideShapes Go.ChangeAt Go.RowKit Go.Joins Go.Deep
open Go.ChangeMaps (open_string shut_string)
set_option linter.unusedVariables false

theorem Try.own : ownKnob Try.prog.godebug = none := by kernel_rfl
theorem Try.laidOut : laidOutB Try.prog = true := by kernel_rfl
theorem Try.cells3 : Try.prog.cellsOf 3 = 1 := by kernel_rfl
theorem Try.cells4 : Try.prog.cellsOf 4 = 1 := by kernel_rfl
theorem Try.cells24 : Try.prog.cellsOf 24 = 4 := by kernel_rfl
theorem Try.cells25 : Try.prog.cellsOf 25 = 1 := by kernel_rfl
theorem Try.cells29 : Try.prog.cellsOf 29 = 1 := by kernel_rfl
theorem Try.cells60 : Try.prog.cellsOf 60 = 1 := by kernel_rfl

section
variable {H : Type} {enc : TypeId × Value → H}

theorem spot_none {w : World} {b o : Nat} {s : Option Nat} {v : Value} (h : w.cell? ⟨b, o, s⟩ = some v) : s = none := by
  simp only [World.cell?] at h
  split at h
  · split at h
    · cases h
    · rename_i hs
      cases s <;> simp_all
  · cases h

/-- What lies from an address on, cell by cell. -/
theorem cells_of_add {w : World} {a : Addr} {len cap : Nat} {f : Nat → Value} (h : ∀ i, i < cap → w.cell? (a.add i) = some (f i)) (hl : len ≤ cap) : Cells w (some a) ((List.range len).map f) := by
  intro i x hx
  simp only [List.getElem?_map, Option.map_eq_some_iff] at hx
  obtain ⟨j, hj, rfl⟩ := hx
  obtain ⟨hlt, hj'⟩ := List.getElem?_eq_some_iff.1 hj
  simp only [List.length_range, List.getElem_range] at hlt hj'
  subst hj'
  · obtain ⟨b, o, s⟩ := a
    have h0 := h 0 (by omega)
    simp only [Addr.add, if_true] at h0
    obtain rfl := spot_none h0
    refine ⟨b, o, rfl, ?_⟩
    have h1 := h i (by omega)
    unfold Addr.add at h1
    split at h1
    · rename_i e; subst e; simpa using h1
    · exact h1

theorem open_i64 {W : World} {base : Nat} {v : Value} {d : DataW H} {p : List MemPlace} (hv : Value.okWide Try.prog W .any base 3 v) (h : DataW.Trod enc Try.prog W 0 (fun _ => true) true 3 v d p) :
    ∃ n : Int, v = .int .i64 n ∧ -9223372036854775808 ≤ n ∧ n ≤ 9223372036854775807 := by
  obtain ⟨n, rfl, rfl, rfl, w⟩ := open_int Try.underlying3 hv h
  have : -9223372036854775808 ≤ n ∧ n ≤ 9223372036854775807 := by simpa [Lit.wf, IntKind.min, IntKind.max, IntKind.signed, IntKind.bits] using w
  exact ⟨n, rfl, this.1, this.2⟩

theorem open_u64 {W : World} {base : Nat} {v : Value} {d : DataW H} {p : List MemPlace} (hv : Value.okWide Try.prog W .any base 25 v) (h : DataW.Trod enc Try.prog W 0 (fun _ => true) true 25 v d p) :
    ∃ n : Nat, v = .int .u64 (n : Int) ∧ n < 18446744073709551616 := by
  obtain ⟨n, rfl, rfl, rfl, w⟩ := open_int Try.underlying25 hv h
  have : 0 ≤ n ∧ n ≤ 18446744073709551615 := by simpa [Lit.wf, IntKind.min, IntKind.max, IntKind.signed, IntKind.bits] using w
  obtain ⟨m, rfl⟩ := Int.eq_ofNat_of_zero_le this.1
  exact ⟨m, rfl, by omega⟩

theorem bulkAll_len (l : List (DataW H)) : l.length ≤ Rows.uptoBulkAll l := by
  induction l with
  | nil => simp
  | cons d l ih =>
    simp only [Rows.uptoBulkAll, List.length_cons]
    have : 1 ≤ Rows.uptoBulk d := by
      cases d with
      | lit x => cases x <;> simp [Rows.uptoBulk]
      | _ => simp [Rows.uptoBulk]
    omega

theorem open_cl {W : World} {base : Nat} {v : Value} {d : DataW H} {p : List MemPlace} (hv : Value.okWide Try.prog W .any base 24 v) (h : DataW.Trod enc Try.prog W 0 (fun _ => true) true 24 v d p) :
    ∃ s c1 c2 a hs cap, v = .agg #[.string s, .int .i64 c1, .int .i64 c2, .slice a hs.length cap] ∧ hs.length ≤ 9223372036854775807 ∧ Cells W a (bv hs) ∧ hs.length ≤ Rows.uptoBulk d := by
  obtain ⟨v0, v1, v2, v3, y0, y1, y2, y3, n, rfl, rfl, rfl, h0, h1, h2, h3⟩ := open_agg4 Try.underlying24 (by kernel_rfl) Try.cells24 hv h
  obtain ⟨s, e0, rfl, _⟩ := DataW.trod_string Try.underlying9 h0
  obtain ⟨c1, e1, rfl, _⟩ := DataW.trod_int Try.underlying3 h1
  obtain ⟨c2, e2, rfl, _⟩ := DataW.trod_int Try.underlying3 h2
  simp only [List.cons.injEq, and_true] at e0 e1 e2
  subst e0 e1 e2
  rcases open_slice1 Try.underlying22 Try.cells4 h3 with ⟨hcs, rfl⟩ | ⟨a, len, cap, m, k, V, D, Pl, hcs, _, hl, hm, hmm, rfl, hx⟩
  · simp only [List.cons.injEq, and_true] at hcs
    subst hcs
    exact ⟨s, c1, c2, none, [], 0, rfl, by simp, Cells.nil _ _, by simp⟩
  · simp only [List.cons.injEq, and_true] at hcs
    subst hcs
    simp only [if_true] at hmm
    subst hmm
    obtain ⟨B, hB⟩ : ∃ B : Nat → Bool, ∀ i, i < m → V i = .bool (B i) := by
      refine ⟨fun i => match V i with | .bool b => b | _ => false, fun i hi => ?_⟩
      obtain ⟨b, hb, _⟩ := DataW.trod_bool Try.underlying4 (hx i hi).2
      simp only [List.cons.injEq, and_true] at hb
      simp only [hb]
    refine ⟨s, c1, c2, some a, (List.range len).map B, m, by simp, ?_, ?_, ?_⟩
    · simp only [List.length_map, List.length_range]; unfold maxLen at hm; omega
    · have := cells_of_add (f := fun i => Value.bool (B i)) (fun i hi => by rw [← hB i hi]; exact (hx i hi).1) hl
      simpa [bv, Function.comp_def] using this
    · have := bulkAll_len ((List.range len).map D)
      simp only [Rows.uptoBulk, Rows.uptoBulkAll, List.length_map, List.length_range] at this ⊢
      omega

theorem open_is {W : World} {base : Nat} {v : Value} {d : DataW H} {p : List MemPlace} (hv : Value.okWide Try.prog W .any base 29 v) (h : DataW.Trod enc Try.prog W 0 (fun _ => true) true 29 v d p) :
    ∃ a xs cap, v = .slice a xs.length cap ∧ xs.length ≤ cap ∧ cap ≤ 9223372036854775807 ∧ Cells W a (iv xs) ∧ (∀ x ∈ xs, -9223372036854775808 ≤ x ∧ x ≤ 9223372036854775807) := by
  obtain ⟨a0, len, cap, rfl⟩ := okWide_slice Try.underlying29 hv
  obtain ⟨fuel, hf⟩ := h
  rcases open_ints Try.underlying29 Try.underlying3 Try.cells3 hf with ⟨hcs, _⟩ | ⟨a, l, c, zs, hcs, _, hl, hm, hz, _, hcell, hwz⟩
  · simp [Value.cells] at hcs
    obtain ⟨rfl, rfl, rfl⟩ := hcs
    exact ⟨none, [], 0, rfl, by simp, by simp, Cells.nil _ _, by simp⟩
  · simp [Value.cells] at hcs
    obtain ⟨rfl, rfl, rfl⟩ := hcs
    simp only [if_true] at hz
    have hlen : (zs.take len).length = len := by rw [List.length_take]; omega
    refine ⟨some a, zs.take len, cap, by rw [hlen], by omega, by unfold maxLen at hm; omega, ?_, ?_⟩
    · have := cells_of_add (f := fun i => Value.int .i64 (zs.getD i 0)) hcell (by omega : len ≤ zs.length)
      have e : (List.range len).map (fun i => Value.int .i64 (zs.getD i 0)) = iv (zs.take len) := by
        apply List.ext_getElem?
        intro i
        simp only [iv, List.getElem?_map, List.getElem?_take]
        by_cases hi : i < len
        · simp [hi, List.getD, List.getElem?_eq_getElem (show i < zs.length by omega)]
        · simp [hi]
      rw [← e]; exact this
    · intro x hx
      have := hwz x (List.mem_of_mem_take hx)
      simpa [Lit.wf, IntKind.min, IntKind.max, IntKind.signed, IntKind.bits] using this
end

end Go.Proofs.Ytfegglolblglpaa

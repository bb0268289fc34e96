/-
  Plain words on counts: what adding does to the sums.
-/
import Derived.Test.YtfegglolblglpaaW11g
namespace Go.Proofs.Ytfegglolblglpaa
open Go.RowKit

theorem isB_iff (xss : List (List Int)) : isB xss = true ↔ (∀ r ∈ xss, r.length = 6) ∧ 1 ≤ xss.length ∧ xss.length ≤ 8 := by simp [isB]
theorem addRow_length (r : List Int) (k : Nat) : (addRow r k).length = r.length := by simp [addRow]
theorem isB_set {xss : List (List Int)} {t : Nat} {r : List Int} (h : isB xss = true) (hr : r.length = 6) : isB (xss.set t r) = true := by
  rw [isB_iff] at h ⊢
  refine ⟨fun x hx => ?_, by rw [List.length_set]; exact h.2.1, by rw [List.length_set]; exact h.2.2⟩
  rcases List.mem_or_eq_of_mem_set hx with h1 | h1
  · exact h.1 x h1
  · rw [h1]; exact hr
theorem addE_zero {xss : List (List Int)} {t k : Int} (h : addE xss t k = 0) : isB xss = true ∧ 0 ≤ t ∧ t < xss.length ∧ 0 ≤ k ∧ k < 6 := by
  simp only [addE] at h
  split at h
  · assumption
  · cases h
/-- What an add that is taken gives. -/
theorem addL_taken {xss : List (List Int)} {t k : Int} (h : addE xss t k = 0) : ∃ (i j : Nat) (r : List Int), t = i ∧ k = j ∧ j < 6 ∧ xss[i]? = some r ∧ r.length = 6 ∧ addL xss t k = xss.set i (addRow r j) ∧ isB xss = true ∧ isB (addL xss t k) = true := by
  obtain ⟨hB, h1, h2, h3, h4⟩ := addE_zero h
  obtain ⟨i, rfl⟩ := Int.eq_ofNat_of_zero_le h1
  obtain ⟨j, rfl⟩ := Int.eq_ofNat_of_zero_le h3
  obtain ⟨r, hr⟩ := get_of_lt (xs := xss) (k := i) (by omega)
  have hr6 := ((isB_iff _).1 hB).1 r (List.mem_of_getElem? hr)
  obtain ⟨_, e2⟩ := addE_good hB hr (show j < 6 by omega)
  exact ⟨i, j, r, rfl, rfl, by omega, hr, hr6, e2, hB, by rw [e2]; exact isB_set hB (by rw [addRow_length]; exact hr6)⟩
theorem addL_small (xss : List (List Int)) (t k : Int) : (addL xss t k).length ≤ 8 ∧ ∀ r ∈ addL xss t k, r.length ≤ 6 := by
  by_cases h : addE xss t k = 0
  · obtain ⟨i, j, r, _, _, _, _, _, _, _, hB⟩ := addL_taken h
    rw [isB_iff] at hB
    exact ⟨hB.2.2, fun r hr => Nat.le_of_eq (hB.1 r hr)⟩
  · simp [addL, h]
theorem newL_small (n : Int) : (newL n).length ≤ 8 ∧ ∀ r ∈ newL n, r.length ≤ 6 := by
  by_cases h : newE n = 0
  · simp only [newL, if_pos h, List.length_replicate, List.mem_replicate]
    refine ⟨?_, ?_⟩
    · simp only [newE] at h
      split at h
      · cases h
      · omega
    · rintro r ⟨_, rfl⟩
      decide
  · simp [newL, h]

def sums (xss : List (List Int)) : List Int := [sumK xss 0, sumK xss 1, sumK xss 2, sumK xss 3, sumK xss 4, sumK xss 5]
theorem sums_length (xss : List (List Int)) : (sums xss).length = 6 := rfl
theorem sums_at (xss : List (List Int)) {k : Nat} (hk : k < 6) : (sums xss)[k]? = some (sumK xss k) := by
  match k, hk with
  | 0, _ => rfl
  | 1, _ => rfl
  | 2, _ => rfl
  | 3, _ => rfl
  | 4, _ => rfl
  | 5, _ => rfl

theorem wrap_add (a b : Int) : IntKind.u64.wrap (IntKind.u64.wrap a + b) = IntKind.u64.wrap (a + b) := by
  simp [IntKind.wrap, IntKind.signed, IntKind.bits]
theorem wrap_add' (a b : Int) : IntKind.u64.wrap (a + IntKind.u64.wrap b) = IntKind.u64.wrap (a + b) := by
  simp [IntKind.wrap, IntKind.signed, IntKind.bits]

theorem colTo_other {xss : List (List Int)} {i k n : Nat} {r : List Int} (h : ∀ j, j < n → ((xss.set i r).getD j []).getD k 0 = (xss.getD j []).getD k 0) : colTo (xss.set i r) k n = colTo xss k n := by
  induction n with
  | zero => rfl
  | succ n ih =>
    simp only [colTo]
    rw [ih (fun j hj => h j (by omega)), h n (by omega)]
theorem set_getD_ne {xss : List (List Int)} {i j : Nat} {r : List Int} (h : i ≠ j) : (xss.set i r).getD j [] = xss.getD j [] := by
  simp [List.getD, List.getElem?_set_ne h]
theorem set_getD_self {xss : List (List Int)} {i : Nat} {r : List Int} (h : i < xss.length) : (xss.set i r).getD i [] = r := by
  simp [List.getD, h]
theorem addRow_at {r : List Int} {j : Nat} (hj : j < r.length) : (addRow r j).getD j 0 = inc (r.getD j 0) := by
  simp [addRow, List.getD, hj]
theorem addRow_other {r : List Int} {j k : Nat} (h : j ≠ k) : (addRow r j).getD k 0 = r.getD k 0 := by
  simp [addRow, List.getD, List.getElem?_set_ne h]
/-- One add makes its kind's sum greater by one, as soon as its row is reached. -/
theorem colTo_add {xss : List (List Int)} {i j : Nat} {r : List Int} (hr : xss[i]? = some r) (hj : j < r.length) : ∀ n, colTo (xss.set i (addRow r j)) j n = if i < n then IntKind.u64.wrap (colTo xss j n + 1) else colTo xss j n := by
  have hi := (List.getElem?_eq_some_iff.1 hr).1
  have hrd : xss.getD i [] = r := by simp [List.getD, hr]
  intro n
  induction n with
  | zero => simp [colTo]
  | succ n ih =>
    simp only [colTo, ih]
    by_cases e : i = n
    · subst e
      rw [set_getD_self hi, addRow_at hj, hrd]
      simp only [Nat.lt_irrefl, if_false, Nat.lt_succ_self, if_true, inc]
      rw [wrap_add', wrap_add]
      congr 1
      omega
    · rw [set_getD_ne e]
      by_cases h : i < n
      · have h' : i < n + 1 := by omega
        simp only [h, h', if_true]
        rw [wrap_add, wrap_add]
        congr 1
        omega
      · have h' : ¬ i < n + 1 := by omega
        simp only [h, h', if_false]
theorem colTo_add_other {xss : List (List Int)} {i j k : Nat} {r : List Int} (hr : xss[i]? = some r) (hk : j ≠ k) (n : Nat) : colTo (xss.set i (addRow r j)) k n = colTo xss k n := by
  have hi := (List.getElem?_eq_some_iff.1 hr).1
  have hrd : xss.getD i [] = r := by simp [List.getD, hr]
  refine colTo_other fun m _ => ?_
  by_cases e : i = m
  · subst e
    rw [set_getD_self hi, addRow_other hk, hrd]
  · rw [set_getD_ne e]

/-- P11.3: an add that is taken adds 1 to the sum of its kind and nothing to any other one. -/
theorem sumK_add {xss : List (List Int)} {t k : Int} (h : addE xss t k = 0) (m : Nat) (hm : m < 6) : sumK (addL xss t k) m = if (m : Int) = k then inc (sumK xss m) else sumK xss m := by
  obtain ⟨i, j, r, rfl, rfl, hj, hr, hr6, e, hB, hB'⟩ := addL_taken h
  have hi := (List.getElem?_eq_some_iff.1 hr).1
  rw [e] at hB'
  rw [e]
  simp only [sumK, hB, hB', if_true, List.length_set]
  by_cases em : m = j
  · subst em
    rw [colTo_add hr (by omega), if_pos hi, if_pos rfl]
    rfl
  · rw [colTo_add_other hr (fun h => em h.symm), if_neg (by omega)]

end Go.Proofs.Ytfegglolblglpaa

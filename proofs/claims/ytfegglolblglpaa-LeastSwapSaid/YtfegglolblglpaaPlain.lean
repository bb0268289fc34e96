/-
  The plain laws of layers 12 and 13: healthy endpoints, whose turn a ticket is, how tickets are spread. Lists and numbers alone: no program is named here.
-/
namespace Go.Proofs.Ytfegglolblglpaa

/-- The places of the healthy ones among the first k. -/
def hlTo (hs : List Bool) (k : Nat) : List Int := ((List.range k).filter fun i => hs.getD i false).map Int.ofNat
/-- The places of the healthy ones. -/
def hl (hs : List Bool) : List Int := hlTo hs hs.length

theorem hlTo_zero (hs : List Bool) : hlTo hs 0 = [] := rfl
theorem hlTo_hit {hs : List Bool} {k : Nat} (h : hs[k]? = some true) : hlTo hs (k + 1) = hlTo hs k ++ [(k : Int)] := by
  simp [hlTo, List.range_succ, List.filter_append, List.getD, h]
theorem hlTo_miss {hs : List Bool} {k : Nat} (h : hs[k]? = some false) : hlTo hs (k + 1) = hlTo hs k := by
  simp [hlTo, List.range_succ, List.filter_append, List.getD, h]
theorem hlTo_le (hs : List Bool) (k : Nat) : (hlTo hs k).length ≤ k := by
  simp only [hlTo, List.length_map]
  exact Nat.le_trans (List.length_filter_le _ _) (by simp)
theorem hl_le (hs : List Bool) : (hl hs).length ≤ hs.length := hlTo_le hs _

theorem mem_hl {hs : List Bool} {x : Int} (h : x ∈ hl hs) : ∃ i : Nat, x = i ∧ i < hs.length ∧ hs[i]? = some true := by
  simp only [hl, hlTo, List.mem_map, List.mem_filter, List.mem_range] at h
  obtain ⟨i, ⟨hi, ht⟩, rfl⟩ := h
  refine ⟨i, rfl, hi, ?_⟩
  simp only [List.getD, List.getElem?_eq_getElem hi, Option.getD_some] at ht
  simp [List.getElem?_eq_getElem hi, ht]

theorem hl_mem {hs : List Bool} {i : Nat} (h : hs[i]? = some true) : (i : Int) ∈ hl hs := by
  have hi := (List.getElem?_eq_some_iff.1 h).1
  simp only [hl, hlTo, List.mem_map, List.mem_filter, List.mem_range]
  exact ⟨i, ⟨hi, by simp [List.getD, h]⟩, rfl⟩

theorem hl_nodup (hs : List Bool) : (hl hs).Pairwise (fun a b => a ≠ b) := by
  have h : (List.filter (fun i => hs.getD i false) (List.range hs.length)).Pairwise (fun a b => a ≠ b) := List.Pairwise.filter _ List.nodup_range
  simp only [hl, hlTo]
  exact List.pairwise_map.2 (h.imp fun hab e => hab (by simpa using congrArg Int.toNat e))

/-- What a ticket gives: the endpoint and the error's number. -/
def turnA (hs : List Bool) (t : Nat) : Int := (hl hs).getD (t % (hl hs).length) 0
def turnE (hs : List Bool) : Int := if hl hs = [] then 5 else 0

/-- One turn more for place k. -/
def bump (l : List Int) (k : Nat) : List Int := l.set k (l.getD k 0 + 1)
theorem bump_length (l : List Int) (k : Nat) : (bump l k).length = l.length := by simp [bump]

/-- The i-th ticket behind t. -/
def tk (t i : Nat) : Nat := (t + i) % 18446744073709551616
theorem tk_zero {t : Nat} (h : t < 18446744073709551616) : tk t 0 = t := by simp [tk, Nat.mod_eq_of_lt h]

/-- The turns behind i tickets, from ticket t on, over n places. -/
def spTo (h : List Int) (n t : Nat) : Nat → List Int
  | 0 => List.replicate n 0
  | i + 1 => bump (spTo h n t i) (h.getD (tk t i % h.length) 0).toNat

theorem spTo_length (h : List Int) (n t i : Nat) : (spTo h n t i).length = n := by
  induction i with
  | zero => simp [spTo]
  | succ i ih => simp [spTo, bump_length, ih]

theorem spTo_bound (h : List Int) (n t i : Nat) : ∀ (j : Nat) (y : Int), (spTo h n t i)[j]? = some y → 0 ≤ y ∧ y ≤ i := by
  induction i with
  | zero =>
    intro j y hy
    simp only [spTo, List.getElem?_replicate] at hy
    split at hy
    · cases hy; omega
    · cases hy
  | succ i ih =>
    intro j y hy
    simp only [spTo] at hy
    generalize (h.getD (tk t i % h.length) 0).toNat = k at hy
    simp only [bump, List.getElem?_set] at hy
    split at hy
    · rename_i e
      subst e
      split at hy
      · rename_i hlt
        obtain ⟨z, hz⟩ : ∃ z, (spTo h n t i)[k]? = some z := ⟨_, List.getElem?_eq_getElem hlt⟩
        have := ih _ z hz
        simp only [List.getD, hz, Option.getD_some, Option.some.injEq] at hy
        omega
      · cases hy
    · have := ih j y hy
      omega

/-- What Spread tells: the error's number, and the turns. -/
def spE (hs : List Bool) (n : Int) : Int := if n < 0 ∨ 1000 < n then 1 else if hl hs = [] then 5 else 0
def spL (hs : List Bool) (t : Nat) (n : Int) : List Int := if spE hs n = 0 then spTo (hl hs) hs.length t n.toNat else []

theorem hl_get {hs : List Bool} {i : Nat} (h : i < (hl hs).length) : ∃ j : Nat, (hl hs)[i]? = some (j : Int) ∧ j < hs.length ∧ hs[j]? = some true := by
  have hg := List.getElem?_eq_getElem h
  obtain ⟨j, hj, hlt, ht⟩ := mem_hl (List.getElem_mem h)
  exact ⟨j, by rw [hg, hj], hlt, ht⟩

end Go.Proofs.Ytfegglolblglpaa

/-
  The plain law of layer 9: the longest part of an order without a number, the least bound, fairness by windows; rounds. No program is named here.
-/
namespace Go.Proofs.Ytfegglolblglpab
set_option linter.unusedVariables false

/-- The longest part without t in the first k numbers, and the part without t at their end. -/
def gapTo (xs : List Int) (t : Int) : Nat → Nat × Nat
  | 0 => (0, 0)
  | k + 1 => (max (gapTo xs t k).1 (if xs[k]? = some t then 0 else (gapTo xs t k).2 + 1), if xs[k]? = some t then 0 else (gapTo xs t k).2 + 1)
def gapL (xs : List Int) (t : Int) : Nat := (gapTo xs t xs.length).1

/-- The part of length n from i on has no t. -/
def Free (xs : List Int) (t : Int) (i n : Nat) : Prop := ∀ j, i ≤ j → j < i + n → xs[j]? ≠ some t

theorem Free.less {xs : List Int} {t : Int} {i n m : Nat} (h : Free xs t i n) (hm : m ≤ n) : Free xs t i m := fun j h1 h2 => h j h1 (by omega)

theorem gapTo_spec (xs : List Int) (t : Int) : ∀ k, k ≤ xs.length →
    (gapTo xs t k).2 ≤ k ∧ (gapTo xs t k).1 ≤ k ∧ Free xs t (k - (gapTo xs t k).2) (gapTo xs t k).2 ∧ (∀ i n, i + n = k → Free xs t i n → n ≤ (gapTo xs t k).2) ∧
    (∃ i, i + (gapTo xs t k).1 ≤ k ∧ Free xs t i (gapTo xs t k).1) ∧ (∀ i n, i + n ≤ k → Free xs t i n → n ≤ (gapTo xs t k).1) := by
  intro k
  induction k with
  | zero =>
    intro _
    refine ⟨by simp [gapTo], by simp [gapTo], fun j h1 h2 => by simp [gapTo] at h2, fun i n h _ => by omega, ⟨0, by simp [gapTo], fun j h1 h2 => by simp [gapTo] at h2⟩, fun i n h _ => by omega⟩
  | succ k ih =>
    intro hk
    obtain ⟨a1, a2, a3, a4, ⟨i0, a5, a6⟩, a7⟩ := ih (by omega)
    by_cases hx : xs[k]? = some t
    · have e2 : (gapTo xs t (k + 1)).2 = 0 := by simp [gapTo, hx]
      have e1 : (gapTo xs t (k + 1)).1 = (gapTo xs t k).1 := by simp [gapTo, hx]
      rw [e1, e2]
      refine ⟨by omega, by omega, fun j h1 h2 => by omega, ?_, ⟨i0, by omega, a6⟩, ?_⟩
      · intro i n h hf
        by_cases hn : n = 0
        · omega
        · exact absurd hx (hf k (by omega) (by omega))
      · intro i n h hf
        by_cases hn : i + n = k + 1
        · by_cases hz : n = 0
          · omega
          · exact absurd hx (hf k (by omega) (by omega))
        · exact a7 i n (by omega) hf
    · have e2 : (gapTo xs t (k + 1)).2 = (gapTo xs t k).2 + 1 := by simp [gapTo, hx]
      have e1 : (gapTo xs t (k + 1)).1 = max (gapTo xs t k).1 ((gapTo xs t k).2 + 1) := by simp [gapTo, hx]
      have hsuf : Free xs t (k + 1 - ((gapTo xs t k).2 + 1)) ((gapTo xs t k).2 + 1) := by
        intro j h1 h2
        by_cases hj : j = k
        · subst hj; exact hx
        · exact a3 j (by omega) (by omega)
      rw [e1, e2]
      refine ⟨by omega, by omega, hsuf, ?_, ?_, ?_⟩
      · intro i n h hf
        by_cases hn : n = 0
        · omega
        · have := a4 i (n - 1) (by omega) (hf.less (by omega))
          omega
      · by_cases hm : (gapTo xs t k).2 + 1 ≤ (gapTo xs t k).1
        · rw [Nat.max_eq_left hm]
          exact ⟨i0, by omega, a6⟩
        · rw [Nat.max_eq_right (by omega)]
          exact ⟨_, by omega, hsuf⟩
      · intro i n h hf
        by_cases hn : i + n = k + 1
        · by_cases hz : n = 0
          · omega
          · have := a4 i (n - 1) (by omega) (hf.less (by omega))
            omega
        · have := a7 i n (by omega) hf
          omega

theorem gapL_le (xs : List Int) (t : Int) : gapL xs t ≤ xs.length := (gapTo_spec xs t xs.length (Nat.le_refl _)).2.1
theorem gapL_has (xs : List Int) (t : Int) : ∃ i, i + gapL xs t ≤ xs.length ∧ Free xs t i (gapL xs t) := (gapTo_spec xs t xs.length (Nat.le_refl _)).2.2.2.2.1
theorem gapL_max {xs : List Int} {t : Int} {i n : Nat} (h : i + n ≤ xs.length) (hf : Free xs t i n) : n ≤ gapL xs t := (gapTo_spec xs t xs.length (Nat.le_refl _)).2.2.2.2.2 i n h hf

/-- The greatest of the first m numbers' gaps. -/
def mx (xs : List Int) : Nat → Nat
  | 0 => 0
  | m + 1 => max (mx xs m) (gapL xs (m : Nat))
theorem mx_ge {xs : List Int} {m t : Nat} (h : t < m) : gapL xs t ≤ mx xs m := by
  induction m with
  | zero => omega
  | succ m ih =>
    by_cases e : t = m
    · subst e; simp only [mx]; omega
    · have := ih (by omega); simp only [mx]; omega
theorem mx_lt {xs : List Int} {m b : Nat} (hb : 0 < b) (h : ∀ t, t < m → gapL xs (t : Nat) < b) : mx xs m < b := by
  induction m with
  | zero => simpa [mx] using hb
  | succ m ih =>
    have h1 := ih (fun t ht => h t (by omega))
    have h2 := h m (by omega)
    simp only [mx]; omega
theorem mx_le (xs : List Int) (m : Nat) : mx xs m ≤ xs.length := by
  induction m with
  | zero => simp [mx]
  | succ m ih => have := gapL_le xs (m : Nat); simp only [mx]; omega
theorem mx_bound {xs : List Int} {m b : Nat} (h : mx xs m < b) : ∀ t : Nat, t < m → gapL xs t < b := fun t ht => Nat.lt_of_le_of_lt (mx_ge ht) h

/-- So many different numbers need as many places. -/
theorem many : ∀ (n : Nat) (xs : List Int), (∀ t : Nat, t < n → (t : Int) ∈ xs) → n ≤ xs.length := by
  intro n
  induction n with
  | zero => intro xs _; omega
  | succ n ih =>
    intro xs h
    have hn := h n (by omega)
    have := ih (xs.erase (n : Int)) (fun t ht => (List.mem_erase_of_ne (by simp; omega)).2 (h t (by omega)))
    rw [List.length_erase_of_mem hn] at this
    have := List.length_pos_of_mem hn
    omega

theorem gapL_absent {xs : List Int} {t : Int} (h : t ∉ xs) : gapL xs t = xs.length := by
  refine Nat.le_antisymm (gapL_le xs t) (gapL_max (i := 0) (by omega) ?_)
  intro j _ _ e
  exact h (List.mem_of_getElem? e)

/-- Beyond as many numbers as there are places, no number has a greater gap. -/
theorem mx_min (xs : List Int) (m : Nat) : mx xs (min m (xs.length + 1)) = mx xs m := by
  by_cases h : m ≤ xs.length + 1
  · rw [Nat.min_eq_left h]
  · rw [Nat.min_eq_right (by omega)]
    have : ∃ t : Nat, t < xs.length + 1 ∧ (t : Int) ∉ xs := by
      by_cases hh : ∃ t : Nat, t < xs.length + 1 ∧ (t : Int) ∉ xs
      · exact hh
      · have := many (xs.length + 1) xs (fun t ht => by
          by_cases e : (t : Int) ∈ xs
          · exact e
          · exact absurd ⟨t, ht, e⟩ hh)
        omega
    obtain ⟨t, ht, hn⟩ := this
    have h1 := mx_ge (xs := xs) ht
    have h2 := mx_ge (xs := xs) (show t < m by omega)
    rw [gapL_absent hn] at h1 h2
    have := mx_le xs m
    have := mx_le xs (xs.length + 1)
    omega

/-- The least bound. -/
def mostL (xs : List Int) (threads : Int) : Nat := if threads < 1 then 0 else mx xs threads.toNat + 1
/-- Is an order fair by a bound? -/
def fairL (xs : List Int) (threads bound : Int) : Bool := decide (1 ≤ threads ∧ 1 ≤ bound ∧ (mostL xs threads : Int) ≤ bound)

theorem mostL_nil (threads : Int) (h : ¬ threads < 1) : mostL [] threads = 1 := by
  have := mx_le [] threads.toNat
  simp at this
  simp [mostL, h, this]
theorem mostL_some (xs : List Int) (threads : Int) (h : ¬ threads < 1) : mostL xs threads = mx xs (min threads.toNat (xs.length + 1)) + 1 := by
  rw [mx_min]; simp [mostL, h]
theorem mostL_le (xs : List Int) (threads : Int) : mostL xs threads ≤ xs.length + 1 := by
  unfold mostL
  split
  · omega
  · have := mx_le xs threads.toNat; omega

/-- A window. -/
def winL (xs : List Int) (i b : Nat) : List Int := (xs.drop i).take b
theorem mem_win {xs : List Int} {t : Int} {i b : Nat} : t ∈ winL xs i b ↔ ∃ j, i ≤ j ∧ j < i + b ∧ xs[j]? = some t := by
  unfold winL
  rw [List.mem_iff_getElem?]
  constructor
  · rintro ⟨n, hn⟩
    rw [List.getElem?_take] at hn
    split at hn
    · rw [List.getElem?_drop] at hn
      exact ⟨i + n, by omega, by omega, hn⟩
    · cases hn
  · rintro ⟨j, h1, h2, h3⟩
    refine ⟨j - i, ?_⟩
    rw [List.getElem?_take, if_pos (by omega), List.getElem?_drop, show i + (j - i) = j by omega]
    exact h3
theorem free_win {xs : List Int} {t : Int} {i b : Nat} : Free xs t i b ↔ t ∉ winL xs i b := by
  rw [mem_win]
  constructor
  · rintro h ⟨j, h1, h2, h3⟩; exact h j h1 h2 h3
  · intro h j h1 h2 h3; exact h ⟨j, h1, h2, h3⟩

theorem fairL_yes {xs : List Int} {threads bound : Int} (h1 : 1 ≤ threads) (h2 : 1 ≤ bound) (h : ∀ i : Nat, i + bound.toNat ≤ xs.length → ∀ t : Nat, t < threads.toNat → (t : Int) ∈ winL xs i bound.toNat) : fairL xs threads bound = true := by
  have hm : mx xs threads.toNat < bound.toNat := by
    refine mx_lt (by omega) fun t ht => ?_
    refine Nat.lt_of_not_le fun hle => ?_
    obtain ⟨i, hi, hf⟩ := gapL_has xs (t : Int)
    exact (free_win.1 (hf.less hle)) (h i (by omega) t ht)
  have : mostL xs threads = mx xs threads.toNat + 1 := by simp [mostL]; omega
  simp only [fairL, decide_eq_true_eq]
  exact ⟨h1, h2, by omega⟩
theorem fairL_no {xs : List Int} {threads bound : Int} {i t : Nat} (hi : i + bound.toNat ≤ xs.length) (ht : t < threads.toNat) (hn : (t : Int) ∉ winL xs i bound.toNat) : fairL xs threads bound = false := by
  have hg : bound.toNat ≤ gapL xs (t : Int) := gapL_max hi (free_win.2 hn)
  have := mx_ge (xs := xs) ht
  have : mostL xs threads = mx xs threads.toNat + 1 := by simp [mostL]; omega
  simp only [fairL, decide_eq_false_iff_not]
  omega
theorem fairL_bad {xs : List Int} {threads bound : Int} (h : threads < 1 ∨ bound < 1) : fairL xs threads bound = false := by
  simp only [fairL, decide_eq_false_iff_not]; omega
theorem fairL_iff {xs : List Int} {threads bound : Int} (h1 : 1 ≤ threads) (h2 : 1 ≤ bound) : fairL xs threads bound = decide ((mostL xs threads : Int) ≤ bound) := by
  simp [fairL, h1, h2]

/-- The least bound by which an order is fair. -/
theorem mostL_least {xs : List Int} {threads : Int} {b : Nat} (h1 : 1 ≤ threads) (hb : 1 ≤ b) (hf : fairL xs threads (b : Nat) = true) (hl : ∀ c : Nat, 1 ≤ c → c < b → fairL xs threads (c : Nat) = false) : mostL xs threads = b := by
  rw [fairL_iff h1 (by omega)] at hf
  have hf := of_decide_eq_true hf
  by_cases e : mostL xs threads = b
  · exact e
  · have hpos : 1 ≤ mostL xs threads := by unfold mostL; rw [if_neg (by omega)]; omega
    have := hl (mostL xs threads) hpos (by omega)
    rw [fairL_iff h1 (by omega)] at this
    simp at this
theorem mostL_none {xs : List Int} {threads : Int} (h1 : 1 ≤ threads) (hl : ∀ c : Nat, 1 ≤ c → c < xs.length + 1 → fairL xs threads (c : Nat) = false) : mostL xs threads = xs.length + 1 := by
  have := mostL_le xs threads
  by_cases e : mostL xs threads = xs.length + 1
  · exact e
  · have hpos : 1 ≤ mostL xs threads := by unfold mostL; rw [if_neg (by omega)]; omega
    have := hl (mostL xs threads) hpos (by omega)
    rw [fairL_iff h1 (by omega)] at this
    simp at this

/-- A part of an order has no greater gaps. -/
theorem gapL_part {xs : List Int} {t : Int} {i b : Nat} : gapL (winL xs i b) t ≤ gapL xs t := by
  obtain ⟨j, hj, hf⟩ := gapL_has (winL xs i b) t
  have hl : (winL xs i b).length ≤ xs.length - i ∧ (winL xs i b).length ≤ b := by
    simp only [winL, List.length_take, List.length_drop]; omega
  by_cases hz : gapL (winL xs i b) t = 0
  · omega
  · refine gapL_max (i := i + j) (by omega) ?_
    intro k h1 h2 e
    refine hf (k - i) (by omega) (by omega) ?_
    rw [winL, List.getElem?_take, if_pos (by omega), List.getElem?_drop, show i + (k - i) = k by omega]
    exact e
theorem mx_part (xs : List Int) (i b m : Nat) : mx (winL xs i b) m ≤ mx xs m := by
  have : mx (winL xs i b) m < mx xs m + 1 := mx_lt (by omega) fun t ht => by
    have := mx_ge (xs := xs) ht
    have := gapL_part (xs := xs) (t := (t : Int)) (i := i) (b := b)
    omega
  omega
theorem mostL_part (xs : List Int) (i b : Nat) (threads : Int) : mostL (winL xs i b) threads ≤ mostL xs threads := by
  unfold mostL
  split
  · omega
  · have := mx_part xs i b threads.toNat; omega

/-- Rounds. -/
def roundL (m n : Nat) : List Int := (List.range n).map fun i => ((i % m : Nat) : Int)
theorem roundL_length (m n : Nat) : (roundL m n).length = n := by simp [roundL]
theorem roundL_get {m n i : Nat} (h : i < n) : (roundL m n)[i]? = some ((i % m : Nat) : Int) := by simp [roundL, h]
theorem roundL_succ (m n : Nat) : roundL m n ++ [((n % m : Nat) : Int)] = roundL m (n + 1) := by simp [roundL, List.range_succ]

theorem roundL_gap {m n t : Nat} (hm : 0 < m) (ht : t < m) : gapL (roundL m n) (t : Int) < m := by
  refine Nat.lt_of_not_le fun hle => ?_
  obtain ⟨i, hi, hf⟩ := gapL_has (roundL m n) (t : Int)
  rw [roundL_length] at hi
  -- the place from i on that is t
  have hj : ∃ j, i ≤ j ∧ j < i + m ∧ j % m = t := by
    by_cases hc : i % m ≤ t
    · refine ⟨i + (t - i % m), by omega, by omega, ?_⟩
      have := Nat.mod_add_div i m
      rw [show i + (t - i % m) = t + m * (i / m) by omega, Nat.add_mul_mod_self_left, Nat.mod_eq_of_lt ht]
    · have hlt := Nat.mod_lt i hm
      refine ⟨i + (t + m - i % m), by omega, by omega, ?_⟩
      have := Nat.mod_add_div i m
      rw [show i + (t + m - i % m) = t + m * (i / m + 1) by rw [Nat.mul_add]; omega, Nat.add_mul_mod_self_left, Nat.mod_eq_of_lt ht]
  obtain ⟨j, h1, h2, h3⟩ := hj
  exact hf j h1 (by omega) (by rw [roundL_get (by omega), h3])
theorem roundL_mx {m n : Nat} (hm : 0 < m) : mx (roundL m n) m < m := mx_lt hm fun t ht => roundL_gap hm ht
theorem roundL_fair {m n : Nat} (hm : 0 < m) : fairL (roundL m n) (m : Nat) (m : Nat) = true := by
  rw [fairL_iff (by omega) (by omega)]
  have := roundL_mx (m := m) (n := n) hm
  have e : mostL (roundL m n) (m : Int) = mx (roundL m n) m + 1 := by simp [mostL]; omega
  simp; omega
theorem roundL_most {m n : Nat} (hm : 0 < m) (hn : m ≤ n) : mostL (roundL m n) (m : Nat) = m := by
  have h1 := roundL_mx (m := m) (n := n) hm
  have e : mostL (roundL m n) (m : Int) = mx (roundL m n) m + 1 := by simp [mostL]; omega
  have h2 := mx_ge (xs := roundL m n) (show m - 1 < m by omega)
  have h3 : m - 1 ≤ gapL (roundL m n) ((m - 1 : Nat) : Int) := by
    refine gapL_max (i := 0) (by rw [roundL_length]; omega) ?_
    intro j _ hj
    rw [roundL_get (by omega), Nat.mod_eq_of_lt (by omega)]
    intro e
    simp at e
    omega
  omega

end Go.Proofs.Ytfegglolblglpab

/-
  How often each endpoint has its turn: the plain law of P12.3.
-/
import Derived.Test.YtfegglolblglpaaPlain
namespace Go.Proofs.Ytfegglolblglpaa

/-- How many of i numbers, from t on, leave the rest r by m. -/
def cn (m t r : Nat) : Nat → Nat
  | 0 => 0
  | i + 1 => cn m t r i + if (t + i) % m = r then 1 else 0

theorem cn_add (m t r i j : Nat) : cn m t r (i + j) = cn m t r i + cn m (t + i) r j := by
  induction j with
  | zero => simp [cn]
  | succ j ih => rw [← Nat.add_assoc]; simp only [cn, ih, Nat.add_assoc]

theorem cn_pos {m t r i : Nat} (h : 0 < cn m t r i) : ∃ j, j < i ∧ (t + j) % m = r := by
  induction i with
  | zero => simp [cn] at h
  | succ i ih =>
    by_cases hc : (t + i) % m = r
    · exact ⟨i, by omega, hc⟩
    · simp only [cn, hc, if_false, Nat.add_zero] at h
      obtain ⟨j, hj, e⟩ := ih h
      exact ⟨j, by omega, e⟩

theorem cn_of {m t r i j : Nat} (hj : j < i) (h : (t + j) % m = r) : 0 < cn m t r i := by
  induction i with
  | zero => omega
  | succ i ih =>
    by_cases e : j = i
    · subst e; simp [cn, h]
    · have := ih (by omega)
      simp only [cn]
      omega

theorem cn_le_one {m t r i : Nat} (hi : i ≤ m) : cn m t r i ≤ 1 := by
  induction i with
  | zero => simp [cn]
  | succ i ih =>
    by_cases hc : (t + i) % m = r
    · have h0 : cn m t r i = 0 := by
        by_cases h : cn m t r i = 0
        · exact h
        · obtain ⟨j, hj, e⟩ := cn_pos (Nat.pos_of_ne_zero h)
          have h1 : (t + i) % m = (t + j) % m := hc.trans e.symm
          have h2 := Nat.sub_mod_eq_zero_of_mod_eq h1
          have h3 : (i - j) % m = 0 := by rw [← h2]; congr 1; omega
          rw [Nat.mod_eq_of_lt (by omega)] at h3
          omega
      simp [cn, hc, h0]
    · have := ih (by omega)
      simpa [cn, hc] using this

theorem cn_full {m r : Nat} (t : Nat) (hr : r < m) : cn m t r m = 1 := by
  have h1 := cn_le_one (t := t) (r := r) (Nat.le_refl m)
  have ht : t % m < m := Nat.mod_lt _ (by omega)
  have h2 : 0 < cn m t r m := by
    refine cn_of (j := (r + (m - t % m)) % m) (Nat.mod_lt _ (by omega)) ?_
    rw [Nat.add_mod_mod]
    have e : t + (r + (m - t % m)) = r + m * (t / m + 1) := by
      have := Nat.div_add_mod t m
      rw [Nat.mul_add, Nat.mul_one]
      omega
    rw [e, Nat.add_mul_mod_self_left, Nat.mod_eq_of_lt hr]
  omega

theorem cn_mul {m r : Nat} (hr : r < m) (q : Nat) : ∀ t, cn m t r (m * q) = q := by
  induction q with
  | zero => intro t; simp [cn]
  | succ q ih => intro t; rw [Nat.mul_succ, cn_add, ih, cn_full _ hr]

theorem cn_bounds {m r : Nat} (t i : Nat) (hr : r < m) : i / m ≤ cn m t r i ∧ cn m t r i ≤ i / m + 1 := by
  have e : i = m * (i / m) + i % m := (Nat.div_add_mod i m).symm
  have hlt : i % m < m := Nat.mod_lt _ (by omega)
  have h1 := cn_add m t r (m * (i / m)) (i % m)
  rw [← e, cn_mul hr] at h1
  have h2 := cn_le_one (t := t + m * (i / m)) (r := r) (Nat.le_of_lt hlt)
  omega

theorem cn_near {m r r' : Nat} (t i : Nat) (hr : r < m) (hr' : r' < m) : cn m t r i ≤ cn m t r' i + 1 := by
  have := cn_bounds t i hr
  have := cn_bounds t i hr'
  omega

theorem tk_in {t i n : Nat} (h : t + n ≤ 18446744073709551616) (hi : i < n) : tk t i = t + i := by
  unfold tk
  exact Nat.mod_eq_of_lt (by omega)

theorem bump_get {l : List Int} {k j : Nat} {y : Int} (h : l[j]? = some y) (hk : k < l.length) : (bump l k)[j]? = some (if j = k then y + 1 else y) := by
  simp only [bump, List.getElem?_set]
  by_cases e : k = j
  · subst e
    obtain ⟨_, hg⟩ := List.getElem?_eq_some_iff.1 h
    simp [hk, List.getD, hg]
  · have e' : ¬ j = k := fun h => e h.symm
    simp [e, e', h]

/-- A place's turns: of a healthy place, the number of tickets with its rest. -/
theorem spTo_healthy {hs : List Bool} {t n r k : Nat} (hr : (hl hs)[r]? = some (k : Int)) (hk : k < hs.length) : ∀ i, i ≤ n → t + n ≤ 18446744073709551616 →
    (spTo (hl hs) hs.length t i)[k]? = some ((cn (hl hs).length t r i : Nat) : Int) := by
  have hrl := (List.getElem?_eq_some_iff.1 hr).1
  intro i
  induction i with
  | zero => intro _ _; simp [spTo, cn, hk]
  | succ i ih =>
    intro hi ht
    have hm := Nat.mod_lt (tk t i) (Nat.lt_of_le_of_lt (Nat.zero_le _) hrl)
    obtain ⟨j, hj, hjl, _⟩ := hl_get hm
    have hget : ((hl hs).getD (tk t i % (hl hs).length) 0).toNat = j := by simp [List.getD, hj]
    rw [spTo, hget, bump_get (ih (by omega) ht) (by rw [spTo_length]; exact hjl)]
    rw [tk_in ht (by omega)] at hj hm
    simp only [cn]
    by_cases e : (t + i) % (hl hs).length = r
    · have : k = j := by
        rw [e] at hj
        rw [hj] at hr
        have := Option.some.inj hr
        omega
      simp [e, this]
    · have : ¬ k = j := by
        intro hkj
        subst hkj
        have hp := List.pairwise_iff_getElem.1 (hl_nodup hs)
        obtain ⟨l1, g1⟩ := List.getElem?_eq_some_iff.1 hj
        obtain ⟨l2, g2⟩ := List.getElem?_eq_some_iff.1 hr
        rcases Nat.lt_or_gt_of_ne e with h | h
        · exact hp _ _ l1 l2 h (g1.trans g2.symm)
        · exact hp _ _ l2 l1 h (g2.trans g1.symm)
      simp [e, this]

theorem spTo_sick {hs : List Bool} {t k : Nat} (hne : hl hs ≠ []) (hk : hs[k]? = some false) : ∀ i, (spTo (hl hs) hs.length t i)[k]? = some 0 := by
  have hkl := (List.getElem?_eq_some_iff.1 hk).1
  intro i
  induction i with
  | zero => simp [spTo, hkl]
  | succ i ih =>
    obtain ⟨j, hj, hjl, hjt⟩ := hl_get (Nat.mod_lt (tk t i) (List.length_pos_iff.2 hne))
    have hget : ((hl hs).getD (tk t i % (hl hs).length) 0).toNat = j := by simp [List.getD, hj]
    rw [spTo, hget, bump_get ih (by rw [spTo_length]; exact hjl)]
    have : ¬ k = j := by
      intro e
      subst e
      rw [hjt] at hk
      cases hk
    simp [this]

theorem bump_sum (l : List Int) (k : Nat) (hk : k < l.length) : (bump l k).sum = l.sum + 1 := by
  induction l generalizing k with
  | nil => simp at hk
  | cons x l ih =>
    cases k with
    | zero => simp [bump]; omega
    | succ k =>
      have := ih k (by simpa using hk)
      simp only [bump, List.set_cons_succ, List.sum_cons, List.getD_cons_succ] at this ⊢
      omega

theorem spTo_sum {hs : List Bool} {t : Nat} (hne : hl hs ≠ []) (i : Nat) : (spTo (hl hs) hs.length t i).sum = i := by
  induction i with
  | zero => simp [spTo]
  | succ i ih =>
    obtain ⟨j, hj, hjl, hjt⟩ := hl_get (Nat.mod_lt (tk t i) (List.length_pos_iff.2 hne))
    have hget : ((hl hs).getD (tk t i % (hl hs).length) 0).toNat = j := by simp [List.getD, hj]
    rw [spTo, hget, bump_sum _ _ (by rw [spTo_length]; exact hjl), ih]
    omega

theorem sum_nonneg {l : List Int} (h : ∀ x ∈ l, 0 ≤ x) : 0 ≤ l.sum := by
  induction l with
  | nil => simp
  | cons x l ih =>
    have := h x (by simp)
    have := ih (fun y hy => h y (by simp [hy]))
    simp only [List.sum_cons]
    omega

theorem sum_take_le {l : List Int} (h : ∀ x ∈ l, 0 ≤ x) (i : Nat) : 0 ≤ (l.take i).sum ∧ (l.take i).sum ≤ l.sum := by
  have h1 := sum_nonneg (l := l.take i) (fun x hx => h x (List.mem_of_mem_take hx))
  have h2 := sum_nonneg (l := l.drop i) (fun x hx => h x (List.mem_of_mem_drop hx))
  have h3 : l.sum = (l.take i).sum + (l.drop i).sum := by rw [← List.sum_append, List.take_append_drop]
  omega

theorem sum_take_succ {l : List Int} {i : Nat} {x : Int} (h : l[i]? = some x) : (l.take (i + 1)).sum = (l.take i).sum + x := by
  rw [List.take_add_one, h]
  simp

theorem hl_idx {hs : List Bool} {k : Nat} (h : hs[k]? = some true) : ∃ r, (hl hs)[r]? = some (k : Int) ∧ r < (hl hs).length := by
  obtain ⟨r, hr, e⟩ := List.mem_iff_getElem.1 (hl_mem h)
  exact ⟨r, by rw [List.getElem?_eq_getElem hr, e], hr⟩

/-- What the statement TurnsSpread asks of each place, and of each pair. -/
theorem spread_pair {hs : List Bool} {t n i k : Nat} {x y : Int} (ht : t + n ≤ 18446744073709551616)
    (hi : hs[i]? = some true) (hk : hs[k]? = some true) (hx : (spTo (hl hs) hs.length t n)[i]? = some x) (hy : (spTo (hl hs) hs.length t n)[k]? = some y) : x ≤ y + 1 := by
  obtain ⟨r, hr, hrl⟩ := hl_idx hi
  obtain ⟨s, hs', hsl⟩ := hl_idx hk
  rw [spTo_healthy hr (List.getElem?_eq_some_iff.1 hi).1 n (Nat.le_refl _) ht] at hx
  rw [spTo_healthy hs' (List.getElem?_eq_some_iff.1 hk).1 n (Nat.le_refl _) ht] at hy
  have := cn_near t n hrl hsl
  have := Option.some.inj hx
  have := Option.some.inj hy
  omega

theorem spread_one {hs : List Bool} {t i : Nat} (ht : t + (hl hs).length ≤ 18446744073709551616) (hi : hs[i]? = some true) :
    (spTo (hl hs) hs.length t (hl hs).length)[i]? = some 1 := by
  obtain ⟨r, hr, hrl⟩ := hl_idx hi
  rw [spTo_healthy hr (List.getElem?_eq_some_iff.1 hi).1 _ (Nat.le_refl _) ht, cn_full _ hrl]
  rfl

end Go.Proofs.Ytfegglolblglpaa

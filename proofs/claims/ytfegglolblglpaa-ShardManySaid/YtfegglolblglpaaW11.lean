/-
  The walks of layer 11: shard.Is, shard.New, shard.Sum, the document's own answers, and the comparing of rows.
-/
import Derived.WalkKit
import Derived.WalkSpells
import Derived.WalkLawsBesides
import Derived.Lib.Hide
import Derived.Deep.QuietTactic
import Derived.BigQuiet
import Derived.Maps.AppendAt
import Derived.Test.YtfegglolblglpaaProg
import Derived.Test.YtfegglolblglpaaGrid
namespace Go.Proofs.Ytfegglolblglpaa
open Go.RowKit
set_option linter.unusedVariables false

theorem ret_bool {a b : Bool} (h : a = b) : Ending.returned (.bool a) = Ending.returned (.bool b) := by rw [h]

/-- All of the first k rows have six counts. -/
def six (xss : List (List Int)) (k : Nat) : Prop := ∀ r ∈ xss.take k, r.length = 6
theorem six_zero (xss : List (List Int)) : six xss 0 := by simp [six]
theorem six_succ {xss : List (List Int)} {k : Nat} {r : List Int} (h : six xss k) (hr : xss[k]? = some r) (h6 : r.length = 6) : six xss (k + 1) := by
  intro x hx
  rw [List.take_add_one, hr] at hx
  simp only [Option.toList_some, List.mem_append, List.mem_singleton] at hx
  rcases hx with hx | rfl
  · exact h x hx
  · exact h6
theorem isB_of_six {xss : List (List Int)} (h : six xss xss.length) : isB xss = (decide (1 ≤ xss.length) && decide (xss.length ≤ 8)) := by
  have : ∀ r ∈ xss, r.length = 6 := fun r hr => h r (by rw [List.take_length]; exact hr)
  simp only [isB]
  rw [Bool.eq_iff_iff]
  simp only [decide_eq_true_eq, Bool.and_eq_true]
  exact ⟨fun ⟨_, a, b⟩ => ⟨a, b⟩, fun ⟨a, b⟩ => ⟨this, a, b⟩⟩
theorem isB_not {xss : List (List Int)} {k : Nat} {r : List Int} (hr : xss[k]? = some r) (h : r.length ≠ 6) : isB xss = false := by
  simp only [isB, decide_eq_false_iff_not]
  rintro ⟨h1, _⟩
  exact h (h1 r (List.mem_of_getElem? hr))

set_option maxHeartbeats 400000 in
theorem Is_calls (a : Option Addr) (xss : List (List Int)) (cap : Nat) (hl : xss.length ≤ 9223372036854775807) (w : World) (hG : Grid w a xss) :
    Calls Try.prog 32 #[.slice a xss.length cap] w fun e w' => e = .returned (.bool (isB xss)) ∧ w' = w := by
  go_enter Try.func32, Try.ntmps32
  go_wp2_with fail
  go_loop [7] (fun i => ∃ k : Nat, k ≤ xss.length ∧ i = .int .i64 k ∧ six xss k) (fun i => xss.length - (intOf i).toNat)
  case atStart => exact ⟨0, Nat.zero_le _, rfl, six_zero _⟩
  case round =>
    obtain ⟨k, hk, rfl, h6⟩ := hrel
    by_cases hlt : k < xss.length
    · obtain ⟨r, hr⟩ := get_of_lt hlt
      obtain ⟨b, o, a', cap', rfl, hc, _⟩ := hG.at hr
      by_cases hr6 : r.length = 6
      · have hne : ((r.length : Int) != 6) = false := by simp [hr6]
        have H6 := Lib.hid (six_succ h6 hr hr6)
        clear hr6 hr h6
        go_wp2_with fail
        go_round
        case rel => exact ⟨k + 1, by omega, by go_num, H6.out⟩
        case measure => simp [intOf]; omega
      · have hne : ((r.length : Int) != 6) = true := by simp; omega
        have HB := Lib.hid (isB_not hr hr6)
        clear hr6 hr h6
        go_wp2_with fail
        go_ret
        exact ⟨ret_bool HB.out.symm, rfl⟩
    · obtain rfl : k = xss.length := by omega
      have HB := Lib.hid (isB_of_six h6)
      clear h6
      by_cases h1 : 1 ≤ xss.length
      · by_cases h8 : xss.length ≤ 8
        · have dle : decide ((xss.length : Int) ≤ 8) = true := by simp; omega
          have hf : isB xss = true := by rw [HB.out]; simp [h1, h8]
          have HF := Lib.hid hf
          clear hf
          go_wp2_with fail
          go_ret
          exact ⟨ret_bool HF.out.symm, rfl⟩
        · have dle : decide ((xss.length : Int) ≤ 8) = false := by simp; omega
          have hf : isB xss = false := by rw [HB.out]; simp; omega
          have HF := Lib.hid hf
          clear hf
          go_wp2_with fail
          go_ret
          exact ⟨ret_bool HF.out.symm, rfl⟩
      · have hf : isB xss = false := by rw [HB.out]; simp; omega
        have HF := Lib.hid hf
        clear hf
        go_wp2_with fail
        go_ret
        exact ⟨ret_bool HF.out.symm, rfl⟩

set_option maxHeartbeats 400000 in
theorem refIs_calls (a : Option Addr) (xss : List (List Int)) (cap : Nat) (hl : xss.length ≤ 9223372036854775807) (w : World) (hG : Grid w a xss) :
    Calls Try.prog 33 #[.slice a xss.length cap] w fun e w' => e = .returned (.bool (isB xss)) ∧ w' = w := by
  go_enter Try.func33, Try.ntmps33
  go_wp2_with fail
  go_loop [3] (fun i => ∃ k : Nat, k ≤ xss.length ∧ i = .int .i64 k ∧ six xss k) (fun i => xss.length - (intOf i).toNat)
  case atStart => exact ⟨0, Nat.zero_le _, rfl, six_zero _⟩
  case round =>
    obtain ⟨k, hk, rfl, h6⟩ := hrel
    by_cases hlt : k < xss.length
    · obtain ⟨r, hr⟩ := get_of_lt hlt
      obtain ⟨b, o, a', cap', rfl, hc, _⟩ := hG.at hr
      by_cases hr6 : r.length = 6
      · have hne : ((r.length : Int) != 6) = false := by simp [hr6]
        have H6 := Lib.hid (six_succ h6 hr hr6)
        clear hr6 hr h6
        go_wp2_with fail
        go_round
        case rel => exact ⟨k + 1, by omega, by go_num, H6.out⟩
        case measure => simp [intOf]; omega
      · have hne : ((r.length : Int) != 6) = true := by simp; omega
        have HB := Lib.hid (isB_not hr hr6)
        clear hr6 hr h6
        go_wp2_with fail
        go_ret
        exact ⟨ret_bool HB.out.symm, rfl⟩
    · obtain rfl : k = xss.length := by omega
      have HB := Lib.hid (isB_of_six h6)
      clear h6
      by_cases h1 : 1 ≤ xss.length
      · by_cases h8 : xss.length ≤ 8
        · have dle : decide ((xss.length : Int) ≤ 8) = true := by simp; omega
          have hf : isB xss = true := by rw [HB.out]; simp [h1, h8]
          have HF := Lib.hid hf
          clear hf
          go_wp2_with fail
          go_ret
          exact ⟨ret_bool HF.out.symm, rfl⟩
        · have dle : decide ((xss.length : Int) ≤ 8) = false := by simp; omega
          have hf : isB xss = false := by rw [HB.out]; simp; omega
          have HF := Lib.hid hf
          clear hf
          go_wp2_with fail
          go_ret
          exact ⟨ret_bool HF.out.symm, rfl⟩
      · have hf : isB xss = false := by rw [HB.out]; simp; omega
        have HF := Lib.hid hf
        clear hf
        go_wp2_with fail
        go_ret
        exact ⟨ret_bool HF.out.symm, rfl⟩

theorem bigB_of {xss : List (List Int)} (h : ∀ r ∈ xss.take xss.length, r.length ≤ 50) : bigB xss = decide (50 < xss.length) := by
  rw [List.take_length] at h
  simp only [bigB, decide_eq_decide]
  refine ⟨?_, .inl⟩
  rintro (h1 | ⟨r, hr, h1⟩)
  · exact h1
  · have := h r hr; omega

set_option maxHeartbeats 400000 in
theorem Big_calls (a : Option Addr) (xss : List (List Int)) (cap : Nat) (hl : xss.length ≤ 9223372036854775807) (w : World) (hG : Grid w a xss) :
    Calls Try.prog 23 #[.slice a xss.length cap] w fun e w' => e = .returned (.bool (bigB xss)) ∧ w' = w := by
  by_cases h50 : 50 < xss.length
  · have HB := Lib.hid (show bigB xss = true by simp [bigB, h50])
    rw [HB.out]
    go_enter Try.func23, Try.ntmps23
    go_wp2_with fail
    refine wp_loop_once ?_
    go_wp2_with fail
    go_ret
    exact ⟨rfl, rfl⟩
  · have h51 : xss.length ≤ 50 := by omega
    have dd : decide ((50 : Int) < (xss.length : Int)) = false := by simp; omega
    clear h50
    go_enter Try.func23, Try.ntmps23
    go_wp2_with fail
    go_loop [3] (fun i => ∃ k : Nat, k ≤ xss.length ∧ i = .int .i64 k ∧ ∀ r ∈ xss.take k, r.length ≤ 50) (fun i => xss.length - (intOf i).toNat)
    case atStart => exact ⟨0, Nat.zero_le _, rfl, by simp⟩
    case round =>
      obtain ⟨k, hk, rfl, h6⟩ := hrel
      by_cases hlt : k < xss.length
      · obtain ⟨r, hr⟩ := get_of_lt hlt
        obtain ⟨b, o, a', cap', rfl, hc, _⟩ := hG.at hr
        by_cases hr6 : r.length ≤ 50
        · have H6 := Lib.hid h6
          have HR := Lib.hid hr
          clear hr h6
          go_wp2_with fail
          go_round
          case rel =>
            refine ⟨k + 1, by omega, by go_num, fun x hx => ?_⟩
            rw [List.take_add_one, HR.out] at hx
            simp only [Option.toList_some, List.mem_append, List.mem_singleton] at hx
            rcases hx with hx | rfl
            · exact H6.out x hx
            · exact hr6
          case measure => simp [intOf]; omega
        · have hf : bigB xss = true := by
            simp only [bigB, decide_eq_true_eq]
            exact .inr ⟨r, List.mem_of_getElem? hr, by omega⟩
          have HF := Lib.hid hf
          clear hf hr h6
          go_wp2_with fail
          go_ret
          exact ⟨ret_bool HF.out.symm, rfl⟩
      · obtain rfl : k = xss.length := by omega
        have hf : bigB xss = false := by rw [bigB_of h6]; simp; omega
        have HF := Lib.hid hf
        clear hf h6
        go_wp2_with fail
        go_ret
        exact ⟨ret_bool HF.out.symm, rfl⟩

theorem Try.info25 : (Try.prog.info? 25).map (fun i => (i.zero, i.size, i.bytes)) = some (some (.int .u64 0), 1, 8) := by kernel_rfl
theorem Try.info60 : (Try.prog.info? 60).map (fun i => (i.zero, i.size, i.bytes)) = some (some (.slice none 0 0), 1, 24) := by kernel_rfl

/-- A list of slice values that read as the rows of a grid, lying in an owned row, make a grid. -/
def RowVals (vs : List Value) (xss : List (List Int)) (w : World) : Prop := vs.length = xss.length ∧ ∀ (i : Nat) (v : Value) (xs : List Int), vs[i]? = some v → xss[i]? = some xs → Cnt xs v w
theorem RowVals.below {vs : List Value} {xss : List (List Int)} {w w' : World} (h : RowVals vs xss w) (hb : Below w.heap.size w w') : RowVals vs xss w' :=
  ⟨h.1, fun i v xs h1 h2 => (h.2 i v xs h1 h2).below hb⟩
theorem RowVals.nil (w : World) : RowVals [] [] w := ⟨rfl, fun i v xs h => by simp at h⟩
theorem RowVals.snoc {vs : List Value} {xss : List (List Int)} {w : World} {v : Value} {xs : List Int} (h : RowVals vs xss w) (hv : Cnt xs v w) : RowVals (vs ++ [v]) (xss ++ [xs]) w := by
  refine ⟨by simp [h.1], fun i v' xs' h1 h2 => ?_⟩
  rcases Nat.lt_or_ge i vs.length with hi | hi
  · rw [List.getElem?_append_left hi] at h1
    rw [List.getElem?_append_left (by rw [← h.1]; exact hi)] at h2
    exact h.2 i v' xs' h1 h2
  · rw [List.getElem?_append_right hi] at h1
    rw [List.getElem?_append_right (by rw [← h.1]; exact hi)] at h2
    rw [h.1] at h1
    generalize i - xss.length = j at h1 h2
    cases j with
    | zero =>
      simp at h1 h2
      subst h1 h2
      exact hv
    | succ j => simp at h1
theorem Rws.of_owned {w : World} {B : Nat} {v : Value} {n : Nat} {vs : List Value} {xss : List (List Int)} (h : w.ownsRow B 60 1 v n vs) (hr : RowVals vs xss w) : Rws xss v w := by
  obtain ⟨a, cap, rfl, h2, h3, h4, _⟩ := Cells.of_ownsRow h
  rw [hr.1] at h2
  refine ⟨a, cap, by rw [hr.1], h2, h3, fun i xs hx => ?_⟩
  obtain ⟨u, hu⟩ := get_of_lt (xs := vs) (k := i) (by rw [hr.1]; exact (List.getElem?_eq_some_iff.1 hx).1)
  obtain ⟨b, o, ha, hc⟩ := h4 i u hu
  exact ⟨b, o, u, ha, hc, hr.2 i u xs hu hx⟩

theorem Cnt.new {w : World} (cs : List Int) (t : TypeId) (hm : cs.length ≤ maxLen) : Cnt cs (.slice (some ⟨w.heap.size, 0, none⟩) cs.length cs.length) (w.alloc (.cells (uv cs).toArray t)) := by
  refine ⟨_, _, rfl, Nat.le_refl _, hm, fun i x hx => ⟨w.heap.size, 0, rfl, ?_⟩⟩
  rw [World.cell?_alloc_new]
  simpa using hx

set_option maxHeartbeats 400000 in
theorem New_bad (n : Int) (hn : n < 1 ∨ 8 < n) (w : World) : Calls Try.prog 28 #[.int .i64 n] w (GivesE w (Rws []) 1) := by
  rcases hn with h | h
  · go_enter Try.func28, Try.ntmps28
    go_wp2
    go_ret2
    exact ⟨_, rfl, Rws.nil _, Below.refl _ w⟩
  · have h' : 1 ≤ n := by omega
    go_enter Try.func28, Try.ntmps28
    go_wp2
    go_ret2
    exact ⟨_, rfl, Rws.nil _, Below.refl _ w⟩

set_option maxHeartbeats 400000 in
theorem refNew_bad (n : Int) (hn : n < 1 ∨ 8 < n) (w : World) : Calls Try.prog 29 #[.int .i64 n] w (GivesE w (Rws []) 1) := by
  rcases hn with h | h
  · go_enter Try.func29, Try.ntmps29
    go_wp2
    go_ret2
    exact ⟨_, rfl, Rws.nil _, Below.refl _ w⟩
  · have h' : 1 ≤ n := by omega
    go_enter Try.func29, Try.ntmps29
    go_wp2
    go_ret2
    exact ⟨_, rfl, Rws.nil _, Below.refl _ w⟩

theorem made_zeros {w : World} {B : Nat} {v : Value} (h : w.ownsRow B 25 1 v 6 (madeCells (Value.int IntKind.u64 0).cells (6 * 1)).toList) : w.ownsRow B 25 1 v 6 (uv zeros) := by
  rw [show (Value.int IntKind.u64 0).cells = #[.int .u64 0] from rfl, toList_madeCells_one] at h
  exact h
theorem cnt_owned {w : World} {B : Nat} {v : Value} {n : Nat} {xs : List Int} (h : w.ownsRow B 25 1 v n (uv xs)) : Cnt xs v w := by
  obtain ⟨a, cap, rfl, h2, h3, h4, _⟩ := Cells.of_ownsRow h
  rw [uv_length] at h2 ⊢
  exact ⟨a, cap, rfl, h2, h3, h4⟩

/-- A store over a value that is none of these leaves them alone. -/
theorem Cells.setCell {w : World} {a : Option Addr} {vs : List Value} (h : Cells w a vs) {p : Addr} {old : Value} (hp : w.cell? p = some old) (hne : ∀ x ∈ vs, x ≠ old) (u : Value) : Cells (w.setCell p u) a vs := by
  intro i x hx
  obtain ⟨b, o, ha, hc⟩ := h i x hx
  refine ⟨b, o, ha, ?_⟩
  rw [World.cell?_setCell_other]
  · exact hc
  · rintro rfl
    rw [hc] at hp
    exact hne x (List.mem_of_getElem? hx) (Option.some.inj hp)
theorem Cnt.setCell {w : World} {xs : List Int} {v : Value} (h : Cnt xs v w) {p : Addr} {a : Option Addr} {n c : Nat} (hp : w.cell? p = some (.slice a n c)) (u : Value) : Cnt xs v (w.setCell p u) := by
  obtain ⟨a', cap, h1, h2, h3, h4⟩ := h
  refine ⟨a', cap, h1, h2, h3, h4.setCell hp (fun x hx => ?_) u⟩
  simp only [uv, List.mem_map] at hx
  obtain ⟨_, _, rfl⟩ := hx
  simp

set_option maxHeartbeats 1000000 in
theorem New_good (n : Nat) (h1 : 1 ≤ n) (h8 : n ≤ 8) (w : World) : Calls Try.prog 28 #[.int .i64 n] w (GivesE w (Rws (List.replicate n zeros)) 0) := by
  obtain ⟨i0, hi, hz0, hz1, hz2⟩ := info_parts Try.info60
  obtain ⟨j0, hj, hy0, hy1, hy2⟩ := info_parts Try.info25
  go_enter Try.func28, Try.ntmps28
  go_wp2_with (at_make; refine wpList_make_full _ rfl _ _ 37 rfl w.heap.size 60 i0 (.slice none 0 0) 1 Try.underlying37 hi hz0 hz1 _ _ _ _ n rfl rfl rfl rfl (by rw [hz2]; omega) (by unfold maxLen; omega) (Nat.le_refl _) ?_; intro w2 hown hgrow)
  have hB2 : Below w.heap.size w w2 := (Below.refl _ _).grown hgrow (Nat.le_refl _) (fun k e => by cases e)
  rw [show (Value.slice none 0 0).cells = #[.slice none 0 0] from rfl, toList_madeCells_one, Nat.mul_one] at hown
  clear hgrow
  go_loopw [16] (fun i wr => ∃ (k : Nat) (vs : List Value), k ≤ n ∧ i = .int .i64 k ∧ vs.length = n ∧ wr.ownsRow w.heap.size 60 1 (.slice (some ⟨w.heap.size, 0, none⟩) n n) n vs ∧ (∀ (j : Nat) (v : Value), j < k → vs[j]? = some v → Cnt zeros v wr) ∧ (∀ j, k ≤ j → j < n → vs[j]? = some (.slice none 0 0)) ∧ Below w.heap.size w wr)
    (fun i _ => n - (intOf i).toNat)
  case atStart => exact ⟨0, _, Nat.zero_le _, rfl, by simp, hown, fun j v h => by omega, fun j _ h => by simp [h], hB2⟩
  case round =>
    obtain ⟨k, vs, hk, rfl, hvl, hrow, hrows, hnil, hnx⟩ := hrel
    have HNI := Lib.hid hnil
    clear hnil
    have HR := Lib.hid hrow
    have HRS := Lib.hid hrows
    have HN := Lib.hid hnx
    have HV := Lib.hid hvl
    have hsz := hnx.size
    clear hrow hrows hnx hvl
    by_cases hlt : k < n
    · go_wp2_with (at_make; refine wpList_make_full _ rfl _ _ 60 rfl w.heap.size 25 j0 (.int .u64 0) 1 Try.underlying60 hj hy0 hy1 _ _ _ _ 6 rfl rfl rfl rfl (by rw [hy2]; omega) (by decide) hsz ?_; intro w3 hown3 hgrow3; have hr3 := HR.out.kept hgrow3 (.inr (by simp [Value.ownBlock])); have hu := HNI.out k (Nat.le_refl _) hlt; have hcu := hr3.cellAt k (by omega); rw [hu] at hcu; have hfu := hr3.frozenAt k; have HU := Lib.hid hcu; have H3 := Lib.hid hr3; have HO3 := Lib.hid (made_zeros hown3); have HG3 := Lib.hid hgrow3; clear hu hr3 hown3 hgrow3)
      go_roundw
      case rel =>
        have hB3 : Below wr.heap.size wr w3 := (Below.refl _ _).grown HG3.out (Nat.le_refl _) (fun k e => by cases e)
        have hst := H3.out.stored k (.slice (some ⟨wr.heap.size, 0, none⟩) 6 6)
        refine ⟨k + 1, vs.set k (.slice (some ⟨wr.heap.size, 0, none⟩) 6 6), by omega, by go_num, by rw [List.length_set]; exact HV.out, hst.1, ?_, ?_, (HN.out.trans (hB3.mono hsz)).setCell (Nat.le_refl _) _⟩
        · intro j v hj hv
          by_cases e : j = k
          · subst e
            rw [List.getElem?_set_self (by rw [HV.out]; exact hlt)] at hv
            cases hv
            exact (cnt_owned HO3.out).setCell HU.out _
          · rw [List.getElem?_set_ne (fun h => e h.symm)] at hv
            exact ((HRS.out j v (by omega) hv).below hB3).setCell HU.out _
        · intro j hj hjn
          rw [List.getElem?_set_ne (by omega)]
          exact HNI.out j (by omega) hjn
      case measure => simp [intOf]; omega
    · obtain rfl : k = n := by omega
      go_wp2_with fail
      go_ret2
      refine ⟨_, rfl, Rws.of_owned HR.out ⟨by simp [HV.out], fun i v xs h1 h2 => ?_⟩, HN.out⟩
      have hi := (List.getElem?_eq_some_iff.1 h1).1
      rw [HV.out] at hi
      rw [List.getElem?_replicate, if_pos hi] at h2
      cases h2
      exact HRS.out i v hi h1

/-- Rows that the call made itself. -/
def OwnRows (B : Nat) (vs : List Value) (xss : List (List Int)) (w : World) : Prop :=
  vs.length = xss.length ∧ ∀ (i : Nat) (v : Value) (xs : List Int), vs[i]? = some v → xss[i]? = some xs → w.ownsRow B 25 1 v xs.length (uv xs)
theorem OwnRows.nil (B : Nat) (w : World) : OwnRows B [] [] w := ⟨rfl, fun i v xs h => by simp at h⟩
theorem owns_apart {w : World} {B e e' : Nat} {v v' : Value} {n n' : Nat} {xs xs' : List Value} (h : w.ownsRow B e 1 v n xs) (h' : w.ownsRow B e' 1 v' n' xs') (hne : e ≠ e') : v.ownBlock = none ∨ v.ownBlock ≠ v'.ownBlock := by
  rcases h.2 with ⟨rfl, _⟩ | ⟨g, cap, cur, rfl, _, hg, _⟩
  · exact .inl rfl
  · right
    rcases h'.2 with ⟨rfl, _⟩ | ⟨g', cap', cur', rfl, _, hg', _⟩
    · simp [Value.ownBlock]
    · simp only [Value.ownBlock, ne_eq, Option.some.injEq]
      rintro rfl
      rw [hg] at hg'
      simp at hg'
      exact hne hg'.2
theorem OwnRows.kept {B : Nat} {vs : List Value} {xss : List (List Int)} {w w' : World} (h : OwnRows B vs xss w) {v0 : Value} {n : Nat} {vs0 : List Value} (h0 : w.ownsRow B 60 1 v0 n vs0) (hg : w.grownBy w' v0.ownBlock) : OwnRows B vs xss w' :=
  ⟨h.1, fun i v xs h1 h2 => (h.2 i v xs h1 h2).kept hg (owns_apart (h.2 i v xs h1 h2) h0 (by decide))⟩
theorem OwnRows.alloc {B : Nat} {vs : List Value} {xss : List (List Int)} {w : World} (h : OwnRows B vs xss w) (o : Obj) : OwnRows B vs xss (w.alloc o) :=
  ⟨h.1, fun i v xs h1 h2 => (h.2 i v xs h1 h2).alloc o⟩
theorem OwnRows.snoc {B : Nat} {vs : List Value} {xss : List (List Int)} {w : World} {v : Value} {xs : List Int} (h : OwnRows B vs xss w) (hv : w.ownsRow B 25 1 v xs.length (uv xs)) : OwnRows B (vs ++ [v]) (xss ++ [xs]) w := by
  refine ⟨by simp [h.1], fun i v' xs' h1 h2 => ?_⟩
  rcases Nat.lt_or_ge i vs.length with hi | hi
  · rw [List.getElem?_append_left hi] at h1
    rw [List.getElem?_append_left (by rw [← h.1]; exact hi)] at h2
    exact h.2 i v' xs' h1 h2
  · rw [List.getElem?_append_right hi] at h1
    rw [List.getElem?_append_right (by rw [← h.1]; exact hi)] at h2
    rw [h.1] at h1
    generalize i - xss.length = j at h1 h2
    cases j with
    | zero =>
      simp at h1 h2
      subst h1 h2
      exact hv
    | succ j => simp at h1
theorem OwnRows.vals {B : Nat} {vs : List Value} {xss : List (List Int)} {w : World} (h : OwnRows B vs xss w) : RowVals vs xss w := ⟨h.1, fun i v xs h1 h2 => cnt_owned (h.2 i v xs h1 h2)⟩

set_option maxHeartbeats 1000000 in
theorem refNew_good (n : Nat) (h1 : 1 ≤ n) (h8 : n ≤ 8) (w : World) : Calls Try.prog 29 #[.int .i64 n] w (GivesE w (Rws (List.replicate n zeros)) 0) := by
  obtain ⟨i0, hi, hz0, hz1, hz2⟩ := info_parts Try.info60
  go_enter Try.func29, Try.ntmps29
  go_wp2_with fail
  go_loopw [4, 5] (fun v i wr => ∃ (k : Nat) (vs : List Value), k ≤ n ∧ i = .int .i64 k ∧ wr.ownsRow w.heap.size 60 1 v k vs ∧ OwnRows w.heap.size vs (List.replicate k zeros) wr ∧ Below w.heap.size w wr)
    (fun _ i _ => n - (intOf i).toNat)
  case atStart => exact ⟨0, [], Nat.zero_le _, rfl, World.ownsRow_made w #[] 0 (Nat.le_refl _) (by simp [maxLen]) rfl, OwnRows.nil _ _, (Below.refl _ _).alloc (Nat.le_refl _) _⟩
  case round =>
    obtain ⟨k, vs, hk, rfl, hrow, hrows, hnx⟩ := hrel
    have hsz := hnx.size
    have HRS := Lib.hid hrows
    have HN := Lib.hid hnx
    clear hrows hnx
    by_cases hlt : k < n
    · go_wp2_with (at_builtin; refine wpList_append_own _ rfl _ _ 37 rfl w.heap.size 60 i0 (.slice none 0 0) 1 24 Try.underlying37 hi hz0 hz1 hz2 rfl (by decide) _ _ _ rfl ((hrow.alloc _).alloc _) ⟨wr.heap.size + 1, 0, none⟩ 1 1 [.slice (some ⟨wr.heap.size, 0, none⟩) 6 6] rfl rfl ?c1 (by simp [Value.oneCell']) (by unfold maxLen; omega) (by omega) (by simp; omega) ?_)
      case c1 =>
        have := cell_one_new (wr.alloc (Obj.cells #[.int .u64 0, .int .u64 0, .int .u64 0, .int .u64 0, .int .u64 0, .int .u64 0] 25)) (.slice (some ⟨wr.heap.size, 0, none⟩) 6 6) 60
        rw [World.size_alloc] at this
        exact this
      intro v' w1 hown' hgrow _
      have hz : (wr.alloc (Obj.cells #[.int .u64 0, .int .u64 0, .int .u64 0, .int .u64 0, .int .u64 0, .int .u64 0] 25)).ownsRow w.heap.size 25 1 (.slice (some ⟨wr.heap.size, 0, none⟩) 6 6) 6 (uv zeros) :=
        World.ownsRow_lit wr #[.int .u64 0, .int .u64 0, .int .u64 0, .int .u64 0, .int .u64 0, .int .u64 0] 6 hsz (by decide) rfl
      have hA := ((HRS.out.alloc (Obj.cells #[.int .u64 0, .int .u64 0, .int .u64 0, .int .u64 0, .int .u64 0, .int .u64 0] 25)).alloc (Obj.cells #[.slice (some ⟨wr.heap.size, 0, none⟩) 6 6] 60))
      have hB := (hA.snoc (hz.alloc (Obj.cells #[.slice (some ⟨wr.heap.size, 0, none⟩) 6 6] 60))).kept ((hrow.alloc _).alloc _) hgrow
      have HB := Lib.hid hB
      have HO := Lib.hid hown'
      have hbel : Below w.heap.size w w1 := ((HN.out.alloc hsz _).alloc (by simp; omega) _).grown hgrow (by simp; omega) (fun j e => (hrow.lt j e).1)
      clear hA hB hz hown' hgrow
      go_wp2_with fail
      go_roundw
      case rel => exact ⟨k + 1, _, by omega, by go_num, HO.out, by rw [List.replicate_succ']; exact HB.out, hbel⟩
      case measure => simp [intOf]; omega
    · obtain rfl : k = n := by omega
      go_wp2_with fail
      go_ret2
      exact ⟨_, rfl, Rws.of_owned hrow HRS.out.vals, HN.out⟩

theorem New_calls (n : Int) (w : World) : Calls Try.prog 28 #[.int .i64 n] w (GivesE w (Rws (newL n)) (newE n)) := by
  by_cases h : n < 1 ∨ 8 < n
  · have e : newE n = 1 := by simp [newE, h]
    have l : newL n = [] := by simp [newL, e]
    rw [e, l]
    exact New_bad n h w
  · have e : newE n = 0 := by simp [newE, h]
    obtain ⟨m, rfl⟩ := Int.eq_ofNat_of_zero_le (show 0 ≤ n by omega)
    have l : newL m = List.replicate m zeros := by simp [newL, e]
    rw [e, l]
    exact New_good m (by omega) (by omega) w
theorem refNew_calls (n : Int) (w : World) : Calls Try.prog 29 #[.int .i64 n] w (GivesE w (Rws (newL n)) (newE n)) := by
  by_cases h : n < 1 ∨ 8 < n
  · have e : newE n = 1 := by simp [newE, h]
    have l : newL n = [] := by simp [newL, e]
    rw [e, l]
    exact refNew_bad n h w
  · have e : newE n = 0 := by simp [newE, h]
    obtain ⟨m, rfl⟩ := Int.eq_ofNat_of_zero_le (show 0 ≤ n by omega)
    have l : newL m = List.replicate m zeros := by simp [newL, e]
    rw [e, l]
    exact refNew_good m (by omega) (by omega) w

end Go.Proofs.Ytfegglolblglpaa

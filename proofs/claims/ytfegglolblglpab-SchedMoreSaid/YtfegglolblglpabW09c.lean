/-
  The walks of layer 9: Round and the document's Round.
-/
import Derived.Test.YtfegglolblglpabW09b
namespace Go.Proofs.Ytfegglolblglpab
open Go.RowKit
set_option linter.unusedVariables false

theorem iv_snoc (xs : List Int) (x : Int) : iv xs ++ [.int .i64 x] = iv (xs ++ [x]) := by simp [iv]

theorem made_ints {w : World} {B n : Nat} {v : Value} (h : w.ownsRow B 3 1 v n (madeCells (Value.int IntKind.i64 0).cells (n * 1)).toList) : w.ownsRow B 3 1 v n (iv (List.replicate n 0)) := by
  rw [show (Value.int IntKind.i64 0).cells = #[.int .i64 0] from rfl, toList_madeCells_one, Nat.mul_one] at h
  simpa [iv] using h

/-- A row of m places of which the first k are filled. -/
def fill (f : Nat → Int) (m k : Nat) : List Int := (List.range m).map fun j => if j < k then f j else 0
theorem fill_zero (f : Nat → Int) (m : Nat) : fill f m 0 = List.replicate m 0 := by
  apply List.ext_getElem?
  intro i
  by_cases h : i < m <;> simp [fill, h]
theorem fill_full (f : Nat → Int) (m : Nat) : fill f m m = (List.range m).map f := by
  apply List.ext_getElem?
  intro i
  by_cases h : i < m <;> simp [fill, h]
theorem fill_next (f : Nat → Int) {m k : Nat} (h : k < m) : (iv (fill f m k)).set k (.int .i64 (f k)) = iv (fill f m (k + 1)) := by
  apply List.ext_getElem?
  intro i
  by_cases hi : i < m
  · by_cases e : k = i
    · subst e; simp [fill, iv, hi]
    · simp only [List.getElem?_set, e, if_false]
      have : (i < k) = (i < k + 1) := by simp; omega
      simp [fill, iv, hi, this]
  · simp [fill, iv, hi]
theorem fill_get (f : Nat → Int) {m k i : Nat} (h : i < m) : ∃ x, (iv (fill f m k))[i]? = some (.int .i64 x) := by
  exact ⟨if i < k then f i else 0, by simp [fill, iv, h]⟩

theorem Ring.other {bi bl : Nat} {a : Option Addr} {n cap k : Nat} {w : World} (h : Ring bi bl a n cap k w) {p : Addr} (h1 : p.block ≠ bi) (h2 : p.block ≠ bl) (v : Value) : Ring bi bl a n cap k (w.setCell p v) :=
  ⟨h.1.other h1 v, (Below.heap_setCell w p v bl (fun e => h2 e.symm)).trans h.2.1, h.2.2⟩
theorem Ring.lt {bi bl : Nat} {a : Option Addr} {n cap k : Nat} {w : World} (h : Ring bi bl a n cap k w) : bi < w.heap.size ∧ bl < w.heap.size := ⟨h.1.lt, (Array.getElem?_eq_some_iff.1 h.2.1).1⟩

/-- A row of the call's own is left alone by a store below it. -/
theorem row_other {w : World} {B n b i : Nat} {v u : Value} {vs : List Value} (h : w.ownsRow B 3 1 v n vs) (hb : b < B) : (w.setCell ⟨b, i, none⟩ u).ownsRow B 3 1 v n vs :=
  h.kept (row := some b) ⟨rfl, rfl, rfl, by simp, fun k _ hn => Below.heap_setCell w ⟨b, i, none⟩ u k (fun e => hn (by rw [e]))⟩ (.inr fun e => by have := h.lt b e; omega)

def rdOk (t n : Int) : Prop := 1 ≤ t ∧ t ≤ 8 ∧ 0 ≤ n ∧ n ≤ 4000
instance (t n : Int) : Decidable (rdOk t n) := by unfold rdOk; infer_instance
def rdL (t n : Int) : List Int := if rdOk t n then roundL t.toNat n.toNat else []
def rdE (t n : Int) : Int := if rdOk t n then 0 else 1

theorem Round_bad (t n : Int) (h : ¬ rdOk t n) (w : World) : Calls Try.prog 27 #[.int .i64 t, .int .i64 n] w (GivesE w (Ints []) 1) := by
  unfold rdOk at h
  by_cases h1 : t < 1
  · go_enter Try.func27, Try.ntmps27
    go_wp2_with fail
    go_ret2
    exact ⟨_, rfl, Ints.nil _, Below.refl _ _⟩
  · have g1 : decide (t < 1) = false := by simpa using h1
    by_cases h2 : t > 8
    · have g2 : decide (t > 8) = true := by simpa using h2
      clear h h1
      go_enter Try.func27, Try.ntmps27
      go_wp2_with fail
      go_ret2
      exact ⟨_, rfl, Ints.nil _, Below.refl _ _⟩
    · have g2 : decide (t > 8) = false := by simp; omega
      by_cases h3 : n < 0
      · have g3 : decide (n < 0) = true := by simpa using h3
        clear h h1 h2
        go_enter Try.func27, Try.ntmps27
        go_wp2_with fail
        go_ret2
        exact ⟨_, rfl, Ints.nil _, Below.refl _ _⟩
      · have g3 : decide (n < 0) = false := by simpa using h3
        have g4 : decide (n > 4000) = true := by simp; omega
        clear h h1 h2 h3
        go_enter Try.func27, Try.ntmps27
        go_wp2_with fail
        go_ret2
        exact ⟨_, rfl, Ints.nil _, Below.refl _ _⟩

set_option maxRecDepth 100000 in
set_option maxHeartbeats 2000000 in
theorem Round_good (m n : Nat) (hm0 : 1 ≤ m) (hm : m ≤ 8) (hn : n ≤ 4000) (w : World) : Calls Try.prog 27 #[.int .i64 m, .int .i64 n] w (GivesE w (Ints (roundL m n)) 0) := by
  obtain ⟨i0, hi, hz0, hz1, hz2⟩ := info_parts Try.info3
  have g1 : decide ((m : Int) < 1) = false := by simp; omega
  have g2 : decide ((m : Int) > 8) = false := by simp; omega
  have g3 : decide ((n : Int) < 0) = false := by simp
  have g4 : decide ((n : Int) > 4000) = false := by simp; omega
  go_enter Try.func27, Try.ntmps27
  go_wp2_with (at_make; refine wpList_make_full _ rfl _ _ 22 rfl w.heap.size 3 i0 (.int .i64 0) 1 Try.underlying22 hi hz0 hz1 _ _ _ _ m rfl rfl rfl rfl (by rw [hz2]; omega) (by unfold maxLen; omega) (by simp) ?_; intro w1 hown hgrow; have R1 := Lib.hid (show w1.ownsRow w.heap.size 3 1 (.slice (some ⟨w.heap.size, 0, none⟩) m m) m (iv (fill (fun j => (j : Int)) m 0)) by rw [fill_zero]; exact made_ints hown); have B1 := Lib.hid ((Below.refl _ w).grown hgrow (Nat.le_refl _) (fun k e => by cases e)); clear hown hgrow)
  go_loopw [29] (fun kv wr => ∃ k : Nat, k ≤ m ∧ kv = .int .i64 k ∧ wr.ownsRow w.heap.size 3 1 (.slice (some ⟨w.heap.size, 0, none⟩) m m) m (iv (fill (fun j => (j : Int)) m k)) ∧ Below w.heap.size w wr)
    (fun kv _ => m - (intOf kv).toNat)
  case atStart => exact ⟨0, Nat.zero_le _, rfl, R1.out, B1.out⟩
  case round =>
    obtain ⟨k, hk, rfl, hrow, hB⟩ := hrel
    have HR := Lib.hid hrow
    have HB := Lib.hid hB
    by_cases hlt : k < m
    · obtain ⟨x, hx⟩ := fill_get (fun j => (j : Int)) (k := k) hlt
      have hcj : wr.cell? ⟨w.heap.size, k, none⟩ = some (.int .i64 x) := by rw [hrow.cellAt k (by omega)]; exact hx
      have hfj := hrow.frozenAt k
      have hst := (hrow.stored k (.int .i64 k)).1
      rw [fill_next (fun j => (j : Int)) hlt] at hst
      have HST := Lib.hid hst
      clear hst hx hrow hB
      go_wp2_with fail
      go_roundw
      case rel => exact ⟨k + 1, by omega, by go_num, HST.out, HB.out.setCell (Nat.le_refl _) _⟩
      case measure => simp [intOf]; omega
    · obtain rfl : k = m := by omega
      rw [fill_full] at hrow
      have hC : Cells wr (some ⟨w.heap.size, 0, none⟩) (iv ((List.range k).map fun (j : Nat) => (j : Int))) := by
        obtain ⟨a', cap', e1, _, _, e4, _⟩ := Cells.of_ownsRow hrow
        simp at e1
        obtain ⟨rfl, _⟩ := e1
        exact e4
      have hsz : w.heap.size < wr.heap.size := by have := (hrow.lt w.heap.size rfl).2; exact this
      have HC := Lib.hid hC
      clear hrow hB hC R1 B1
      obtain ⟨wA, hwA⟩ : ∃ wA : World, wA = wr := ⟨_, rfl⟩
      subst hwA
      go_wp2_with fail
      refine (ring_calls _ _ _ wA).mono ?_
      rintro e w2 ⟨rfl, r2, b2, s2⟩
      have R2 := Lib.hid r2
      have B2 := Lib.hid b2
      clear r2 b2
      have hs2 : wA.heap.size + 2 ≤ w2.heap.size := by omega
      generalize hbi : wA.heap.size + 1 = bi at *
      have hib : w.heap.size ≠ bi := by omega
      have hbi' : wA.heap.size ≤ bi := by omega
      have hbi2 : bi < w2.heap.size := by omega
      have hbl2 : wA.heap.size < w2.heap.size := by omega
      clear s2 hbi hs2
      go_wp2_with (at_make; refine wpList_make_full _ rfl _ _ 22 rfl w2.heap.size 3 i0 (.int .i64 0) 1 Try.underlying22 hi hz0 hz1 _ _ _ _ n rfl rfl rfl rfl (by rw [hz2]; omega) (by unfold maxLen; omega) (by simp) ?_; intro w3 hown hgrow; have O3 := Lib.hid (show w3.ownsRow w2.heap.size 3 1 (.slice (some ⟨w2.heap.size, 0, none⟩) n n) n (iv (fill (fun j => ((j % k : Nat) : Int)) n 0)) by rw [fill_zero]; exact made_ints hown); have B3 := Lib.hid ((Below.refl w2.heap.size w2).grown hgrow (Nat.le_refl _) (fun k e => by cases e)); clear hown hgrow)
      go_loopw [43] (fun kv wr => ∃ i c : Nat, i ≤ n ∧ c ≤ k ∧ c % k = i % k ∧ kv = .int .i64 i ∧ wr.ownsRow w2.heap.size 3 1 (.slice (some ⟨w2.heap.size, 0, none⟩) n n) n (iv (fill (fun j => ((j % k : Nat) : Int)) n i)) ∧ Ring bi wA.heap.size (some ⟨w.heap.size, 0, none⟩) k k c wr ∧ Below wA.heap.size wA wr)
        (fun kv _ => n - (intOf kv).toNat)
      case atStart => exact ⟨0, 0, Nat.zero_le _, Nat.zero_le _, rfl, rfl, O3.out, R2.out.below B3.out hbi2 hbl2, B2.out.trans (B3.out.mono (by omega))⟩
      case round =>
        obtain ⟨i, c, hi', hck, hcm, rfl, hrow, hR, hB⟩ := hrel
        have RR := Lib.hid hR
        have BB := Lib.hid hB
        have CM := Lib.hid hcm
        have HO := Lib.hid hrow
        clear hR hB hcm hrow
        by_cases hlt : i < n
        · have hmod : c % k < k := Nat.mod_lt _ (by omega)
          have hc : wr.cell? ⟨w.heap.size, 0 + c % k, none⟩ = some (.int .i64 ((c % k : Nat) : Int)) := by
            obtain ⟨_, _, e, hc⟩ := (HC.out.below BB.out) (c % k) (.int .i64 ((c % k : Nat) : Int)) (iv_get (by simp [hmod]))
            cases e; exact hc
          have HCC := Lib.hid hc
          clear hc
          go_wp2_with fail
          refine (next_calls bi wA.heap.size w.heap.size 0 k k c _ wr RR.out (by omega) (by omega) hck hib HCC.out).mono ?_
          rintro e w4 ⟨rfl, hw4⟩
          have R4 := Lib.hid (show Ring bi wA.heap.size (some ⟨w.heap.size, 0, none⟩) k k (c % k + 1) w4 by rw [hw4]; exact RR.out.put)
          have B4 := Lib.hid (show Below wA.heap.size wA w4 by rw [hw4]; exact BB.out.setCell hbi' _)
          have hrow4 : w4.ownsRow w2.heap.size 3 1 (.slice (some ⟨w2.heap.size, 0, none⟩) n n) n (iv (fill (fun j => ((j % k : Nat) : Int)) n i)) := by rw [hw4]; exact row_other HO.out hbi2
          obtain ⟨x, hx⟩ := fill_get (fun j => ((j % k : Nat) : Int)) (k := i) hlt
          have hcj : w4.cell? ⟨w2.heap.size, i, none⟩ = some (.int .i64 x) := by rw [hrow4.cellAt i (by omega)]; exact hx
          have hfj := hrow4.frozenAt i
          have hst := (hrow4.stored i (.int .i64 ((c % k : Nat) : Int))).1
          rw [CM.out, fill_next (fun j => ((j % k : Nat) : Int)) hlt, ← CM.out] at hst
          have HST := Lib.hid hst
          clear hst hx hrow4 hw4 HCC HO RR BB
          go_wp2_with fail
          go_roundw
          case rel =>
            refine ⟨i + 1, c % k + 1, by omega, by omega, ?_, by go_num, HST.out, R4.out.other (by simp; omega) (by simp; omega) _, B4.out.setCell (by simp; omega) _⟩
            rw [CM.out]; exact Nat.mod_add_mod i k 1
          case measure => simp [intOf]; omega
        · obtain rfl : i = n := by omega
          go_wp2_with fail
          go_ret2
          have hrow := HO.out
          rw [fill_full] at hrow
          obtain ⟨a', cap', e1, e2, e3, e4, _⟩ := Cells.of_ownsRow hrow
          have hlen : (roundL k i).length = i := roundL_length k i
          refine ⟨.slice (some ⟨w2.heap.size, 0, none⟩) (roundL k i).length i, by rw [hlen]; rfl, ⟨some ⟨w2.heap.size, 0, none⟩, i, rfl, Nat.le_of_eq hlen, by unfold maxLen; omega, ?_⟩, HB.out.trans (BB.out.mono (by omega))⟩
          simp at e1
          obtain ⟨rfl, _⟩ := e1
          exact e4

theorem Round_calls (t n : Int) (w : World) : Calls Try.prog 27 #[.int .i64 t, .int .i64 n] w (GivesE w (Ints (rdL t n)) (rdE t n)) := by
  by_cases h : rdOk t n
  · simp only [rdL, rdE, if_pos h]
    unfold rdOk at h
    obtain ⟨m, rfl⟩ := Int.eq_ofNat_of_zero_le (show 0 ≤ t by omega)
    obtain ⟨k, rfl⟩ := Int.eq_ofNat_of_zero_le (show 0 ≤ n by omega)
    exact Round_good m k (by omega) (by omega) (by omega) w
  · simp only [rdL, rdE, if_neg h]
    exact Round_bad t n h w

theorem refRound_bad (t n : Int) (h : ¬ rdOk t n) (w : World) : Calls Try.prog 28 #[.int .i64 t, .int .i64 n] w (GivesE w (Ints []) 1) := by
  unfold rdOk at h
  by_cases h1 : t < 1
  · go_enter Try.func28, Try.ntmps28
    go_wp2_with fail
    go_ret2
    exact ⟨_, rfl, Ints.nil _, Below.refl _ _⟩
  · have g1 : decide (t < 1) = false := by simpa using h1
    by_cases h2 : t > 8
    · have g2 : decide (t > 8) = true := by simpa using h2
      clear h h1
      go_enter Try.func28, Try.ntmps28
      go_wp2_with fail
      go_ret2
      exact ⟨_, rfl, Ints.nil _, Below.refl _ _⟩
    · have g2 : decide (t > 8) = false := by simp; omega
      by_cases h3 : n < 0
      · have g3 : decide (n < 0) = true := by simpa using h3
        clear h h1 h2
        go_enter Try.func28, Try.ntmps28
        go_wp2_with fail
        go_ret2
        exact ⟨_, rfl, Ints.nil _, Below.refl _ _⟩
      · have g3 : decide (n < 0) = false := by simpa using h3
        have g4 : decide (n > 4000) = true := by simp; omega
        clear h h1 h2 h3
        go_enter Try.func28, Try.ntmps28
        go_wp2_with fail
        go_ret2
        exact ⟨_, rfl, Ints.nil _, Below.refl _ _⟩

set_option maxRecDepth 100000 in
set_option maxHeartbeats 2000000 in
theorem refRound_good (m n : Nat) (hm0 : 1 ≤ m) (hm : m ≤ 8) (hn : n ≤ 4000) (w : World) : Calls Try.prog 28 #[.int .i64 m, .int .i64 n] w (GivesE w (Ints (roundL m n)) 0) := by
  obtain ⟨i0, hi, hz0, hz1, hz2⟩ := info_parts Try.info3
  have g1 : decide ((m : Int) < 1) = false := by simp; omega
  have g2 : decide ((m : Int) > 8) = false := by simp; omega
  have g3 : decide ((n : Int) < 0) = false := by simp
  have g4 : decide ((n : Int) > 4000) = false := by simp; omega
  have hz : ((m : Int) == 0) = false := by simp; omega
  go_enter Try.func28, Try.ntmps28
  go_wp2_with fail
  go_loopw [6, 7] (fun ov kv wr => ∃ i : Nat, i ≤ n ∧ kv = .int .i64 i ∧ wr.ownsRow w.heap.size 3 1 ov i (iv (roundL m i)) ∧ Below w.heap.size w wr)
    (fun _ kv _ => n - (intOf kv).toNat)
  case atStart => exact ⟨0, Nat.zero_le _, rfl, World.ownsRow_made w #[] 0 (Nat.le_refl _) (by simp [maxLen]) rfl, (Below.refl _ _).alloc (Nat.le_refl _) _⟩
  case round =>
    obtain ⟨i, hi', rfl, hO, hB0⟩ := hrel
    have O0 := Lib.hid hO
    have B0 := Lib.hid hB0
    clear hO hB0
    by_cases hlt : i < n
    · have hsz := B0.out.size
      have HM := Lib.hid (show (i : Int) % (m : Int) = ((i % m : Nat) : Int) by omega)
      go_wp2_with (at_builtin; refine wpList_append_own _ rfl _ _ 22 rfl w.heap.size 3 i0 (.int .i64 0) 1 8 Try.underlying22 hi hz0 hz1 hz2 rfl (by decide) _ _ _ rfl (O0.out.alloc _) ⟨wr.heap.size, 0, none⟩ 1 1 [.int .i64 ((i : Int) % (m : Int))] rfl rfl (cell_one_new _ _ _) (by simp [Value.oneCell']) (by unfold maxLen; omega) (by omega) (by simp; omega) ?_; intro v' w3 hown' hgrow _; have B3 := Lib.hid ((B0.out.alloc B0.out.size (.cells #[.int .i64 ((i : Int) % (m : Int))] 3)).grown hgrow (by simp; omega) (fun j e => (O0.out.lt j e).1)); have O3 := Lib.hid hown'; clear hown' hgrow O0)
      go_roundw
      case rel =>
        have hown' := O3.out
        rw [HM.out, iv_snoc, roundL_succ] at hown'
        exact ⟨i + 1, by omega, by go_num, hown', B3.out⟩
      case measure => simp [intOf]; omega
    · obtain rfl : i = n := by omega
      go_wp2_with fail
      go_ret2
      obtain ⟨a', cap', e1, e2, e3, e4, _⟩ := Cells.of_ownsRow O0.out
      rw [iv_length, roundL_length] at e1
      rw [iv_length] at e2
      subst e1
      exact ⟨.slice a' (roundL m i).length cap', by rw [roundL_length]; rfl, ⟨a', cap', rfl, e2, e3, e4⟩, B0.out⟩

theorem refRound_calls (t n : Int) (w : World) : Calls Try.prog 28 #[.int .i64 t, .int .i64 n] w (GivesE w (Ints (rdL t n)) (rdE t n)) := by
  by_cases h : rdOk t n
  · simp only [rdL, rdE, if_pos h]
    unfold rdOk at h
    obtain ⟨m, rfl⟩ := Int.eq_ofNat_of_zero_le (show 0 ≤ t by omega)
    obtain ⟨k, rfl⟩ := Int.eq_ofNat_of_zero_le (show 0 ≤ n by omega)
    exact refRound_good m k (by omega) (by omega) (by omega) w
  · simp only [rdL, rdE, if_neg h]
    exact refRound_bad t n h w

end Go.Proofs.Ytfegglolblglpab

/-
  The walk of the statement CellOnce.
-/
import Derived.Test.YtfegglolblglpabT02
import Derived.Test.YtfegglolblglpabSame
import Derived.Laws.AppendOwnNone
namespace Go.Proofs.Ytfegglolblglpab
open Go.RowKit
set_option linter.unusedVariables false

theorem Cells.add {w : World} {a : Addr} {vs : List Value} (h : Cells w (some a) vs) : ∀ j u, vs[j]? = some u → w.cell? (a.add j) = some u := by
  intro j u hu
  obtain ⟨b, o, ha, hc⟩ := h j u hu
  simp only [Option.some.injEq] at ha
  subst ha
  simp only [Addr.add]
  split
  · rename_i e; subst e; simpa using hc
  · exact hc

/-- A row of one cell that was just made. -/
theorem ownsRow_one (w : World) (v : Int) {B : Nat} (hB : B ≤ w.heap.size) : (w.alloc (.cells #[.int .i64 v] 3)).ownsRow B 3 1 (.slice (some ⟨w.heap.size, 0, none⟩) 1 1) 1 [.int .i64 v] :=
  ⟨by simp, .inr ⟨w.heap.size, 1, _, rfl, hB, heap_alloc_new w _, by omega, by simp [maxLen], by simp, by simp⟩⟩

theorem one_iv (xs : List Int) : ∀ u ∈ iv xs, u.oneCell' = true := by
  intro u hu
  simp only [iv, List.mem_map] at hu
  obtain ⟨x, _, rfl⟩ := hu
  rfl

theorem one_cells (w : World) (v : Int) : Cells (w.alloc (.cells #[.int .i64 v] 3)) (some ⟨w.heap.size, 0, none⟩) (iv [v]) := by
  intro i x hx
  refine ⟨w.heap.size, 0, rfl, ?_⟩
  cases i with
  | zero =>
    obtain rfl : Value.int .i64 v = x := by simpa [iv] using hx
    exact (row_cell (heap_alloc_new w (.cells #[.int .i64 v] 3)) (i := 0) rfl).1
  | succ i => simp [iv] at hx

def nth (v : Int) (ls : List Int) (i : Nat) : Int := (v :: ls).getD i 0

set_option maxRecDepth 100000 in
set_option maxHeartbeats 4000000 in
theorem cellOnce_small (v : Int) (la : Option Addr) (ls : List Int) (lc : Nat) (hl : ls.length ≤ 1000) (hla : la = none → ls = [] ∧ lc = 0) (w : World) (hL : Cells w la (iv ls)) :
    Calls Try.prog 5 #[.int .i64 v, .slice la ls.length lc] w (fun e w' => e = .returned (.bool true) ∧ Below w.heap.size w w') := by
  obtain ⟨i0, hi, hz0, hz1, hz2⟩ := info_parts Try.info3
  have g1 : decide ((ls.length : Int) > 1000) = false := by simp; omega
  go_enter Try.func5, Try.ntmps5
  go_wp2_with fail
  refine (New_calls v w).mono ?_
  rintro e w1 ⟨rfl, h1, b1⟩
  have o1 : OutOk (w.heap.size + 1) v 0 w1.heap.size (.slice (some ⟨w1.heap.size, 0, none⟩) 0 0) [] (w1.alloc (.cells #[] 3)) := by
    have hc : w.heap.size + 1 < w1.heap.size := (Array.getElem?_eq_some_iff.1 h1.1).1
    refine ⟨w.heap.size, h1.below ((Below.refl _ _).alloc (Nat.le_refl _) _) hc h1.2.1.lt, World.ownsRow_made w1 #[] 0 (Nat.le_refl _) (by simp [maxLen]) rfl, ?_, hc, by simp⟩
    simp [Value.ownBlock]; omega
  have hs1 : w.heap.size ≤ w1.heap.size := b1.size
  have O1 := Lib.hid o1
  have B1 := Lib.hid ((b1.alloc b1.size (.cells #[] 3)))
  have hwc : w.heap.size ≤ w.heap.size + 1 := by omega
  clear o1 h1 b1
  generalize hcc : w.heap.size + 1 = c at *
  clear hcc
  go_wp2_with fail
  generalize hbb : w1.heap.size = B at *
  clear hbb
  go_loopw [6, 7] (fun ov kv wr => ∃ (i : Nat) (k : Int), i ≤ ls.length ∧ kv = .int .i64 i ∧ OutOk c (nth v ls i) k B ov ((v :: ls).take i) wr ∧ Below w.heap.size w wr)
    (fun _ kv _ => ls.length - (intOf kv).toNat)
  case atStart => exact ⟨0, 0, Nat.zero_le _, rfl, O1.out, B1.out⟩
  case round =>
    obtain ⟨i, k, hi', rfl, hO, hB⟩ := hrel
    have O0 := Lib.hid hO
    have B0 := Lib.hid hB
    clear hO hB
    by_cases q1 : i < ls.length
    · obtain ⟨x', hx⟩ := get_of_lt q1
      obtain ⟨p1, o1, rfl, LC⟩ := hL _ _ (iv_get hx)
      have hn : nth v ls (i + 1) = x' := by simp [nth, List.getD, hx]
      have ht : (v :: ls).take i ++ [nth v ls i] = (v :: ls).take (i + 1) := by
        rw [List.take_add_one]; simp [nth, List.getD]
        cases hh : (v :: ls)[i]? with
        | none => simp at hh; omega
        | some z => rfl
      have HN := Lib.hid hn
      have HT := Lib.hid ht
      have hlen : ((v :: ls).take i).length = i := by simp; omega
      have HL := Lib.hid hlen
      clear hx hn ht hlen
      have hL0 := cell_in' B0.out LC
      go_wp2_with fail
      clear hL0
      refine (Swap_out x' O0.out).mono ?_
      rintro e w2 ⟨rfl, oo, l⟩
      have B2 := Lib.hid (l.below B0.out B0.out.size hwc)
      rw [← HN.out] at oo
      have O2 := Lib.hid oo
      clear oo l B0 O0
      go_wp2_with (at_builtin; refine wpList_append_own_at _ rfl _ _ 22 rfl B 3 i0 (.int .i64 0) 1 8 Try.underlying22 hi hz0 hz1 hz2 rfl (by decide) _ _ _ rfl (O2.out.alloc _).row ⟨w2.heap.size, 0, none⟩ 1 1 [.int .i64 (nth v ls i)] rfl rfl (cell_one_new _ _ _) (by simp [Value.oneCell']) (by unfold maxLen; rw [HL.out]; omega) (by rw [HL.out]; omega) (by have := (O2.out.alloc (.cells #[.int .i64 (nth v ls i)] 3)); obtain ⟨_, _, _, _, _, hh⟩ := this; exact hh) ?_; intro v' w3 hown' hgrow _ hat)
      go_roundw
      case rel =>
        rw [iv_snoc, HT.out] at hown'
        refine ⟨i + 1, _, by omega, by go_num, (O2.out.alloc _).grown hown' (by rw [HL.out]; simp; omega) hgrow hat, ?_⟩
        exact (O2.out.alloc (.cells #[.int .i64 (nth v ls i)] 3)).left hgrow (B2.out.alloc B2.out.size _) hs1
      case measure => simp [intOf]; omega
    · obtain rfl : i = ls.length := by omega
      have ht : (v :: ls).take ls.length ++ [nth v ls ls.length] = v :: ls := by
        have : (v :: ls).take (ls.length + 1) = v :: ls := List.take_of_length_le (by simp)
        rw [List.take_add_one] at this
        cases hh : (v :: ls)[ls.length]? with
        | none => simp at hh
        | some z => rw [hh] at this; simp [nth, List.getD] at this ⊢
      have HT := Lib.hid ht
      have hlen : ((v :: ls).take ls.length).length = ls.length := by simp
      have HL := Lib.hid hlen
      clear ht hlen
      go_wp2_with fail
      refine (Load_out O0.out).mono ?_
      rintro e w2 ⟨rfl, oo, l⟩
      have B2 := Lib.hid (l.below B0.out B0.out.size hwc)
      have O2 := Lib.hid oo
      clear oo l B0 O0
      rcases la with _ | ad
      · obtain ⟨hz, rfl⟩ := hla rfl
        have HZ := Lib.hid hz
        clear hz hla
        go_wp2_with (first | (at_builtin; refine wpList_append_own_at (o := ⟨some 34, _, _, _, _, _⟩) _ rfl _ _ 22 rfl B 3 i0 (.int .i64 0) 1 8 Try.underlying22 hi hz0 hz1 hz2 rfl (by decide) _ _ _ rfl (O2.out.alloc _).row ⟨w2.heap.size, 0, none⟩ 1 1 [.int .i64 (nth v ls ls.length)] rfl rfl (cell_one_new _ _ _) (by simp [Value.oneCell']) (by unfold maxLen; rw [HL.out]; omega) (by rw [HL.out]; omega) (by have := (O2.out.alloc (.cells #[.int .i64 (nth v ls ls.length)] 3)); obtain ⟨_, _, _, _, _, hh⟩ := this; exact hh) ?_; intro v' w3 hown' hgrow _ hat; rw [iv_snoc, HT.out, HL.out] at hown'; have B3 := Lib.hid ((O2.out.alloc (.cells #[.int .i64 (nth v ls ls.length)] 3)).left hgrow (B2.out.alloc B2.out.size _) hs1); obtain ⟨a', cap', rfl, e2, e3, e4, _⟩ := Cells.of_ownsRow hown'; have E4 := Lib.hid e4; rw [iv_length]; clear hown' hgrow hat e4 B2 O2) | (at_builtin; refine wpList_append_own_none (o := ⟨some 39, _, _, _, _, _⟩) rfl _ _ 22 rfl w3.heap.size 3 i0 1 Try.underlying22 hi _ _ _ rfl (ownsRow_one w3 v (Nat.le_refl _)) (show Value.slice none ls.length 0 = .slice none 0 0 by rw [HZ.out]; rfl) ?_; have B5 := Lib.hid ((Below.refl w3.heap.size w3).alloc (Nat.le_refl _) (.cells #[.int .i64 v] 3))))
        refine (held_calls _).mono ?_
        rintro e w6 ⟨rfl, b6⟩
        have B6 := Lib.hid (b6.mono (w := w3.alloc (.cells #[.int .i64 v] 3)) (Nat.le_refl _))
        have C6 := Lib.hid ((one_cells w3 v).below b6)
        have E6 := Lib.hid (E4.out.below (B5.out.trans (b6.mono (by simp))))
        clear b6
        go_wp2_with fail
        refine (Same_calls (some ⟨w3.heap.size, 0, none⟩) a' [v] (v :: ls) 1 cap' (by simp) w6 C6.out E6.out).mono ?_
        rintro e w7 ⟨rfl, b7⟩
        have B7 := Lib.hid b7
        have HE : eqI [v] (v :: ls) = true := by simp [eqI, HZ.out]
        rw [HE]
        clear b7 HE
        go_wp2_with fail
        go_ret
        exact ⟨rfl, B3.out.trans ((B5.out.trans ((B6.out.mono (by simp)).trans (B7.out.mono (by have := B6.out.size; simp at this; omega)))).mono B3.out.size)⟩
      · clear hla
        go_wp2_with (first | (at_builtin; refine wpList_append_own_at (o := ⟨some 34, _, _, _, _, _⟩) _ rfl _ _ 22 rfl B 3 i0 (.int .i64 0) 1 8 Try.underlying22 hi hz0 hz1 hz2 rfl (by decide) _ _ _ rfl (O2.out.alloc _).row ⟨w2.heap.size, 0, none⟩ 1 1 [.int .i64 (nth v ls ls.length)] rfl rfl (cell_one_new _ _ _) (by simp [Value.oneCell']) (by unfold maxLen; rw [HL.out]; omega) (by rw [HL.out]; omega) (by have := (O2.out.alloc (.cells #[.int .i64 (nth v ls ls.length)] 3)); obtain ⟨_, _, _, _, _, hh⟩ := this; exact hh) ?_; intro v' w3 hown' hgrow _ hat; rw [iv_snoc, HT.out, HL.out] at hown'; have B3 := Lib.hid ((O2.out.alloc (.cells #[.int .i64 (nth v ls ls.length)] 3)).left hgrow (B2.out.alloc B2.out.size _) hs1); obtain ⟨a', cap', rfl, e2, e3, e4, _⟩ := Cells.of_ownsRow hown'; have E4 := Lib.hid e4; rw [iv_length]; clear hown' hgrow hat e4 B2 O2) | (at_builtin; refine wpList_append_own (o := ⟨some 39, _, _, _, _, _⟩) _ rfl _ _ 22 rfl w3.heap.size 3 i0 (.int .i64 0) 1 8 Try.underlying22 hi hz0 hz1 hz2 rfl (by decide) _ _ _ rfl (ownsRow_one w3 v (Nat.le_refl _)) ad ls.length lc (iv ls) rfl (by simp [iv]) (((hL.below B3.out).alloc _).add) (one_iv ls) (by unfold maxLen; omega) (by omega) (by simp) ?_; intro v5 w5 hown5 hgrow5 _; have B5 := Lib.hid ((((Below.refl w3.heap.size w3).alloc (Nat.le_refl _) (.cells #[.int .i64 v] 3)).grown hgrow5 (by simp) (fun j e => Nat.le_of_eq (Option.some.inj e)))); obtain ⟨a5, cap5, rfl, f2, f3, f4, _⟩ := Cells.of_ownsRow hown5; have F4 := Lib.hid (show Cells w5 a5 (iv (v :: ls)) from f4); rw [show ([Value.int .i64 v] ++ iv ls).length = (v :: ls).length by simp [iv]]; clear hown5 hgrow5 f4))
        refine (held_calls _).mono ?_
        rintro e w6 ⟨rfl, b6⟩
        have B6 := Lib.hid b6
        have C6 := Lib.hid (F4.out.below b6)
        have E6 := Lib.hid (E4.out.below (B5.out.trans (b6.mono B5.out.size)))
        clear b6
        go_wp2_with fail
        refine (Same_calls a5 a' (v :: ls) (v :: ls) cap5 cap' (by simp; omega) w6 C6.out E6.out).mono ?_
        rintro e w7 ⟨rfl, b7⟩
        have B7 := Lib.hid b7
        have HE : eqI (v :: ls) (v :: ls) = true := by simp [eqI]
        rw [HE]
        clear b7 HE
        go_wp2_with fail
        go_ret
        exact ⟨rfl, B3.out.trans ((B5.out.trans ((B6.out.mono B5.out.size).trans (B7.out.mono (Nat.le_trans B5.out.size B6.out.size)))).mono B3.out.size)⟩

theorem cellOnce_walk (v : Int) (la : Option Addr) (ls : List Int) (lc : Nat) (hll : ls.length ≤ 9223372036854775807) (hla : la = none → ls = [] ∧ lc = 0) (w : World) (hL : Cells w la (iv ls)) :
    Calls Try.prog 5 #[.int .i64 v, .slice la ls.length lc] w (fun e w' => e = .returned (.bool true) ∧ Below w.heap.size w w') := by
  by_cases hl : ls.length ≤ 1000
  · exact cellOnce_small v la ls lc hl hla w hL
  · have g1 : decide ((ls.length : Int) > 1000) = true := by simp; omega
    clear hla
    go_enter Try.func5, Try.ntmps5
    go_wp2_with fail
    go_ret
    exact ⟨rfl, Below.refl _ _⟩

end Go.Proofs.Ytfegglolblglpab

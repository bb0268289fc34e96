/-
  The walk of the document's own Add.
-/
import Derived.Test.YtfegglolblglpaaW11e
namespace Go.Proofs.Ytfegglolblglpaa
open Go.RowKit
set_option linter.unusedVariables false

theorem owns_below {w w' : World} {B e n : Nat} {v : Value} {xs : List Value} (h : w.ownsRow B e 1 v n xs) (hb : Below w.heap.size w w') : w'.ownsRow B e 1 v n xs := by
  refine ⟨h.1, ?_⟩
  rcases h.2 with h1 | ⟨g, cap, cur, hv, hB, hg, hn, hm, hs, ht⟩
  · exact .inl h1
  · exact .inr ⟨g, cap, cur, hv, hB, (hb.block g (Array.getElem?_eq_some_iff.1 hg).1).trans hg, hn, hm, hs, ht⟩
theorem owns_base {w : World} {B B' e n : Nat} {v : Value} {xs : List Value} (h : w.ownsRow B' e 1 v n xs) (hB : B ≤ B') : w.ownsRow B e 1 v n xs := by
  refine ⟨h.1, ?_⟩
  rcases h.2 with h1 | ⟨g, cap, cur, hv, hb, hg, hn, hm, hs, ht⟩
  · exact .inl h1
  · exact .inr ⟨g, cap, cur, hv, Nat.le_trans hB hb, hg, hn, hm, hs, ht⟩
theorem OwnRows.below {B : Nat} {vs : List Value} {xss : List (List Int)} {w w' : World} (h : OwnRows B vs xss w) (hb : Below w.heap.size w w') : OwnRows B vs xss w' :=
  ⟨h.1, fun i v xs h1 h2 => owns_below (h.2 i v xs h1 h2) hb⟩

theorem tgt_row {xss : List (List Int)} {t k i : Nat} {r xs : List Int} (hr : xss[t]? = some r) (hx : xss[i]? = some xs) (h6 : xs.length = 6) : ∃ rr, (xss.set t (addRow r k))[i]? = some rr ∧ rr.length = 6 ∧
    ∀ (j : Nat) (x : Int), xs[j]? = some x → rr[j]? = some (if i = t ∧ j = k then inc x else x) := by
  by_cases e : i = t
  · subst e
    rw [hr] at hx
    cases hx
    refine ⟨addRow r k, List.getElem?_set_self (List.getElem?_eq_some_iff.1 hr).1, by simp [addRow, h6], fun j x hj => ?_⟩
    by_cases e2 : j = k
    · subst e2
      rw [if_pos ⟨rfl, rfl⟩]
      simp only [addRow]
      rw [List.getElem?_set_self (List.getElem?_eq_some_iff.1 hj).1]
      simp [List.getD, hj]
    · rw [if_neg (fun h => e2 h.2)]
      simp only [addRow]
      rw [List.getElem?_set_ne (fun h => e2 h.symm)]
      exact hj
  · refine ⟨xs, by rw [List.getElem?_set_ne (fun h => e h.symm)]; exact hx, h6, fun j x hj => ?_⟩
    rw [if_neg (fun h => e h.1)]
    exact hj

set_option maxHeartbeats 1000000 in
theorem refAdd_bad (a : Option Addr) (xss : List (List Int)) (cap : Nat) (t k : Int) (hl : xss.length ≤ 9223372036854775807) (w : World) (hG : Grid w a xss)
    (h : ¬ (isB xss = true ∧ 0 ≤ t ∧ t < xss.length ∧ 0 ≤ k ∧ k < 6)) : Calls Try.prog 25 #[.slice a xss.length cap, .int .i64 t, .int .i64 k] w (GivesE w (Rws []) 1) := by
  have hend : GivesE w (Rws []) 1 (.returned (.tuple #[.slice none 0 0, .int .i64 1])) w := ⟨_, rfl, Rws.nil _, Below.refl _ w⟩
  have HE := Lib.hid hend
  by_cases hB : isB xss = true
  · have HB := Lib.hid hB
    by_cases h1 : 0 ≤ t
    · have d1 : decide (t < 0) = false := by simp; omega
      by_cases h2 : t < xss.length
      · have d2 : decide (t ≥ (xss.length : Int)) = false := by simp; omega
        by_cases h3 : 0 ≤ k
        · have d3 : decide (k < 0) = false := by simp; omega
          have d4 : decide (k > 5) = true := by
            simp only [decide_eq_true_eq]
            by_cases h4 : k < 6
            · exact absurd ⟨hB, h1, h2, h3, h4⟩ h
            · omega
          clear h h1 h2 h3 hB hend
          go_enter Try.func25, Try.ntmps25
          go_wp2_with (go_at_call 33; refine (refIs_calls _ _ _ hl _ hG).mono ?_; rintro e w' ⟨rfl, rfl⟩; rw [HB.out])
          go_ret2
          exact HE.out
        · have d3 : decide (k < 0) = true := by simp; omega
          clear h h1 h2 h3 hB hend
          go_enter Try.func25, Try.ntmps25
          go_wp2_with (go_at_call 33; refine (refIs_calls _ _ _ hl _ hG).mono ?_; rintro e w' ⟨rfl, rfl⟩; rw [HB.out])
          go_ret2
          exact HE.out
      · have d2 : decide (t ≥ (xss.length : Int)) = true := by simp; omega
        clear h h1 h2 hB hend
        go_enter Try.func25, Try.ntmps25
        go_wp2_with (go_at_call 33; refine (refIs_calls _ _ _ hl _ hG).mono ?_; rintro e w' ⟨rfl, rfl⟩; rw [HB.out])
        go_ret2
        exact HE.out
    · have d1 : decide (t < 0) = true := by simp; omega
      clear h h1 hB hend
      go_enter Try.func25, Try.ntmps25
      go_wp2_with (go_at_call 33; refine (refIs_calls _ _ _ hl _ hG).mono ?_; rintro e w' ⟨rfl, rfl⟩; rw [HB.out])
      go_ret2
      exact HE.out
  · have HB := Lib.hid (show isB xss = false by simpa using hB)
    clear h hB hend
    go_enter Try.func25, Try.ntmps25
    go_wp2_with (go_at_call 33; refine (refIs_calls _ _ _ hl _ hG).mono ?_; rintro e w' ⟨rfl, rfl⟩; rw [HB.out])
    go_ret2
    exact HE.out

set_option maxRecDepth 100000 in
set_option maxHeartbeats 4000000 in
theorem refAdd_good (a : Option Addr) (xss : List (List Int)) (cap : Nat) (t kk : Nat) (hl : xss.length ≤ 9223372036854775807) (w : World) (hG : Grid w a xss)
    (hB : isB xss = true) (r : List Int) (hr : xss[t]? = some r) (hk : kk < 6) : Calls Try.prog 25 #[.slice a xss.length cap, .int .i64 t, .int .i64 kk] w (GivesE w (Rws (xss.set t (addRow r kk))) 0) := by
  obtain ⟨i0, hi, hz0, hz1, hz2⟩ := info_parts Try.info60
  obtain ⟨j0, hj, hy0, hy1, hy2⟩ := info_parts Try.info25
  have ht : t < xss.length := (List.getElem?_eq_some_iff.1 hr).1
  have h8 : xss.length ≤ 8 := (of_decide_eq_true hB).2.2
  have h6 := (of_decide_eq_true hB).1
  have htgt := fun i xs (h : xss[i]? = some xs) => tgt_row (k := kk) hr h (h6 xs (List.mem_of_getElem? h))
  have d1 : decide ((t : Int) < 0) = false := by simp
  have d2 : decide (xss.length ≤ t) = false := by simp; omega
  have d3 : decide ((kk : Int) < 0) = false := by simp
  have d4 : decide ((kk : Int) > 5) = false := by simp; omega
  have HB := Lib.hid hB
  have HT := Lib.hid htgt
  have H6 := Lib.hid h6
  clear hB hr h6 htgt
  go_enter Try.func25, Try.ntmps25
  go_wp2_with (go_at_call 33; refine (refIs_calls _ _ _ hl _ hG).mono ?_; rintro e w' ⟨rfl, hw⟩; (obtain rfl := hw.symm); rw [HB.out])
  go_loopw [8, 9] (fun v i wr => ∃ (n : Nat) (vs : List Value), n ≤ xss.length ∧ i = .int .i64 n ∧ wr.ownsRow w.heap.size 60 1 v n vs ∧ OwnRows w.heap.size vs ((xss.set t (addRow r kk)).take n) wr ∧ Below w.heap.size w wr)
    (fun _ i _ => xss.length - (intOf i).toNat)
  case atStart => exact ⟨0, [], Nat.zero_le _, rfl, World.ownsRow_made w #[] 0 (Nat.le_refl _) (by simp [maxLen]) rfl, by simpa using OwnRows.nil _ _, (Below.refl _ _).alloc (Nat.le_refl _) _⟩
  case round =>
    obtain ⟨n, vs, hn, rfl, hrow, hrows, hnx⟩ := hrel
    have hsz := hnx.size
    have HRW := Lib.hid hrow
    have HRS := Lib.hid hrows
    have HN := Lib.hid hnx
    clear hrow hrows hnx
    by_cases hlt : n < xss.length
    · obtain ⟨xs, hxs⟩ := get_of_lt hlt
      obtain ⟨rr, hrr, hr6, hrx⟩ := HT.out n xs hxs
      have hxs6 := H6.out xs (List.mem_of_getElem? hxs)
      obtain ⟨b1, o1, a1, c1, rfl, hc0, hu1⟩ := hG.at hxs
      rw [hxs6] at hc0
      have HRR := Lib.hid hrr
      have HRX := Lib.hid hrx
      have HXL := Lib.hid hxs6
      have HC := Lib.hid hc0
      have HU := Lib.hid hu1
      clear hxs hrr hrx hxs6 hc0 hu1
      go_wp2_with fail
      obtain ⟨wo, hwo⟩ : ∃ wo : World, wo = wr := ⟨_, rfl⟩
      subst hwo
      go_loopw [10, 11] (fun v2 kv wk => ∃ (k : Nat), k ≤ 6 ∧ kv = .int .i64 k ∧ wk.ownsRow wo.heap.size 25 1 v2 k (uv (rr.take k)) ∧ Below wo.heap.size wo wk)
        (fun _ kv _ => 6 - (intOf kv).toNat)
      case atStart => exact ⟨0, Nat.zero_le _, rfl, World.ownsRow_made wo #[] 0 (Nat.le_refl _) (by simp [maxLen]) (by simp), (Below.refl _ _).alloc (Nat.le_refl _) _⟩
      case round =>
        obtain ⟨k, hk, rfl, hrow, hnk⟩ := hrel
        have hszk := hnk.size
        have HRK := Lib.hid hrow
        have HNK := Lib.hid hnk
        clear hrow hnk
        by_cases hlk : k < 6
        · obtain ⟨x, hx⟩ := get_of_lt (xs := xs) (k := k) (by rw [HXL.out]; exact hlk)
          obtain ⟨p1, q1, rfl, e1'⟩ := HU.out _ _ (uv_get hx)
          have hy := HRX.out k x hx
          have e1 : wr.cell? ⟨p1, q1 + k, none⟩ = some (.int .u64 x) := by
            rw [HNK.out.cell (Nat.lt_of_lt_of_le (World.block_lt_of_cell? _ _ e1') HN.out.size), HN.out.cell (World.block_lt_of_cell? _ _ e1')]
            exact e1'
          have e0 : wr.cell? ⟨b1, o1 + n, none⟩ = some (.slice (some ⟨p1, q1, none⟩) 6 c1) := by
            rw [HNK.out.cell (Nat.lt_of_lt_of_le (World.block_lt_of_cell? _ _ HC.out) HN.out.size), HN.out.cell (World.block_lt_of_cell? _ _ HC.out)]
            exact HC.out
          have hk1 : (k : Int) < 6 := by omega
          clear e1' hx
          by_cases en : n = t
          · by_cases ek : k = kk
            · have b1 : ((n : Int) == (t : Int)) = true := by simp [en]
              have b2 : ((k : Int) == (kk : Int)) = true := by simp [ek]
              rw [if_pos ⟨en, ek⟩] at hy
              have HY : Hid (rr[k]? = some (IntKind.u64.wrap (x + 1))) := Lib.hid hy
              clear hy en ek
              go_wp2_with (at_builtin; refine wpList_append_own _ rfl _ _ 60 rfl wo.heap.size 25 j0 (.int .u64 0) 1 8 Try.underlying60 hj hy0 hy1 hy2 rfl (by decide) _ _ _ rfl (HRK.out.alloc _) ⟨wr.heap.size, 0, none⟩ 1 1 [.int .u64 (IntKind.u64.wrap (x + 1))] rfl rfl (cell_one_new wr (.int .u64 (IntKind.u64.wrap (x + 1))) 25) (by simp [Value.oneCell']) (by unfold maxLen; omega) (by omega) (by simp; omega) ?_)
              intro v' w1 hown' hgrow _
              have hbel : Below wo.heap.size wo w1 := (HNK.out.alloc hszk _).grown hgrow (by simp; omega) (fun j e => (HRK.out.lt j e).1)
              have hO : w1.ownsRow wo.heap.size 25 1 v' (k + 1) (uv (rr.take (k + 1))) := by
                rw [List.take_add_one, HY.out]
                simpa [uv] using hown'
              have HO := Lib.hid hO
              have HBL := Lib.hid hbel
              clear hO hbel hown' hgrow
              go_wp2_with fail
              go_roundw
              case rel => exact ⟨k + 1, by omega, by go_num, HO.out, HBL.out⟩
              case measure => simp [intOf]; omega
            · have b1 : ((n : Int) == (t : Int)) = true := by simp [en]
              have b2 : ((k : Int) == (kk : Int)) = false := by simp; omega
              rw [if_neg (fun h => ek h.2)] at hy
              have HY : Hid (rr[k]? = some (x)) := Lib.hid hy
              clear hy en ek
              go_wp2_with (at_builtin; refine wpList_append_own _ rfl _ _ 60 rfl wo.heap.size 25 j0 (.int .u64 0) 1 8 Try.underlying60 hj hy0 hy1 hy2 rfl (by decide) _ _ _ rfl (HRK.out.alloc _) ⟨wr.heap.size, 0, none⟩ 1 1 [.int .u64 (x)] rfl rfl (cell_one_new wr (.int .u64 (x)) 25) (by simp [Value.oneCell']) (by unfold maxLen; omega) (by omega) (by simp; omega) ?_)
              intro v' w1 hown' hgrow _
              have hbel : Below wo.heap.size wo w1 := (HNK.out.alloc hszk _).grown hgrow (by simp; omega) (fun j e => (HRK.out.lt j e).1)
              have hO : w1.ownsRow wo.heap.size 25 1 v' (k + 1) (uv (rr.take (k + 1))) := by
                rw [List.take_add_one, HY.out]
                simpa [uv] using hown'
              have HO := Lib.hid hO
              have HBL := Lib.hid hbel
              clear hO hbel hown' hgrow
              go_wp2_with fail
              go_roundw
              case rel => exact ⟨k + 1, by omega, by go_num, HO.out, HBL.out⟩
              case measure => simp [intOf]; omega
          · have b1 : ((n : Int) == (t : Int)) = false := by simp; omega
            rw [if_neg (fun h => en h.1)] at hy
            have HY : Hid (rr[k]? = some (x)) := Lib.hid hy
            clear hy en
            go_wp2_with (at_builtin; refine wpList_append_own _ rfl _ _ 60 rfl wo.heap.size 25 j0 (.int .u64 0) 1 8 Try.underlying60 hj hy0 hy1 hy2 rfl (by decide) _ _ _ rfl (HRK.out.alloc _) ⟨wr.heap.size, 0, none⟩ 1 1 [.int .u64 (x)] rfl rfl (cell_one_new wr (.int .u64 (x)) 25) (by simp [Value.oneCell']) (by unfold maxLen; omega) (by omega) (by simp; omega) ?_)
            intro v' w1 hown' hgrow _
            have hbel : Below wo.heap.size wo w1 := (HNK.out.alloc hszk _).grown hgrow (by simp; omega) (fun j e => (HRK.out.lt j e).1)
            have hO : w1.ownsRow wo.heap.size 25 1 v' (k + 1) (uv (rr.take (k + 1))) := by
              rw [List.take_add_one, HY.out]
              simpa [uv] using hown'
            have HO := Lib.hid hO
            have HBL := Lib.hid hbel
            clear hO hbel hown' hgrow
            go_wp2_with fail
            go_roundw
            case rel => exact ⟨k + 1, by omega, by go_num, HO.out, HBL.out⟩
            case measure => simp [intOf]; omega
        · obtain rfl : k = 6 := by omega
          obtain ⟨a6, c6, hv6, _⟩ := Cells.of_ownsRow HRK.out
          have hl6 : rr.take 6 = rr := List.take_of_length_le (by omega)
          rw [hl6, uv_length, hr6] at hv6
          subst hv6
          have hown := owns_below HRW.out HNK.out
          have HOW := Lib.hid hown
          clear hown
          go_wp2_with (at_builtin; refine wpList_append_own _ rfl _ _ 37 rfl w.heap.size 60 i0 (.slice none 0 0) 1 24 Try.underlying37 hi hz0 hz1 hz2 rfl (by decide) _ _ _ rfl (HOW.out.alloc _) ⟨wr.heap.size, 0, none⟩ 1 1 [.slice a6 6 c6] rfl rfl (cell_one_new wr (.slice a6 6 c6) 60) (by simp [Value.oneCell']) (by unfold maxLen; omega) (by omega) (by simp; omega) ?_)
          intro v' w1 hown' hgrow _
          have hz : wr.ownsRow w.heap.size 25 1 (.slice a6 6 c6) rr.length (uv rr) := by
            have := owns_base HRK.out hsz
            rw [hl6] at this
            rw [hr6]
            exact this
          have hA := (HRS.out.below HNK.out).alloc (Obj.cells #[.slice a6 6 c6] 60)
          have hB := (hA.snoc (hz.alloc (Obj.cells #[.slice a6 6 c6] 60))).kept (HOW.out.alloc _) hgrow
          have hbel : Below w.heap.size w w1 := ((HN.out.trans (HNK.out.mono hsz)).alloc (by omega) _).grown hgrow (by simp; omega) (fun j e => (HOW.out.lt j e).1)
          have HB1 := Lib.hid hB
          have HO := Lib.hid hown'
          have HBL := Lib.hid hbel
          clear hA hB hz hown' hgrow hbel
          go_wp2_with fail
          go_roundw
          case rel => exact ⟨n + 1, _, by omega, by go_num, HO.out, by rw [List.take_add_one, HRR.out]; exact HB1.out, HBL.out⟩
          case measure => simp [intOf]; omega
    · obtain rfl : n = xss.length := by omega
      go_wp2_with fail
      go_ret2
      refine ⟨_, rfl, Rws.of_owned HRW.out ?_, HN.out⟩
      have := HRS.out.vals
      rw [List.take_of_length_le (by simp)] at this
      exact this

theorem refAdd_calls (a : Option Addr) (xss : List (List Int)) (cap : Nat) (t k : Int) (hl : xss.length ≤ 9223372036854775807) (w : World) (hG : Grid w a xss) :
    Calls Try.prog 25 #[.slice a xss.length cap, .int .i64 t, .int .i64 k] w (GivesE w (Rws (addL xss t k)) (addE xss t k)) := by
  by_cases h : isB xss = true ∧ 0 ≤ t ∧ t < xss.length ∧ 0 ≤ k ∧ k < 6
  · obtain ⟨hB, h1, h2, h3, h4⟩ := h
    obtain ⟨t, rfl⟩ := Int.eq_ofNat_of_zero_le h1
    obtain ⟨k, rfl⟩ := Int.eq_ofNat_of_zero_le h3
    obtain ⟨r, hr⟩ := get_of_lt (xs := xss) (k := t) (by omega)
    obtain ⟨e1, e2⟩ := addE_good hB hr (show k < 6 by omega)
    rw [e1, e2]
    exact refAdd_good a xss cap t k hl w hG hB r hr (by omega)
  · obtain ⟨e1, e2⟩ := addE_bad h
    rw [e1, e2]
    exact refAdd_bad a xss cap t k hl w hG h

end Go.Proofs.Ytfegglolblglpaa

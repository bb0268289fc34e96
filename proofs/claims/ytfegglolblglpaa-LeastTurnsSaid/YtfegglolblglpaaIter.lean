/-
  turns.healthy, an iterator over the healthy endpoints, and turns.Healthy, which collects what it gives.
-/
import Derived.RangeFuncBox
import Derived.RangeFuncLeaves
import Derived.Shelf.Abstract
import Derived.WalkKit
import Derived.OwnWalkIn
import Derived.TacticsInMore
import Derived.LoopNIn
import Derived.LoopIn
import Derived.Maps.AppendAt
import Derived.Lib.Hide
import Derived.Test.YtfegglolblglpaaProg
import Derived.Test.YtfegglolblglpaaBase
import Derived.Test.YtfegglolblglpaaPlain
namespace Go.Proofs.Ytfegglolblglpaa
open Go.RowKit Go.Shelf

attribute [local go_sem] Oper.semAt_some
set_option linter.unusedVariables false

set_option maxRecDepth 100000 in
set_option maxHeartbeats 2000000 in
theorem healthy1_in (F : Fence) (n : Nat) (h45 : F.fn 45) (hro : F.round = none) (hn : 1 ≤ n) (l Bn : Nat) (c0 c1 c2 : Value) (a : Option Addr) (hs : List Bool) (cap : Nat) (hlen : hs.length ≤ maxLen)
    (J Jx : List Int → World → Prop) (w0 : World) (hC : Cells w0 a (bv hs))
    (hY : ∀ pre x W, J pre W → pre.length < hs.length → YieldAt F (n - 1) Try.prog l #[.int .i64 x] W fun e W' =>
      (e = .returned (.bool true) ∧ J (pre ++ [x]) W' ∧ Below w0.heap.size W W') ∨ (e = .returned (.bool false) ∧ Jx (pre ++ [x]) W'))
    (W : World) (hB0 : Below w0.heap.size w0 W)
    (hb0 : W.cell? ⟨Bn, 0, none⟩ = some c0) (hb1 : W.cell? ⟨Bn, 1, none⟩ = some c1) (hb2 : W.cell? ⟨Bn, 2, none⟩ = some c2) (hb3 : W.cell? ⟨Bn, 3, none⟩ = some (.slice a hs.length cap)) (h0 : J [] W) :
    CallsIn F n Try.prog 45 #[.func (.yield l) #[] #[], .pointer (some ⟨Bn, 0, none⟩)] W fun e W' => (∃ v, e = .returned v) ∧
      ((∃ ys, ys = hl hs ∧ J ys W') ∨ (∃ pre, True ∧ Jx pre W')) := by
  unfold maxLen at hlen
  refine callsIn_of_wp Try.func45 rfl h45 ?_ hro
  simp only [Try.ntmps45, List.size_toArray, List.length_cons, List.length_nil, Nat.reduceAdd, Nat.reduceSub, Array.replicate_succ, Array.replicate_zero, List.push_toArray, List.append_toArray, List.nil_append, List.cons_append]
  gi_wp2
  gi_loopw [8] (fun i wr => ∃ k : Nat, k ≤ hs.length ∧ i = .int .i64 k ∧ J (hlTo hs k) wr ∧ Below w0.heap.size w0 wr)
    (fun i _ => hs.length - (intOf i).toNat)
  case atStart => exact ⟨0, Nat.zero_le _, rfl, h0, hB0⟩
  case round =>
    obtain ⟨k, hk, rfl, hJs, hnx⟩ := hrel
    by_cases hlt : k < hs.length
    · obtain ⟨x, hx⟩ := get_of_lt hlt
      obtain ⟨b, o, rfl, hc⟩ := hC k (.bool x) (bv_get hx)
      have hcx : wr.cell? ⟨b, o + k, none⟩ = some (.bool x) := (hnx.cell (p := ⟨b, o + k, none⟩) (World.block_lt_of_cell? _ _ hc)).trans hc
      have HX := Lib.hid hx
      clear hx hc
      cases x with
      | true =>
        obtain ⟨fn, tmps, assign, body, hy, hR⟩ := hY _ (k : Int) wr hJs (Nat.lt_of_le_of_lt (hlTo_le hs k) hlt)
        gi_wp2
        refine hR.mono ?_
        rintro e W3 (⟨rfl, hJ3, hk3⟩ | ⟨rfl, hJx3⟩)
        · gi_wp2
          go_roundw
          case rel => exact ⟨k + 1, by omega, by simp, by rw [hlTo_hit HX.out]; exact hJ3, hnx.trans hk3⟩
          case measure => simp [intOf]; omega
        · gi_wp2
          refine bodyPost_ret (results_none rfl _ _ _) rfl ?_
          exact ⟨⟨_, rfl⟩, .inr ⟨_, trivial, hJx3⟩⟩
      | false =>
        gi_wp2
        refine ⟨fun _ h => (by cases h), ?_⟩
        gi_wp2
        go_roundw
        case rel => exact ⟨k + 1, by omega, by simp, by rw [hlTo_miss HX.out]; exact hJs, hnx⟩
        case measure => simp [intOf]; omega
    · obtain rfl : k = hs.length := by omega
      gi_wp2
      go_end0
      exact ⟨⟨_, rfl⟩, .inl ⟨_, rfl, hJs⟩⟩

set_option maxHeartbeats 1000000 in
/-- turns.healthy: the cluster is boxed; the function value captures the box. -/
theorem healthy_in (F : Fence) (n : Nat) (h42 : F.fn 42) (hro : F.round = none) (c0 c1 c2 c3 : Value) (w : World) :
    CallsIn F n Try.prog 42 #[.agg #[c0, c1, c2, c3]] w fun e w' => e = .returned (.func (.func 45) #[] #[.pointer (some ⟨w.heap.size, 0, none⟩)]) ∧ w' = w.alloc (.cells #[c0, c1, c2, c3] 24) := by
  refine callsIn_of_wp Try.func42 rfl h42 ?_ hro
  simp only [Try.ntmps42, List.size_toArray, List.length_cons, List.length_nil, Nat.reduceAdd, Nat.reduceSub, Array.replicate_succ, Array.replicate_zero, List.push_toArray, List.append_toArray, List.nil_append, List.cons_append]
  gi_wp2
  go_ret
  exact ⟨rfl, rfl⟩

theorem healthy_stops (F : Fence) (n : Nat) (h45 : F.fn 45) (hro : F.round = none) (hn : 1 ≤ n) (Bn : Nat) (c0 c1 c2 : Value) (a : Option Addr) (hs : List Bool) (cap : Nat) (hlen : hs.length ≤ maxLen) (w0 w : World) (hC : Cells w0 a (bv hs)) (hB0 : Below w0.heap.size w0 w)
    (hb0 : w.cell? ⟨Bn, 0, none⟩ = some c0) (hb1 : w.cell? ⟨Bn, 1, none⟩ = some c1) (hb2 : w.cell? ⟨Bn, 2, none⟩ = some c2) (hb3 : w.cell? ⟨Bn, 3, none⟩ = some (.slice a hs.length cap)) :
    SeqStopsK F n Try.prog 45 #[.pointer (some ⟨Bn, 0, none⟩)] (fun x : Int => #[Value.int .i64 x]) (Below w0.heap.size) (fun ys => ys = hl hs) (fun _ => True) hs.length w := fun l J Jx W hW _ _ hY h0 =>
  have hBn : Bn < w.heap.size := World.block_lt_of_cell? w _ hb0
  healthy1_in F n h45 hro hn l Bn c0 c1 c2 a hs cap hlen J Jx w0 hC hY W (hB0.trans (hW.mono hB0.size))
    ((hW.cell (p := ⟨Bn, 0, none⟩) hBn).trans hb0) ((hW.cell (p := ⟨Bn, 1, none⟩) hBn).trans hb1) ((hW.cell (p := ⟨Bn, 2, none⟩) hBn).trans hb2) ((hW.cell (p := ⟨Bn, 3, none⟩) hBn).trans hb3) h0

theorem Try.info3 : (Try.prog.info? 3).map (fun i => (i.zero, i.size, i.bytes)) = some (some (.int .i64 0), 1, 8) := by kernel_rfl

set_option maxRecDepth 100000 in
set_option maxHeartbeats 2000000 in
/-- turns.Healthy, inside a fence: a slice of its own, which reads as the healthy places. -/
theorem Healthy_in (F : Fence) (n : Nat) (h21 : F.fn 21) (h42 : F.fn 42) (h45 : F.fn 45) (hro : F.round = none) (hn : 3 ≤ n) (c0 c1 c2 : Value) (a : Option Addr) (hs : List Bool) (cap : Nat) (hlen : hs.length ≤ 17592186044416) (w : World) (hC : Cells w a (bv hs)) :
    CallsIn F n Try.prog 21 #[.agg #[c0, c1, c2, .slice a hs.length cap]] w fun e W' => ∃ v, e = .returned v ∧ W'.ownsRow w.heap.size 3 1 v (hl hs).length (iv (hl hs)) ∧ Below w.heap.size w W' := by
  have h1 : 1 ≤ n := by omega
  obtain ⟨i0, hi, hz0, hz1, hz2⟩ := info_parts Try.info3
  refine callsIn_of_wp_marks Try.func21 rfl h21 ?_ hro
  simp only [Try.ntmps21, List.size_toArray, List.length_cons, List.length_nil, Nat.reduceAdd, Nat.reduceSub, Array.replicate_succ, Array.replicate_zero, List.push_toArray, List.append_toArray, List.nil_append, List.cons_append]
  gi_wp2_with (gi_at_call 42; refine (healthy_in F (n - 1) h42 hro _ _ _ _ _).mono ?_; rintro e w' ⟨rfl, rfl⟩)
  have hlen2 : hs.length ≤ maxLen := by unfold maxLen; omega
  have bO : Boxed (((w.alloc (Obj.cells #[c0, c1, c2, Value.slice a hs.length cap] 24)).alloc (Obj.cells #[Value.slice none 0 0] 29)).alloc (Obj.cells #[c0, c1, c2, Value.slice a hs.length cap] 24)) (w.heap.size + 1) 29 (.slice none 0 0) := by
    have h := (Boxed.new (w.alloc (Obj.cells #[c0, c1, c2, Value.slice a hs.length cap] 24)) 29 (.slice none 0 0)).alloc (Obj.cells #[c0, c1, c2, Value.slice a hs.length cap] 24)
    rwa [World.size_alloc] at h
  have hB0 : Below w.heap.size w (((w.alloc (Obj.cells #[c0, c1, c2, Value.slice a hs.length cap] 24)).alloc (Obj.cells #[Value.slice none 0 0] 29)).alloc (Obj.cells #[c0, c1, c2, Value.slice a hs.length cap] 24)) :=
    (((Below.refl _ w).alloc (Nat.le_refl _) _).alloc (by simp) _).alloc (by simp; omega) _
  refine wpIn_rangeFunc_ownG hro h1 (gf := 45) (lb := #[.pointer (some ⟨w.heap.size + 1 + 1, 0, none⟩)]) rfl h45 (enters_of Try.func45 (by kernel_rfl) rfl)
    (healthy_stops F (n - 1) h45 hro (by omega) (w.heap.size + 1 + 1) c0 c1 c2 a hs cap hlen2 w _ hC hB0 (by go_simp) (by go_simp) (by go_simp) (by go_simp)) belowK_t (belowK_b (by simp; omega)) (Below.refl _ _) (fun _ => rfl)
    (fun pre W => (∃ v, Boxed W (w.heap.size + 1) 29 v ∧ W.ownsRow w.heap.size 3 1 v pre.length (iv pre) ∧ True) ∧ Below w.heap.size w W)
    (fun _ _ _ => False)
    (OwnFrom.and (Own.from (holdsRow_own w.heap.size (w.heap.size + 1) 29 3 1 (fun pre => pre.length) (fun pre => iv pre) (fun pre v => True)) _) (ownFrom_below (Nat.le_refl _) (by simp; omega)))
    (fun _ _ _ _ _ hs _ _ => hs)
    ⟨⟨_, bO, World.ownsRow_nil _ _ _ _, trivial⟩, hB0⟩
    (fun x => { tmps := #[.agg #[c0, c1, c2, .slice a hs.length cap], .pointer (some ⟨w.heap.size, 0, none⟩), .slice none 0 0, .pointer (some ⟨w.heap.size + 1, 0, none⟩), .int .i64 x, .agg #[c0, c1, c2, .slice a hs.length cap], .func (.func 45) #[] #[.pointer (some ⟨w.heap.size + 1 + 1, 0, none⟩)], .int .i64 x, undef, undef, undef, undef, undef], defers := [] }) ?assign ?body ?done ?stop
  case assign =>
    intro l x W K hK
    gi_wp2
    exact hK
  case body =>
    rintro l pre x W ⟨⟨v, hv, hrow, _⟩, hB⟩ hlt
    have hc := hv.cell
    gi_wp2_with (gi_at_builtin; refine wpListIn_append_own _ rfl _ _ 29 rfl w.heap.size 3 i0 (.int .i64 0) 1 8 Try.underlying29 hi hz0 hz1 hz2 rfl (by decide) _ _ _ rfl (hrow.alloc _) ⟨W.heap.size, 0, none⟩ 1 1 [.int .i64 x] rfl rfl (cell_one_new _ _ _) (by simp [Value.oneCell']) (by unfold maxLen; omega) (by omega) (by have := hB.size; simp; omega) ?_; intro v' w1 hown' hgrow _; obtain ⟨g', cap', rfl⟩ := ownsRow_succ hown'; obtain ⟨hv1, hv2, hr2, hk2, hb2⟩ := hv.appended (by decide) hrow hB.size (by omega) hown' hgrow; have hc1 := hv1.cell; have hf1 := hv1.frozen)
    exact ⟨hk2.from _, hb2, ⟨_, hv2, by simpa [iv] using hr2, trivial⟩, hB.trans hb2⟩
  case done =>
    rintro D ys W hD rfl ⟨⟨v, hv, hrow, _⟩, hB⟩ hK
    have hc := hv.cell
    gi_wp2
    refine ⟨by simp, .inl ⟨_, _, rfl, run_takeDeferred hK, ?_⟩⟩
    exact ⟨_, results_tmp rfl _ _ _, v, rfl, ownsRow_putObj hrow _ hK rfl, hB.trans (belowK_b (w := w) (Nat.le_refl _) W D _ _ (by simp at hD; omega) hK rfl rfl)⟩
  case stop =>
    rintro D c pre W _ _ h _
    exact h.elim

/-- turns.Healthy. -/
theorem Healthy_calls (c0 c1 c2 : Value) (a : Option Addr) (hs : List Bool) (cap : Nat) (hlen : hs.length ≤ 17592186044416) (w : World) (hC : Cells w a (bv hs)) :
    Calls Try.prog 21 #[.agg #[c0, c1, c2, .slice a hs.length cap]] w (Gives w (Ints (hl hs))) := by
  refine (callsIn_wide.1 (Healthy_in Fence.wide 3 trivial trivial trivial rfl (Nat.le_refl _) c0 c1 c2 a hs cap hlen w hC)).mono ?_
  rintro e w' ⟨v, he, hrow, hB⟩
  obtain ⟨a', cap', h1, h2, h3, h4, _⟩ := Cells.of_ownsRow hrow
  exact ⟨v, he, .of_row ⟨a', cap', h1, h2, h3, h4⟩, hB⟩

end Go.Proofs.Ytfegglolblglpaa

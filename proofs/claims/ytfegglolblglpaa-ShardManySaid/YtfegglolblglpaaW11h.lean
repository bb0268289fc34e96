/-
  shard.Add once more: its rows keep away from a block from which the rows that came in keep away.
-/
import Derived.Test.YtfegglolblglpaaT11
namespace Go.Proofs.Ytfegglolblglpaa
open Go.RowKit
set_option linter.unusedVariables false

/-- Cells that hold these values, none of them in block g. -/
def CellsA (g : Nat) (w : World) (a : Option Addr) (vs : List Value) : Prop :=
  ∀ i x, vs[i]? = some x → ∃ b o, a = some ⟨b, o, none⟩ ∧ b ≠ g ∧ w.cell? ⟨b, o + i, none⟩ = some x
def CntA (g : Nat) (xs : List Int) (v : Value) (w : World) : Prop := ∃ a cap, v = .slice a xs.length cap ∧ xs.length ≤ cap ∧ cap ≤ maxLen ∧ CellsA g w a (uv xs)
def GridA (g : Nat) (w : World) (a : Option Addr) (xss : List (List Int)) : Prop :=
  ∀ i xs, xss[i]? = some xs → ∃ b o v, a = some ⟨b, o, none⟩ ∧ b ≠ g ∧ w.cell? ⟨b, o + i, none⟩ = some v ∧ CntA g xs v w
theorem CellsA.cells {g : Nat} {w : World} {a : Option Addr} {vs : List Value} (h : CellsA g w a vs) : Cells w a vs := fun i x hx => by
  obtain ⟨b, o, ha, _, hc⟩ := h i x hx
  exact ⟨b, o, ha, hc⟩
theorem GridA.grid {g : Nat} {w : World} {a : Option Addr} {xss : List (List Int)} (h : GridA g w a xss) : Grid w a xss := fun i xs hx => by
  obtain ⟨b, o, v, ha, _, hc, a', c', h1, h2, h3, h4⟩ := h i xs hx
  exact ⟨b, o, v, ha, hc, a', c', h1, h2, h3, h4.cells⟩
theorem CellsA.below {g : Nat} {w w' : World} {a : Option Addr} {vs : List Value} (h : CellsA g w a vs) (hb : Below w.heap.size w w') : CellsA g w' a vs := fun i x hx => by
  obtain ⟨b, o, ha, hn, hc⟩ := h i x hx
  exact ⟨b, o, ha, hn, by rw [hb.cell (World.block_lt_of_cell? _ _ hc)]; exact hc⟩
theorem CntA.below {g : Nat} {w w' : World} {xs : List Int} {v : Value} (h : CntA g xs v w) (hb : Below w.heap.size w w') : CntA g xs v w' := by
  obtain ⟨a', c', h1, h2, h3, h4⟩ := h
  exact ⟨a', c', h1, h2, h3, h4.below hb⟩
theorem GridA.below {g : Nat} {w w' : World} {a : Option Addr} {xss : List (List Int)} (h : GridA g w a xss) (hb : Below w.heap.size w w') : GridA g w' a xss := fun i xs hx => by
  obtain ⟨b, o, v, ha, hn, hc, hv⟩ := h i xs hx
  exact ⟨b, o, v, ha, hn, by rw [hb.cell (World.block_lt_of_cell? _ _ hc)]; exact hc, hv.below hb⟩
theorem CellsA.setCell {g : Nat} {w : World} {a : Option Addr} {vs : List Value} (h : CellsA g w a vs) {p : Addr} (hp : p.block = g) (u : Value) : CellsA g (w.setCell p u) a vs := fun i x hx => by
  obtain ⟨b, o, ha, hn, hc⟩ := h i x hx
  refine ⟨b, o, ha, hn, ?_⟩
  rw [World.cell?_setCell_other]
  · exact hc
  · rintro rfl
    exact hn hp
theorem GridA.setCell {g : Nat} {w : World} {a : Option Addr} {xss : List (List Int)} (h : GridA g w a xss) {p : Addr} (hp : p.block = g) (u : Value) : GridA g (w.setCell p u) a xss := fun i xs hx => by
  obtain ⟨b, o, v, ha, hn, hc, a', c', h1, h2, h3, h4⟩ := h i xs hx
  refine ⟨b, o, v, ha, hn, ?_, a', c', h1, h2, h3, h4.setCell hp u⟩
  rw [World.cell?_setCell_other]
  · exact hc
  · rintro rfl
    exact hn hp
theorem Cells.away {w : World} {a : Option Addr} {vs : List Value} {g : Nat} (h : Cells w a vs) (hg : w.heap.size ≤ g) : CellsA g w a vs := fun i x hx => by
  obtain ⟨b, o, ha, hc⟩ := h i x hx
  have := World.block_lt_of_cell? _ _ hc
  exact ⟨b, o, ha, by simp at this; omega, hc⟩
theorem Grid.away {w : World} {a : Option Addr} {xss : List (List Int)} {g : Nat} (h : Grid w a xss) (hg : w.heap.size ≤ g) : GridA g w a xss := fun i xs hx => by
  obtain ⟨b, o, v, ha, hc, a', c', h1, h2, h3, h4⟩ := h i xs hx
  have := World.block_lt_of_cell? _ _ hc
  exact ⟨b, o, v, ha, by simp at this; omega, hc, a', c', h1, h2, h3, h4.away hg⟩
theorem Blk.cellsA {g' g t : Nat} {vs : List Value} {w : World} (h : Blk g t vs w) (hn : g ≠ g') : CellsA g' w (some ⟨g, 0, none⟩) vs := fun i x hx => ⟨g, 0, rfl, hn, by rw [Nat.zero_add]; exact (h.at hx).1⟩

/-- A slice of rows L; where the rows xss that lay in w at a keep away from an old block, so do these. -/
def RwsN (w : World) (a : Option Addr) (xss L : List (List Int)) (v : Value) (w' : World) : Prop :=
  ∃ a' cap', v = .slice a' L.length cap' ∧ Grid w' a' L ∧ ∀ g, g < w.heap.size → GridA g w a xss → GridA g w' a' L

theorem addedA (w w4 : World) (a : Option Addr) (xss : List (List Int)) (t k : Nat) (r : List Int) (x : Int) (cs : List Value) (g : Nat) (hk : k < 6) (ht : t < xss.length) (h8 : xss.length ≤ 8) (hr6 : r.length = 6) (hcl : cs.length = xss.length)
    (hg : w.heap.size < g) (hx : r[k]? = some x) (hrv : RowVals cs xss w) (hcs : Cells w a cs) (hS : Blk w.heap.size 60 (cs.set t (.slice (some ⟨g, 0, none⟩) 6 6)) w4) (hN : Blk g 25 (uv r) w4) (hB : Below w.heap.size w w4) :
    GivesE w (RwsN w a xss (xss.set t (addRow r k))) 0 (.returned (.tuple #[.slice (some ⟨w.heap.size, 0, none⟩) xss.length xss.length, .int .i64 0])) (w4.setCell ⟨g, k, none⟩ (.int .u64 (inc x))) := by
  obtain ⟨v0, hv0, ⟨a0, c0, rfl, _, _, hgr⟩, hbel⟩ := added w w4 xss t k r x cs g hk ht h8 hr6 hcl hg hx hrv hS hN hB
  refine ⟨_, hv0, ⟨a0, c0, rfl, hgr, fun z hz hA => ?_⟩, hbel⟩
  simp only [Ending.returned.injEq, Value.tuple.injEq] at hv0
  have hv1 : Value.slice (some ⟨w.heap.size, 0, none⟩) xss.length xss.length = Value.slice a0 (xss.set t (addRow r k)).length c0 := by
    have := congrArg (fun (q : Array Value) => q.getD 0 undef) hv0
    simpa using this
  simp only [Value.slice.injEq] at hv1
  obtain ⟨rfl, _, rfl⟩ := hv1
  have hS6 := hS.other (p := ⟨g, k, none⟩) (by simp; omega) (.int .u64 (inc x))
  have hN6 := hN.set k (.int .u64 (inc x))
  rw [uv_set] at hN6
  have har : addRow r k = r.set k (inc x) := by simp [addRow, List.getD, hx]
  intro i xs hi
  rw [har] at hi
  have hil : i < xss.length := by
    have := (List.getElem?_eq_some_iff.1 hi).1
    rwa [List.length_set] at this
  by_cases e : i = t
  · subst e
    rw [List.getElem?_set_self hil] at hi
    cases hi
    refine ⟨w.heap.size, 0, .slice (some ⟨g, 0, none⟩) 6 6, rfl, by omega, ?_, some ⟨g, 0, none⟩, 6, by rw [List.length_set, hr6], by rw [List.length_set, hr6]; exact Nat.le_refl _, by decide, hN6.cellsA (by omega)⟩
    rw [Nat.zero_add]
    exact (hS6.at (List.getElem?_set_self (by omega))).1
  · rw [List.getElem?_set_ne (fun h => e h.symm)] at hi
    obtain ⟨v, hv⟩ := get_of_lt (xs := cs) (k := i) (by omega)
    obtain ⟨b, o, v', ha, _, hc, hcnt⟩ := hA i xs hi
    obtain ⟨b', o', ha', hc'⟩ := hcs i v hv
    rw [ha] at ha'
    cases ha'
    rw [hc] at hc'
    cases hc'
    refine ⟨w.heap.size, 0, _, rfl, by omega, ?_, hcnt.below hbel⟩
    rw [Nat.zero_add]
    exact (hS6.at (by rw [List.getElem?_set_ne (fun h => e h.symm)]; exact hv)).1

set_option maxRecDepth 100000 in
set_option maxHeartbeats 2000000 in
theorem AddA_good (a : Option Addr) (xss : List (List Int)) (cap : Nat) (t k : Nat) (hl : xss.length ≤ 9223372036854775807) (w : World) (hG : Grid w a xss)
    (hB : isB xss = true) (r : List Int) (hr : xss[t]? = some r) (hk : k < 6) : Calls Try.prog 24 #[.slice a xss.length cap, .int .i64 t, .int .i64 k] w (GivesE w (RwsN w a (xss) (xss.set t (addRow r k))) 0) := by
  obtain ⟨i0, hi, hz0, hz1, hz2⟩ := info_parts Try.info60
  obtain ⟨j0, hj, hy0, hy1, hy2⟩ := info_parts Try.info25
  have ht : t < xss.length := (List.getElem?_eq_some_iff.1 hr).1
  have h8 : xss.length ≤ 8 := (of_decide_eq_true hB).2.2
  have hr6 : r.length = 6 := (of_decide_eq_true hB).1 r (List.mem_of_getElem? hr)
  obtain ⟨cs, hrv, hcs⟩ := hG.vals
  have hcl : cs.length = xss.length := hrv.1
  obtain ⟨b1, o1, a1, c1, rfl, hc0, hu1⟩ := hG.at hr
  rw [hr6] at hc0
  obtain ⟨x, hx⟩ := get_of_lt (xs := r) (k := k) (by rw [hr6]; exact hk)
  have d1 : decide ((t : Int) < 0) = false := by simp
  have d2 : decide (xss.length ≤ t) = false := by simp; omega
  have d3 : decide ((k : Int) < 0) = false := by simp
  have d4 : decide ((k : Int) ≥ 6) = false := by simp; omega
  have HB := Lib.hid hB
  have HRV := Lib.hid hrv
  have HCS := Lib.hid hcs
  have HR := Lib.hid hr
  have HX := Lib.hid hx
  have HU := Lib.hid hu1
  have HC := Lib.hid hc0
  clear hB hrv hcs hr hx hu1 hc0
  have hcur : (w.alloc (Obj.cells (madeCells #[.slice none 0 0] xss.length) 60)).heap[w.heap.size]? = some (.cells (List.replicate xss.length (Value.slice none 0 0)).toArray 60 (0, 0)) := by
    rw [heap_alloc_new, ← toList_madeCells_one]
  have hn1 : cs.length = Nat.min xss.length xss.length := by rw [hcl]; exact (Nat.min_self _).symm
  have hA1 : Below w.heap.size w (w.alloc (Obj.cells (madeCells #[.slice none 0 0] xss.length) 60)) := (Below.refl _ w).alloc (Nat.le_refl _) _
  have hpos1 : ∀ j v, cs[j]? = some v → (w.alloc (Obj.cells (madeCells #[.slice none 0 0] xss.length) 60)).cell? ((⟨b1, o1, none⟩ : Addr).add j) = some v := fun j v h => by
    obtain ⟨b, o, e, h1⟩ := (HCS.out.below hA1) j v h
    cases e
    have e2 : (⟨b1, o1, none⟩ : Addr).add j = ⟨b1, o1 + j, none⟩ := by cases j <;> simp [Addr.add]
    rw [e2]
    exact h1
  have hfit1 : 0 + cs.length ≤ (List.replicate xss.length (Value.slice none 0 0)).length := by simp [hcl]
  have hone := HRV.out.one
  have HCUR := Lib.hid hcur
  have HPOS := Lib.hid hpos1
  have HA1 := Lib.hid hA1
  have HONE := Lib.hid hone
  clear hcur hpos1 hA1 hone
  go_enter Try.func24, Try.ntmps24
  go_wp2_with (first | (go_at_call 32; refine (Is_calls _ _ _ hl _ hG).mono ?_; rintro e w' ⟨rfl, hw⟩; (obtain rfl := hw.symm); rw [HB.out])
                      | (at_make; refine wpList_make_row _ rfl _ _ 37 rfl 60 i0 (.slice none 0 0) Try.underlying37 hi hz0 hz1 rfl _ _ xss.length rfl rfl (by rw [hz2]; omega) (by omega) ?_)
                      | ((with_reducible show wpList _ _ _ _ _ _); (refine wpList_copy_splice (o := ⟨some 35, _, _, _, _, _⟩) rfl (.tmp 33) (.tmp 34) 37 37 rfl 60 Try.underlying37 Try.info60r (some ⟨w.heap.size, 0, none⟩) (some ⟨b1, o1, none⟩) xss.length xss.length xss.length cap rfl rfl w.heap.size 0 (List.replicate xss.length (Value.slice none 0 0)) 60 HCUR.out cs hn1 (fun _ => ⟨rfl, _, rfl, HPOS.out⟩) hfit1 HONE.out w.heap.size w HA1.out (Nat.le_refl _) ?_)))
  intro w1 hg1 hb1
  rw [splice_all _ _ (by simp [hcl])] at hg1
  have e9 : madeCells #[Value.int .u64 0] 6 = (uv zeros).toArray := by
    apply Array.toList_inj.1
    rw [toList_madeCells_one]
    rfl
  have HW1 : Hid (Blk w.heap.size 60 cs w1) := Lib.hid hg1.out
  have HB1 := Lib.hid hb1
  have hsz := hb1.size
  clear hg1 hb1 HCUR HPOS HA1 HONE hn1 hfit1
  have hlt1 := HW1.out.lt
  obtain ⟨vt, hvt⟩ := get_of_lt (xs := cs) (k := t) (by rw [hcl]; exact ht)
  have hW2 : Blk w.heap.size 60 cs (w1.alloc (.cells (uv zeros).toArray 25)) := HW1.out.below ((Below.refl _ w1).alloc (Nat.le_refl _) _) hlt1
  obtain ⟨f1, f2⟩ := hW2.at hvt
  have hB9 : Below w.heap.size w (w1.setCell ⟨w.heap.size, t, none⟩ (.slice (some ⟨w1.heap.size, 0, none⟩) 6 6)) := HB1.out.setCell (Nat.le_refl _) _
  have hS9 : Blk w.heap.size 60 (cs.set t (.slice (some ⟨w1.heap.size, 0, none⟩) 6 6)) (w1.setCell ⟨w.heap.size, t, none⟩ (.slice (some ⟨w1.heap.size, 0, none⟩) 6 6)) := HW1.out.set t _
  have hz9 : (w1.setCell ⟨w.heap.size, t, none⟩ (.slice (some ⟨w1.heap.size, 0, none⟩) 6 6)).heap.size = w1.heap.size := by simp [World.setCell]
  have hS : Blk w.heap.size 60 (cs.set t (.slice (some ⟨w1.heap.size, 0, none⟩) 6 6)) ((w1.setCell ⟨w.heap.size, t, none⟩ (.slice (some ⟨w1.heap.size, 0, none⟩) 6 6)).alloc (.cells (uv zeros).toArray 25)) := hS9.below ((Below.refl _ _).alloc (Nat.le_refl _) _) hS9.lt
  have hN := Blk.new (w1.setCell ⟨w.heap.size, t, none⟩ (.slice (some ⟨w1.heap.size, 0, none⟩) 6 6)) (uv zeros) 25
  rw [hz9] at hN
  have hBA := hB9.alloc (by omega) (.cells (uv zeros).toArray 25)
  have HS := Lib.hid hS
  have HN := Lib.hid hN
  have HBA := Lib.hid hBA
  clear hS hN hBA hW2 HB1 HW1 hB9 hS9 hz9
  go_wp2_with (at_make; refine wpList_make_row _ rfl _ _ 60 rfl 25 j0 (.int .u64 0) Try.underlying60 hj hy0 hy1 rfl _ _ 6 rfl rfl (by rw [hy2]; omega) (by omega) ?_; rw [e9])
  generalize (w1.setCell ⟨w.heap.size, t, none⟩ (.slice (some ⟨w1.heap.size, 0, none⟩) 6 6)).alloc (.cells (uv zeros).toArray 25) = wA at *
  generalize w1.heap.size = g at *
  clear f1 f2 hsz
  have hr0 : (cs.set t (.slice (some ⟨g, 0, none⟩) 6 6))[t]? = some (.slice (some ⟨g, 0, none⟩) 6 6) := List.getElem?_set_self (by omega)
  obtain ⟨f1, f2⟩ := HS.out.at hr0
  have f3 : wA.cell? ⟨b1, o1 + t, none⟩ = some (.slice a1 6 c1) := by rw [HBA.out.cell (World.block_lt_of_cell? _ _ HC.out)]; exact HC.out
  have hul : (uv r).length = Nat.min 6 6 := by rw [uv_length, hr6]; rfl
  have hA1 := HU.out.below HBA.out
  have hone : ∀ v ∈ uv r, v.oneCell' = true := by
    intro v hv
    simp only [uv, List.mem_map] at hv
    obtain ⟨_, _, rfl⟩ := hv
    rfl
  obtain ⟨a2, ha2⟩ : ∃ a2, a1 = some a2 := by
    obtain ⟨b, o, e, _⟩ := hA1 0 _ (uv_get (xs := r) (i := 0) (x := r[0]'(by omega)) (by simp))
    exact ⟨_, e⟩
  subst ha2
  have hpos : ∀ j v, (uv r)[j]? = some v → wA.cell? (a2.add j) = some v := fun j v h => by
    obtain ⟨b, o, e, h1⟩ := hA1 j v h
    cases e
    have e2 : (⟨b, o, none⟩ : Addr).add j = ⟨b, o + j, none⟩ := by cases j <;> simp [Addr.add]
    rw [e2]
    exact h1
  have hfit : 0 + (uv r).length ≤ (uv zeros).length := by rw [hul]; decide
  have HPOS := Lib.hid hpos
  have HONE := Lib.hid hone
  have HUL := Lib.hid hul
  have HFIT := Lib.hid hfit
  clear hpos hone hul hfit hA1 HC HU
  go_region_law (refine step_copy_splice (o := ⟨some 48, _, _, _, _, _⟩) rfl (.tmp 43) (.tmp 47) 60 60 rfl 25 Try.underlying60 Try.info25r (some ⟨g, 0, none⟩) (some a2) 6 6 6 c1 rfl rfl g 0 (uv zeros) 25 HN.out (uv r) HUL.out (fun _ => ⟨rfl, _, rfl, HPOS.out⟩) HFIT.out HONE.out g wA (Below.refl g wA).drew (Nat.le_refl _) ?_; intro w4 hg4 hb4)
  all_goals
    have hS4 := HS.out.below hb4 hlt1
    have hN4 : Blk g 25 (uv r) w4 := by
      have h := hg4.out
      rw [splice_all _ _ (by rw [HUL.out]; rfl)] at h
      exact h
    have hB4 := HBA.out.trans (hb4.mono (Nat.le_of_lt hlt1))
    have e1 := (hS4.at hr0).1
    obtain ⟨e2, e3⟩ := hN4.at (uv_get HX.out)
    have HS4 := Lib.hid hS4
    have HN4 := Lib.hid hN4
    have HB4 := Lib.hid hB4
    clear hS4 hN4 hB4 hg4 hb4 HBA HS HN HPOS HONE HUL HFIT f1 f2 f3
    go_wp2_with fail
    go_ret2
    exact addedA w w4 _ xss t k r x cs g hk ht h8 hr6 hcl hlt1 HX.out HRV.out HCS.out HS4.out HN4.out HB4.out

end Go.Proofs.Ytfegglolblglpaa

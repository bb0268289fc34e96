/-
  No cell of these rows narrows 'for every input' (looked for: loops, veiled, ifaces, maps, wideKeys, modest, calm, conditions, laid).
  DERIVED. THE GIVEN ROWS OF THIS SEAT. 9 by the template 'for every input the law returns true; each argument reads behind the call as it read before'; 0 by the template 'total and deterministic' (their statements: YtfegglolblglpabTotals.lean).
  GIVEN WITH THE SEED: the statements are not yours to turn. If you find one false, say at which input.
  Laid BY PROGRAM, IN A SANDBOX (cutbox-rows.mjs): the forced cells as the released guide's own fill.sh prints them over the translation 0ceac78dd8ce4302… (all of the seat's roots in one cut). By AI agents, Wed Nov 11 2026. No macro, syntax, notation, axiom, sorry.
-/
import Derived.Test.YtfegglolblglpabChecked
import GoSem.Claim
import GoSem.ClaimJoined
import GoSem.ClaimMapViews
import Derived.JoinedTies
import Derived.KernelRfl
namespace Go.Proofs.Ytfegglolblglpab
/- THE CELL 'sum', in the pinned program and in every row, IS THE sha256 OF THE DUMP (.gsa) THAT YtfegglolblglpabProg.lean LOADS. Nothing in Lean hashes anything: it is a label: what it is worth is what the hold of that sum in a sandbox is worth. -/
noncomputable def Try.pinned : Pinned := { name := "ytfegglolblglpab", sum := "0ceac78dd8ce4302f4e9f0d5f83bf872d83b75bba59122ca8ae3dd634db6afaf", checked := Try.checked }
namespace Rows
def none {H : Type} : Left H := { results := [], args := [] }

/-- 'hydrantlaw02.CellAccess': WHATEVER THE INPUT: true; the input reads as it did. -/
def cellAccessSpec : ChangeSpec := { name := "cellAccess", fn := fun _ => fun
  | [d1, d2, d3, d4] => { results := [.lit (.bool true)], args := [d1, d2, d3, d4] }
  | _ => none }
def cellAccessRow : OpenClaim := { program := "ytfegglolblglpab", sum := "0ceac78dd8ce4302f4e9f0d5f83bf872d83b75bba59122ca8ae3dd634db6afaf", func := "hydrant/hydrantlaw02.CellAccess", spec := "cellAccess", inPlace := ["sync/atomic.StorePointer", "sync/atomic.AddInt64", "sync/atomic.LoadPointer", "sync/atomic.SwapPointer", "sync/atomic.CompareAndSwapPointer", "sync/atomic.LoadInt64"], apart := false }
def CellAccessSaid : Prop := cellAccessRow.holds Try.pinned (OpenSpec.ofChange cellAccessSpec)

/-- ITS FALSE NEIGHBOUR: 'it returns false'. Refute it at one input. -/
def cellAccessWrong : ChangeSpec := { name := "cellAccess", fn := fun _ => fun
  | [d1, d2, d3, d4] => { results := [.lit (.bool false)], args := [d1, d2, d3, d4] }
  | _ => none }
def CellAccessWrongFalsely : Prop := cellAccessRow.holds Try.pinned (OpenSpec.ofChange cellAccessWrong)

/-- 'hydrantlaw02.CellTexts': WHATEVER THE INPUT: true; the input reads as it did. -/
def cellTextsSpec : ChangeSpec := { name := "cellTexts", fn := fun _ => fun
  | [d1, d2] => { results := [.lit (.bool true)], args := [d1, d2] }
  | _ => none }
def cellTextsRow : OpenClaim := { program := "ytfegglolblglpab", sum := "0ceac78dd8ce4302f4e9f0d5f83bf872d83b75bba59122ca8ae3dd634db6afaf", func := "hydrant/hydrantlaw02.CellTexts", spec := "cellTexts", inPlace := ["sync/atomic.StorePointer", "sync/atomic.AddInt64", "sync/atomic.LoadPointer", "sync/atomic.CompareAndSwapPointer", "sync/atomic.SwapPointer", "sync/atomic.LoadInt64"], apart := false }
def CellTextsSaid : Prop := cellTextsRow.holds Try.pinned (OpenSpec.ofChange cellTextsSpec)

/-- ITS FALSE NEIGHBOUR: 'it returns false'. Refute it at one input. -/
def cellTextsWrong : ChangeSpec := { name := "cellTexts", fn := fun _ => fun
  | [d1, d2] => { results := [.lit (.bool false)], args := [d1, d2] }
  | _ => none }
def CellTextsWrongFalsely : Prop := cellTextsRow.holds Try.pinned (OpenSpec.ofChange cellTextsWrong)

/-- 'hydrantlaw02.CellOnce': WHATEVER THE INPUT: true; the input reads as it did. -/
def cellOnceSpec : ChangeSpec := { name := "cellOnce", fn := fun _ => fun
  | [d1, d2] => { results := [.lit (.bool true)], args := [d1, d2] }
  | _ => none }
def cellOnceRow : OpenClaim := { program := "ytfegglolblglpab", sum := "0ceac78dd8ce4302f4e9f0d5f83bf872d83b75bba59122ca8ae3dd634db6afaf", func := "hydrant/hydrantlaw02.CellOnce", spec := "cellOnce", inPlace := ["sync/atomic.StorePointer", "sync/atomic.AddInt64", "sync/atomic.SwapPointer", "sync/atomic.LoadPointer", "sync/atomic.CompareAndSwapPointer", "sync/atomic.LoadInt64"], apart := false }
def CellOnceSaid : Prop := cellOnceRow.holds Try.pinned (OpenSpec.ofChange cellOnceSpec)

/-- ITS FALSE NEIGHBOUR: 'it returns false'. Refute it at one input. -/
def cellOnceWrong : ChangeSpec := { name := "cellOnce", fn := fun _ => fun
  | [d1, d2] => { results := [.lit (.bool false)], args := [d1, d2] }
  | _ => none }
def CellOnceWrongFalsely : Prop := cellOnceRow.holds Try.pinned (OpenSpec.ofChange cellOnceWrong)

/-- 'hydrantlaw02.CellTwo': WHATEVER THE INPUT: true; the input reads as it did. -/
def cellTwoSpec : ChangeSpec := { name := "cellTwo", fn := fun _ => fun
  | [d1, d2, d3] => { results := [.lit (.bool true)], args := [d1, d2, d3] }
  | _ => none }
def cellTwoRow : OpenClaim := { program := "ytfegglolblglpab", sum := "0ceac78dd8ce4302f4e9f0d5f83bf872d83b75bba59122ca8ae3dd634db6afaf", func := "hydrant/hydrantlaw02.CellTwo", spec := "cellTwo", inPlace := ["sync/atomic.StorePointer", "sync/atomic.AddInt64", "sync/atomic.SwapPointer", "sync/atomic.LoadPointer", "sync/atomic.CompareAndSwapPointer", "sync/atomic.LoadInt64"], apart := false }
def CellTwoSaid : Prop := cellTwoRow.holds Try.pinned (OpenSpec.ofChange cellTwoSpec)

/-- ITS FALSE NEIGHBOUR: 'it returns false'. Refute it at one input. -/
def cellTwoWrong : ChangeSpec := { name := "cellTwo", fn := fun _ => fun
  | [d1, d2, d3] => { results := [.lit (.bool false)], args := [d1, d2, d3] }
  | _ => none }
def CellTwoWrongFalsely : Prop := cellTwoRow.holds Try.pinned (OpenSpec.ofChange cellTwoWrong)

/-- 'hydrantlaw02.CellCas': WHATEVER THE INPUT: true; the input reads as it did. -/
def cellCasSpec : ChangeSpec := { name := "cellCas", fn := fun _ => fun
  | [d1, d2, d3] => { results := [.lit (.bool true)], args := [d1, d2, d3] }
  | _ => none }
def cellCasRow : OpenClaim := { program := "ytfegglolblglpab", sum := "0ceac78dd8ce4302f4e9f0d5f83bf872d83b75bba59122ca8ae3dd634db6afaf", func := "hydrant/hydrantlaw02.CellCas", spec := "cellCas", inPlace := ["sync/atomic.StorePointer", "sync/atomic.AddInt64", "sync/atomic.LoadPointer", "sync/atomic.CompareAndSwapPointer", "sync/atomic.SwapPointer", "sync/atomic.LoadInt64"], apart := false }
def CellCasSaid : Prop := cellCasRow.holds Try.pinned (OpenSpec.ofChange cellCasSpec)

/-- ITS FALSE NEIGHBOUR: 'it returns false'. Refute it at one input. -/
def cellCasWrong : ChangeSpec := { name := "cellCas", fn := fun _ => fun
  | [d1, d2, d3] => { results := [.lit (.bool false)], args := [d1, d2, d3] }
  | _ => none }
def CellCasWrongFalsely : Prop := cellCasRow.holds Try.pinned (OpenSpec.ofChange cellCasWrong)

/-- 'hydrantlaw09.SchedPicks': WHATEVER THE INPUT: true; the input reads as it did. -/
def schedPicksSpec : ChangeSpec := { name := "schedPicks", fn := fun _ => fun
  | [d1, d2, d3, d4] => { results := [.lit (.bool true)], args := [d1, d2, d3, d4] }
  | _ => none }
def schedPicksRow : OpenClaim := { program := "ytfegglolblglpab", sum := "0ceac78dd8ce4302f4e9f0d5f83bf872d83b75bba59122ca8ae3dd634db6afaf", func := "hydrant/hydrantlaw09.SchedPicks", spec := "schedPicks", unfollowed := true, recurses := true, apart := false }
def SchedPicksSaid : Prop := schedPicksRow.holds Try.pinned (OpenSpec.ofChange schedPicksSpec)

/-- ITS FALSE NEIGHBOUR: 'it returns false'. Refute it at one input. -/
def schedPicksWrong : ChangeSpec := { name := "schedPicks", fn := fun _ => fun
  | [d1, d2, d3, d4] => { results := [.lit (.bool false)], args := [d1, d2, d3, d4] }
  | _ => none }
def SchedPicksWrongFalsely : Prop := schedPicksRow.holds Try.pinned (OpenSpec.ofChange schedPicksWrong)

/-- 'hydrantlaw09.SchedFair': WHATEVER THE INPUT: true; the input reads as it did. -/
def schedFairSpec : ChangeSpec := { name := "schedFair", fn := fun _ => fun
  | [d1, d2, d3] => { results := [.lit (.bool true)], args := [d1, d2, d3] }
  | _ => none }
def schedFairRow : OpenClaim := { program := "ytfegglolblglpab", sum := "0ceac78dd8ce4302f4e9f0d5f83bf872d83b75bba59122ca8ae3dd634db6afaf", func := "hydrant/hydrantlaw09.SchedFair", spec := "schedFair", unfollowed := true, recurses := true, apart := false }
def SchedFairSaid : Prop := schedFairRow.holds Try.pinned (OpenSpec.ofChange schedFairSpec)

/-- ITS FALSE NEIGHBOUR: 'it returns false'. Refute it at one input. -/
def schedFairWrong : ChangeSpec := { name := "schedFair", fn := fun _ => fun
  | [d1, d2, d3] => { results := [.lit (.bool false)], args := [d1, d2, d3] }
  | _ => none }
def SchedFairWrongFalsely : Prop := schedFairRow.holds Try.pinned (OpenSpec.ofChange schedFairWrong)

/-- 'hydrantlaw09.SchedMore': WHATEVER THE INPUT: true; the input reads as it did. -/
def schedMoreSpec : ChangeSpec := { name := "schedMore", fn := fun _ => fun
  | [d1, d2, d3, d4, d5] => { results := [.lit (.bool true)], args := [d1, d2, d3, d4, d5] }
  | _ => none }
def schedMoreRow : OpenClaim := { program := "ytfegglolblglpab", sum := "0ceac78dd8ce4302f4e9f0d5f83bf872d83b75bba59122ca8ae3dd634db6afaf", func := "hydrant/hydrantlaw09.SchedMore", spec := "schedMore", unfollowed := true, recurses := true, apart := false }
def SchedMoreSaid : Prop := schedMoreRow.holds Try.pinned (OpenSpec.ofChange schedMoreSpec)

/-- ITS FALSE NEIGHBOUR: 'it returns false'. Refute it at one input. -/
def schedMoreWrong : ChangeSpec := { name := "schedMore", fn := fun _ => fun
  | [d1, d2, d3, d4, d5] => { results := [.lit (.bool false)], args := [d1, d2, d3, d4, d5] }
  | _ => none }
def SchedMoreWrongFalsely : Prop := schedMoreRow.holds Try.pinned (OpenSpec.ofChange schedMoreWrong)

/-- 'hydrantlaw09.SchedRounds': WHATEVER THE INPUT: true; the input reads as it did. -/
def schedRoundsSpec : ChangeSpec := { name := "schedRounds", fn := fun _ => fun
  | [d1, d2] => { results := [.lit (.bool true)], args := [d1, d2] }
  | _ => none }
def schedRoundsRow : OpenClaim := { program := "ytfegglolblglpab", sum := "0ceac78dd8ce4302f4e9f0d5f83bf872d83b75bba59122ca8ae3dd634db6afaf", func := "hydrant/hydrantlaw09.SchedRounds", spec := "schedRounds", unfollowed := true, recurses := true, apart := false }
def SchedRoundsSaid : Prop := schedRoundsRow.holds Try.pinned (OpenSpec.ofChange schedRoundsSpec)

/-- ITS FALSE NEIGHBOUR: 'it returns false'. Refute it at one input. -/
def schedRoundsWrong : ChangeSpec := { name := "schedRounds", fn := fun _ => fun
  | [d1, d2] => { results := [.lit (.bool false)], args := [d1, d2] }
  | _ => none }
def SchedRoundsWrongFalsely : Prop := schedRoundsRow.holds Try.pinned (OpenSpec.ofChange schedRoundsWrong)

/- THE SECOND FORM. 'bulk': how many values and letters a reading holds, each counted each time it is reached (what is shared counts as often as it is met; a slice's spare places count too). A statement '..UptoSaid' is the law's where the arguments, and the package variables that the reading takes, are together of bulk at most 1048576: NARROWER than '..Said'. Prove '..Said' where nothing that the law and all that it calls make is longer than what came in: it says more and counts as full. Else prove '..UptoSaid'. A law counts once. -/
mutual
def uptoBulk {H : Type} : DataW H → Nat
  | .lit (.string bytes) => bytes.length + 1
  | .lit _ => 1
  | .nil => 1
  | .ptr d => uptoBulk d + 1
  | .slice elems spare => uptoBulkAll elems + uptoBulkAll spare + 1
  | .agg parts => uptoBulkAll parts + 1
  | .iface _ d => uptoBulk d + 1
  | .map entries => uptoBulkEntries entries + 1
  | .held _ => 1
def uptoBulkAll {H : Type} : List (DataW H) → Nat
  | [] => 0
  | d :: r => uptoBulk d + uptoBulkAll r
def uptoBulkEntries {H : Type} : List (Lit × DataW H) → Nat
  | [] => 0
  | x :: r => uptoBulkEntry x + uptoBulkEntries r
def uptoBulkEntry {H : Type} : Lit × DataW H → Nat
  | (.string bytes, d) => bytes.length + uptoBulk d + 1
  | (_, d) => uptoBulk d + 1
 end
def uptoSmall : (H : Type) → List (DataW H) → Bool := fun _ ds => decide (uptoBulkAll ds ≤ 1048576)
def OpenSpec.upto (s : _root_.Go.ChangeSpec) : _root_.Go.OpenSpec := { _root_.Go.OpenSpec.ofChange s with cond := some uptoSmall }

/-- 'hydrantlaw02.CellAccess', WHERE WHAT IT READS IS OF BULK AT MOST 1048576: true; the input reads as it did. -/
def cellAccessUptoRow : OpenClaim := { program := "ytfegglolblglpab", sum := "0ceac78dd8ce4302f4e9f0d5f83bf872d83b75bba59122ca8ae3dd634db6afaf", func := "hydrant/hydrantlaw02.CellAccess", spec := "cellAccess", inPlace := ["sync/atomic.StorePointer", "sync/atomic.AddInt64", "sync/atomic.LoadPointer", "sync/atomic.SwapPointer", "sync/atomic.CompareAndSwapPointer", "sync/atomic.LoadInt64"], apart := false, narrowed := true }
def CellAccessUptoSaid : Prop := cellAccessUptoRow.holds Try.pinned (OpenSpec.upto cellAccessSpec)

/-- 'hydrantlaw02.CellTexts', WHERE WHAT IT READS IS OF BULK AT MOST 1048576: true; the input reads as it did. -/
def cellTextsUptoRow : OpenClaim := { program := "ytfegglolblglpab", sum := "0ceac78dd8ce4302f4e9f0d5f83bf872d83b75bba59122ca8ae3dd634db6afaf", func := "hydrant/hydrantlaw02.CellTexts", spec := "cellTexts", inPlace := ["sync/atomic.StorePointer", "sync/atomic.AddInt64", "sync/atomic.LoadPointer", "sync/atomic.CompareAndSwapPointer", "sync/atomic.SwapPointer", "sync/atomic.LoadInt64"], apart := false, narrowed := true }
def CellTextsUptoSaid : Prop := cellTextsUptoRow.holds Try.pinned (OpenSpec.upto cellTextsSpec)

/-- 'hydrantlaw02.CellOnce', WHERE WHAT IT READS IS OF BULK AT MOST 1048576: true; the input reads as it did. -/
def cellOnceUptoRow : OpenClaim := { program := "ytfegglolblglpab", sum := "0ceac78dd8ce4302f4e9f0d5f83bf872d83b75bba59122ca8ae3dd634db6afaf", func := "hydrant/hydrantlaw02.CellOnce", spec := "cellOnce", inPlace := ["sync/atomic.StorePointer", "sync/atomic.AddInt64", "sync/atomic.SwapPointer", "sync/atomic.LoadPointer", "sync/atomic.CompareAndSwapPointer", "sync/atomic.LoadInt64"], apart := false, narrowed := true }
def CellOnceUptoSaid : Prop := cellOnceUptoRow.holds Try.pinned (OpenSpec.upto cellOnceSpec)

/-- 'hydrantlaw02.CellTwo', WHERE WHAT IT READS IS OF BULK AT MOST 1048576: true; the input reads as it did. -/
def cellTwoUptoRow : OpenClaim := { program := "ytfegglolblglpab", sum := "0ceac78dd8ce4302f4e9f0d5f83bf872d83b75bba59122ca8ae3dd634db6afaf", func := "hydrant/hydrantlaw02.CellTwo", spec := "cellTwo", inPlace := ["sync/atomic.StorePointer", "sync/atomic.AddInt64", "sync/atomic.SwapPointer", "sync/atomic.LoadPointer", "sync/atomic.CompareAndSwapPointer", "sync/atomic.LoadInt64"], apart := false, narrowed := true }
def CellTwoUptoSaid : Prop := cellTwoUptoRow.holds Try.pinned (OpenSpec.upto cellTwoSpec)

/-- 'hydrantlaw02.CellCas', WHERE WHAT IT READS IS OF BULK AT MOST 1048576: true; the input reads as it did. -/
def cellCasUptoRow : OpenClaim := { program := "ytfegglolblglpab", sum := "0ceac78dd8ce4302f4e9f0d5f83bf872d83b75bba59122ca8ae3dd634db6afaf", func := "hydrant/hydrantlaw02.CellCas", spec := "cellCas", inPlace := ["sync/atomic.StorePointer", "sync/atomic.AddInt64", "sync/atomic.LoadPointer", "sync/atomic.CompareAndSwapPointer", "sync/atomic.SwapPointer", "sync/atomic.LoadInt64"], apart := false, narrowed := true }
def CellCasUptoSaid : Prop := cellCasUptoRow.holds Try.pinned (OpenSpec.upto cellCasSpec)

/-- 'hydrantlaw09.SchedPicks', WHERE WHAT IT READS IS OF BULK AT MOST 1048576: true; the input reads as it did. -/
def schedPicksUptoRow : OpenClaim := { program := "ytfegglolblglpab", sum := "0ceac78dd8ce4302f4e9f0d5f83bf872d83b75bba59122ca8ae3dd634db6afaf", func := "hydrant/hydrantlaw09.SchedPicks", spec := "schedPicks", unfollowed := true, recurses := true, apart := false, narrowed := true }
def SchedPicksUptoSaid : Prop := schedPicksUptoRow.holds Try.pinned (OpenSpec.upto schedPicksSpec)

/-- 'hydrantlaw09.SchedFair', WHERE WHAT IT READS IS OF BULK AT MOST 1048576: true; the input reads as it did. -/
def schedFairUptoRow : OpenClaim := { program := "ytfegglolblglpab", sum := "0ceac78dd8ce4302f4e9f0d5f83bf872d83b75bba59122ca8ae3dd634db6afaf", func := "hydrant/hydrantlaw09.SchedFair", spec := "schedFair", unfollowed := true, recurses := true, apart := false, narrowed := true }
def SchedFairUptoSaid : Prop := schedFairUptoRow.holds Try.pinned (OpenSpec.upto schedFairSpec)

/-- 'hydrantlaw09.SchedMore', WHERE WHAT IT READS IS OF BULK AT MOST 1048576: true; the input reads as it did. -/
def schedMoreUptoRow : OpenClaim := { program := "ytfegglolblglpab", sum := "0ceac78dd8ce4302f4e9f0d5f83bf872d83b75bba59122ca8ae3dd634db6afaf", func := "hydrant/hydrantlaw09.SchedMore", spec := "schedMore", unfollowed := true, recurses := true, apart := false, narrowed := true }
def SchedMoreUptoSaid : Prop := schedMoreUptoRow.holds Try.pinned (OpenSpec.upto schedMoreSpec)

/-- 'hydrantlaw09.SchedRounds', WHERE WHAT IT READS IS OF BULK AT MOST 1048576: true; the input reads as it did. -/
def schedRoundsUptoRow : OpenClaim := { program := "ytfegglolblglpab", sum := "0ceac78dd8ce4302f4e9f0d5f83bf872d83b75bba59122ca8ae3dd634db6afaf", func := "hydrant/hydrantlaw09.SchedRounds", spec := "schedRounds", unfollowed := true, recurses := true, apart := false, narrowed := true }
def SchedRoundsUptoSaid : Prop := schedRoundsUptoRow.holds Try.pinned (OpenSpec.upto schedRoundsSpec)

end Rows
end Go.Proofs.Ytfegglolblglpab

/-
  No cell of these rows narrows 'for every input' (looked for: loops, veiled, ifaces, maps, wideKeys, modest, calm, conditions, laid).
  DERIVED. THE GIVEN ROWS OF THIS SEAT. 12 by the template 'for every input the law returns true; each argument reads behind the call as it read before'; 0 by the template 'total and deterministic' (their statements: YtfegglolblglpaaTotals.lean).
  GIVEN WITH THE SEED: the statements are not yours to turn. If you find one false, say at which input.
  Laid BY PROGRAM, IN A SANDBOX (cutbox-rows.mjs): the forced cells as the released guide's own fill.sh prints them over the translation 8222890997117237… (all of the seat's roots in one cut). By AI agents, Wed Nov 11 2026. No macro, syntax, notation, axiom, sorry.
-/
import Derived.Test.YtfegglolblglpaaChecked
import GoSem.Claim
import GoSem.ClaimJoined
import GoSem.ClaimMapViews
import Derived.JoinedTies
import Derived.KernelRfl
namespace Go.Proofs.Ytfegglolblglpaa
/- THE CELL 'sum', in the pinned program and in every row, IS THE sha256 OF THE DUMP (.gsa) THAT YtfegglolblglpaaProg.lean LOADS. Nothing in Lean hashes anything: it is a label: what it is worth is what the hold of that sum in a sandbox is worth. -/
noncomputable def Try.pinned : Pinned := { name := "ytfegglolblglpaa", sum := "8222890997117237466dc1c49843674d50270c2c8be6df138a4040aad34971a9", checked := Try.checked }
namespace Rows
def none {H : Type} : Left H := { results := [], args := [] }

/-- 'hydrantlaw12.TurnsTell': WHATEVER THE INPUT: true; the input reads as it did. -/
def turnsTellSpec : ChangeSpec := { name := "turnsTell", fn := fun _ => fun
  | [d1, d2, d3] => { results := [.lit (.bool true)], args := [d1, d2, d3] }
  | _ => none }
def turnsTellRow : OpenClaim := { program := "ytfegglolblglpaa", sum := "8222890997117237466dc1c49843674d50270c2c8be6df138a4040aad34971a9", func := "hydrant/hydrantlaw12.TurnsTell", spec := "turnsTell", unfollowed := true, recurses := true, apart := false }
def TurnsTellSaid : Prop := turnsTellRow.holds Try.pinned (OpenSpec.ofChange turnsTellSpec)

/-- ITS FALSE NEIGHBOUR: 'it returns false'. Refute it at one input. -/
def turnsTellWrong : ChangeSpec := { name := "turnsTell", fn := fun _ => fun
  | [d1, d2, d3] => { results := [.lit (.bool false)], args := [d1, d2, d3] }
  | _ => none }
def TurnsTellWrongFalsely : Prop := turnsTellRow.holds Try.pinned (OpenSpec.ofChange turnsTellWrong)

/-- 'hydrantlaw12.TurnsHealthy': WHATEVER THE INPUT: true; the input reads as it did. -/
def turnsHealthySpec : ChangeSpec := { name := "turnsHealthy", fn := fun _ => fun
  | [d1, d2] => { results := [.lit (.bool true)], args := [d1, d2] }
  | _ => none }
def turnsHealthyRow : OpenClaim := { program := "ytfegglolblglpaa", sum := "8222890997117237466dc1c49843674d50270c2c8be6df138a4040aad34971a9", func := "hydrant/hydrantlaw12.TurnsHealthy", spec := "turnsHealthy", unfollowed := true, recurses := true, apart := false }
def TurnsHealthySaid : Prop := turnsHealthyRow.holds Try.pinned (OpenSpec.ofChange turnsHealthySpec)

/-- ITS FALSE NEIGHBOUR: 'it returns false'. Refute it at one input. -/
def turnsHealthyWrong : ChangeSpec := { name := "turnsHealthy", fn := fun _ => fun
  | [d1, d2] => { results := [.lit (.bool false)], args := [d1, d2] }
  | _ => none }
def TurnsHealthyWrongFalsely : Prop := turnsHealthyRow.holds Try.pinned (OpenSpec.ofChange turnsHealthyWrong)

/-- 'hydrantlaw12.TurnsSpread': WHATEVER THE INPUT: true; the input reads as it did. -/
def turnsSpreadSpec : ChangeSpec := { name := "turnsSpread", fn := fun _ => fun
  | [d1, d2, d3] => { results := [.lit (.bool true)], args := [d1, d2, d3] }
  | _ => none }
def turnsSpreadRow : OpenClaim := { program := "ytfegglolblglpaa", sum := "8222890997117237466dc1c49843674d50270c2c8be6df138a4040aad34971a9", func := "hydrant/hydrantlaw12.TurnsSpread", spec := "turnsSpread", unfollowed := true, recurses := true, apart := false }
def TurnsSpreadSaid : Prop := turnsSpreadRow.holds Try.pinned (OpenSpec.ofChange turnsSpreadSpec)

/-- ITS FALSE NEIGHBOUR: 'it returns false'. Refute it at one input. -/
def turnsSpreadWrong : ChangeSpec := { name := "turnsSpread", fn := fun _ => fun
  | [d1, d2, d3] => { results := [.lit (.bool false)], args := [d1, d2, d3] }
  | _ => none }
def TurnsSpreadWrongFalsely : Prop := turnsSpreadRow.holds Try.pinned (OpenSpec.ofChange turnsSpreadWrong)

/-- 'hydrantlaw12.TurnsRound': WHATEVER THE INPUT: true; the input reads as it did. -/
def turnsRoundSpec : ChangeSpec := { name := "turnsRound", fn := fun _ => fun
  | [d1, d2] => { results := [.lit (.bool true)], args := [d1, d2] }
  | _ => none }
def turnsRoundRow : OpenClaim := { program := "ytfegglolblglpaa", sum := "8222890997117237466dc1c49843674d50270c2c8be6df138a4040aad34971a9", func := "hydrant/hydrantlaw12.TurnsRound", spec := "turnsRound", unfollowed := true, recurses := true, apart := false }
def TurnsRoundSaid : Prop := turnsRoundRow.holds Try.pinned (OpenSpec.ofChange turnsRoundSpec)

/-- ITS FALSE NEIGHBOUR: 'it returns false'. Refute it at one input. -/
def turnsRoundWrong : ChangeSpec := { name := "turnsRound", fn := fun _ => fun
  | [d1, d2] => { results := [.lit (.bool false)], args := [d1, d2] }
  | _ => none }
def TurnsRoundWrongFalsely : Prop := turnsRoundRow.holds Try.pinned (OpenSpec.ofChange turnsRoundWrong)

/-- 'hydrantlaw11.ShardAdds': WHATEVER THE INPUT: true; the input reads as it did. -/
def shardAddsSpec : ChangeSpec := { name := "shardAdds", fn := fun _ => fun
  | [d1, d2, d3] => { results := [.lit (.bool true)], args := [d1, d2, d3] }
  | _ => none }
def shardAddsRow : OpenClaim := { program := "ytfegglolblglpaa", sum := "8222890997117237466dc1c49843674d50270c2c8be6df138a4040aad34971a9", func := "hydrant/hydrantlaw11.ShardAdds", spec := "shardAdds", apart := false }
def ShardAddsSaid : Prop := shardAddsRow.holds Try.pinned (OpenSpec.ofChange shardAddsSpec)

/-- ITS FALSE NEIGHBOUR: 'it returns false'. Refute it at one input. -/
def shardAddsWrong : ChangeSpec := { name := "shardAdds", fn := fun _ => fun
  | [d1, d2, d3] => { results := [.lit (.bool false)], args := [d1, d2, d3] }
  | _ => none }
def ShardAddsWrongFalsely : Prop := shardAddsRow.holds Try.pinned (OpenSpec.ofChange shardAddsWrong)

/-- 'hydrantlaw11.ShardOne': WHATEVER THE INPUT: true; the input reads as it did. -/
def shardOneSpec : ChangeSpec := { name := "shardOne", fn := fun _ => fun
  | [d1, d2, d3] => { results := [.lit (.bool true)], args := [d1, d2, d3] }
  | _ => none }
def shardOneRow : OpenClaim := { program := "ytfegglolblglpaa", sum := "8222890997117237466dc1c49843674d50270c2c8be6df138a4040aad34971a9", func := "hydrant/hydrantlaw11.ShardOne", spec := "shardOne", apart := false }
def ShardOneSaid : Prop := shardOneRow.holds Try.pinned (OpenSpec.ofChange shardOneSpec)

/-- ITS FALSE NEIGHBOUR: 'it returns false'. Refute it at one input. -/
def shardOneWrong : ChangeSpec := { name := "shardOne", fn := fun _ => fun
  | [d1, d2, d3] => { results := [.lit (.bool false)], args := [d1, d2, d3] }
  | _ => none }
def ShardOneWrongFalsely : Prop := shardOneRow.holds Try.pinned (OpenSpec.ofChange shardOneWrong)

/-- 'hydrantlaw11.ShardOrder': WHATEVER THE INPUT: true; the input reads as it did. -/
def shardOrderSpec : ChangeSpec := { name := "shardOrder", fn := fun _ => fun
  | [d1, d2, d3, d4, d5] => { results := [.lit (.bool true)], args := [d1, d2, d3, d4, d5] }
  | _ => none }
def shardOrderRow : OpenClaim := { program := "ytfegglolblglpaa", sum := "8222890997117237466dc1c49843674d50270c2c8be6df138a4040aad34971a9", func := "hydrant/hydrantlaw11.ShardOrder", spec := "shardOrder", apart := false }
def ShardOrderSaid : Prop := shardOrderRow.holds Try.pinned (OpenSpec.ofChange shardOrderSpec)

/-- ITS FALSE NEIGHBOUR: 'it returns false'. Refute it at one input. -/
def shardOrderWrong : ChangeSpec := { name := "shardOrder", fn := fun _ => fun
  | [d1, d2, d3, d4, d5] => { results := [.lit (.bool false)], args := [d1, d2, d3, d4, d5] }
  | _ => none }
def ShardOrderWrongFalsely : Prop := shardOrderRow.holds Try.pinned (OpenSpec.ofChange shardOrderWrong)

/-- 'hydrantlaw11.ShardMany': WHATEVER THE INPUT: true; the input reads as it did. -/
def shardManySpec : ChangeSpec := { name := "shardMany", fn := fun _ => fun
  | [d1, d2] => { results := [.lit (.bool true)], args := [d1, d2] }
  | _ => none }
def shardManyRow : OpenClaim := { program := "ytfegglolblglpaa", sum := "8222890997117237466dc1c49843674d50270c2c8be6df138a4040aad34971a9", func := "hydrant/hydrantlaw11.ShardMany", spec := "shardMany", apart := false }
def ShardManySaid : Prop := shardManyRow.holds Try.pinned (OpenSpec.ofChange shardManySpec)

/-- ITS FALSE NEIGHBOUR: 'it returns false'. Refute it at one input. -/
def shardManyWrong : ChangeSpec := { name := "shardMany", fn := fun _ => fun
  | [d1, d2] => { results := [.lit (.bool false)], args := [d1, d2] }
  | _ => none }
def ShardManyWrongFalsely : Prop := shardManyRow.holds Try.pinned (OpenSpec.ofChange shardManyWrong)

/-- 'hydrantlaw13.LeastPicks': WHATEVER THE INPUT: true; the input reads as it did. -/
def leastPicksSpec : ChangeSpec := { name := "leastPicks", fn := fun _ => fun
  | [d1, d2, d3, d4] => { results := [.lit (.bool true)], args := [d1, d2, d3, d4] }
  | _ => none }
def leastPicksRow : OpenClaim := { program := "ytfegglolblglpaa", sum := "8222890997117237466dc1c49843674d50270c2c8be6df138a4040aad34971a9", func := "hydrant/hydrantlaw13.LeastPicks", spec := "leastPicks", unfollowed := true, recurses := true, apart := false }
def LeastPicksSaid : Prop := leastPicksRow.holds Try.pinned (OpenSpec.ofChange leastPicksSpec)

/-- ITS FALSE NEIGHBOUR: 'it returns false'. Refute it at one input. -/
def leastPicksWrong : ChangeSpec := { name := "leastPicks", fn := fun _ => fun
  | [d1, d2, d3, d4] => { results := [.lit (.bool false)], args := [d1, d2, d3, d4] }
  | _ => none }
def LeastPicksWrongFalsely : Prop := leastPicksRow.holds Try.pinned (OpenSpec.ofChange leastPicksWrong)

/-- 'hydrantlaw13.LeastDrawn': WHATEVER THE INPUT: true; the input reads as it did. -/
def leastDrawnSpec : ChangeSpec := { name := "leastDrawn", fn := fun _ => fun
  | [d1, d2, d3, d4] => { results := [.lit (.bool true)], args := [d1, d2, d3, d4] }
  | _ => none }
def leastDrawnRow : OpenClaim := { program := "ytfegglolblglpaa", sum := "8222890997117237466dc1c49843674d50270c2c8be6df138a4040aad34971a9", func := "hydrant/hydrantlaw13.LeastDrawn", spec := "leastDrawn", unfollowed := true, recurses := true, apart := false }
def LeastDrawnSaid : Prop := leastDrawnRow.holds Try.pinned (OpenSpec.ofChange leastDrawnSpec)

/-- ITS FALSE NEIGHBOUR: 'it returns false'. Refute it at one input. -/
def leastDrawnWrong : ChangeSpec := { name := "leastDrawn", fn := fun _ => fun
  | [d1, d2, d3, d4] => { results := [.lit (.bool false)], args := [d1, d2, d3, d4] }
  | _ => none }
def LeastDrawnWrongFalsely : Prop := leastDrawnRow.holds Try.pinned (OpenSpec.ofChange leastDrawnWrong)

/-- 'hydrantlaw13.LeastSwap': WHATEVER THE INPUT: true; the input reads as it did. -/
def leastSwapSpec : ChangeSpec := { name := "leastSwap", fn := fun _ => fun
  | [d1, d2, d3, d4] => { results := [.lit (.bool true)], args := [d1, d2, d3, d4] }
  | _ => none }
def leastSwapRow : OpenClaim := { program := "ytfegglolblglpaa", sum := "8222890997117237466dc1c49843674d50270c2c8be6df138a4040aad34971a9", func := "hydrant/hydrantlaw13.LeastSwap", spec := "leastSwap", unfollowed := true, recurses := true, apart := false }
def LeastSwapSaid : Prop := leastSwapRow.holds Try.pinned (OpenSpec.ofChange leastSwapSpec)

/-- ITS FALSE NEIGHBOUR: 'it returns false'. Refute it at one input. -/
def leastSwapWrong : ChangeSpec := { name := "leastSwap", fn := fun _ => fun
  | [d1, d2, d3, d4] => { results := [.lit (.bool false)], args := [d1, d2, d3, d4] }
  | _ => none }
def LeastSwapWrongFalsely : Prop := leastSwapRow.holds Try.pinned (OpenSpec.ofChange leastSwapWrong)

/-- 'hydrantlaw13.LeastTurns': WHATEVER THE INPUT: true; the input reads as it did. -/
def leastTurnsSpec : ChangeSpec := { name := "leastTurns", fn := fun _ => fun
  | [d1, d2, d3, d4] => { results := [.lit (.bool true)], args := [d1, d2, d3, d4] }
  | _ => none }
def leastTurnsRow : OpenClaim := { program := "ytfegglolblglpaa", sum := "8222890997117237466dc1c49843674d50270c2c8be6df138a4040aad34971a9", func := "hydrant/hydrantlaw13.LeastTurns", spec := "leastTurns", unfollowed := true, recurses := true, apart := false }
def LeastTurnsSaid : Prop := leastTurnsRow.holds Try.pinned (OpenSpec.ofChange leastTurnsSpec)

/-- ITS FALSE NEIGHBOUR: 'it returns false'. Refute it at one input. -/
def leastTurnsWrong : ChangeSpec := { name := "leastTurns", fn := fun _ => fun
  | [d1, d2, d3, d4] => { results := [.lit (.bool false)], args := [d1, d2, d3, d4] }
  | _ => none }
def LeastTurnsWrongFalsely : Prop := leastTurnsRow.holds Try.pinned (OpenSpec.ofChange leastTurnsWrong)

/- THE SECOND FORM. 'bulk': how many values and letters a reading holds, each counted each time it is reached (what is shared counts as often as it is met; a slice's spare places count too). A statement '..UptoSaid' is the law's where the arguments, and the package variables that the reading takes, are together of bulk at most 1048576: NARROWER than '..Said'. Prove '..Said' where nothing that the law and all that it calls make is longer than what came in: it says more and counts as full. Else prove '..UptoSaid'. A law counts once. -/
mutual
def uptoBulk {H : Type} : DataW H → Nat
  | .lit (.string bytes) => bytes.length + 1
  | .lit _ => 1
  | .nil => 1
  | .ptr d => uptoBulk d + 1
  | .slice elems spare => uptoBulkAll elems + uptoBulkAll spare + 1
  | .agg parts => uptoBulkAll parts + 1
  | .iface _ d => uptoBulk d + 1
  | .map entries => uptoBulkEntries entries + 1
  | .held _ => 1
def uptoBulkAll {H : Type} : List (DataW H) → Nat
  | [] => 0
  | d :: r => uptoBulk d + uptoBulkAll r
def uptoBulkEntries {H : Type} : List (Lit × DataW H) → Nat
  | [] => 0
  | x :: r => uptoBulkEntry x + uptoBulkEntries r
def uptoBulkEntry {H : Type} : Lit × DataW H → Nat
  | (.string bytes, d) => bytes.length + uptoBulk d + 1
  | (_, d) => uptoBulk d + 1
 end
def uptoSmall : (H : Type) → List (DataW H) → Bool := fun _ ds => decide (uptoBulkAll ds ≤ 1048576)
def OpenSpec.upto (s : _root_.Go.ChangeSpec) : _root_.Go.OpenSpec := { _root_.Go.OpenSpec.ofChange s with cond := some uptoSmall }

/-- 'hydrantlaw12.TurnsTell', WHERE WHAT IT READS IS OF BULK AT MOST 1048576: true; the input reads as it did. -/
def turnsTellUptoRow : OpenClaim := { program := "ytfegglolblglpaa", sum := "8222890997117237466dc1c49843674d50270c2c8be6df138a4040aad34971a9", func := "hydrant/hydrantlaw12.TurnsTell", spec := "turnsTell", unfollowed := true, recurses := true, apart := false, narrowed := true }
def TurnsTellUptoSaid : Prop := turnsTellUptoRow.holds Try.pinned (OpenSpec.upto turnsTellSpec)

/-- 'hydrantlaw12.TurnsHealthy', WHERE WHAT IT READS IS OF BULK AT MOST 1048576: true; the input reads as it did. -/
def turnsHealthyUptoRow : OpenClaim := { program := "ytfegglolblglpaa", sum := "8222890997117237466dc1c49843674d50270c2c8be6df138a4040aad34971a9", func := "hydrant/hydrantlaw12.TurnsHealthy", spec := "turnsHealthy", unfollowed := true, recurses := true, apart := false, narrowed := true }
def TurnsHealthyUptoSaid : Prop := turnsHealthyUptoRow.holds Try.pinned (OpenSpec.upto turnsHealthySpec)

/-- 'hydrantlaw12.TurnsSpread', WHERE WHAT IT READS IS OF BULK AT MOST 1048576: true; the input reads as it did. -/
def turnsSpreadUptoRow : OpenClaim := { program := "ytfegglolblglpaa", sum := "8222890997117237466dc1c49843674d50270c2c8be6df138a4040aad34971a9", func := "hydrant/hydrantlaw12.TurnsSpread", spec := "turnsSpread", unfollowed := true, recurses := true, apart := false, narrowed := true }
def TurnsSpreadUptoSaid : Prop := turnsSpreadUptoRow.holds Try.pinned (OpenSpec.upto turnsSpreadSpec)

/-- 'hydrantlaw12.TurnsRound', WHERE WHAT IT READS IS OF BULK AT MOST 1048576: true; the input reads as it did. -/
def turnsRoundUptoRow : OpenClaim := { program := "ytfegglolblglpaa", sum := "8222890997117237466dc1c49843674d50270c2c8be6df138a4040aad34971a9", func := "hydrant/hydrantlaw12.TurnsRound", spec := "turnsRound", unfollowed := true, recurses := true, apart := false, narrowed := true }
def TurnsRoundUptoSaid : Prop := turnsRoundUptoRow.holds Try.pinned (OpenSpec.upto turnsRoundSpec)

/-- 'hydrantlaw11.ShardAdds', WHERE WHAT IT READS IS OF BULK AT MOST 1048576: true; the input reads as it did. -/
def shardAddsUptoRow : OpenClaim := { program := "ytfegglolblglpaa", sum := "8222890997117237466dc1c49843674d50270c2c8be6df138a4040aad34971a9", func := "hydrant/hydrantlaw11.ShardAdds", spec := "shardAdds", apart := false, narrowed := true }
def ShardAddsUptoSaid : Prop := shardAddsUptoRow.holds Try.pinned (OpenSpec.upto shardAddsSpec)

/-- 'hydrantlaw11.ShardOne', WHERE WHAT IT READS IS OF BULK AT MOST 1048576: true; the input reads as it did. -/
def shardOneUptoRow : OpenClaim := { program := "ytfegglolblglpaa", sum := "8222890997117237466dc1c49843674d50270c2c8be6df138a4040aad34971a9", func := "hydrant/hydrantlaw11.ShardOne", spec := "shardOne", apart := false, narrowed := true }
def ShardOneUptoSaid : Prop := shardOneUptoRow.holds Try.pinned (OpenSpec.upto shardOneSpec)

/-- 'hydrantlaw11.ShardOrder', WHERE WHAT IT READS IS OF BULK AT MOST 1048576: true; the input reads as it did. -/
def shardOrderUptoRow : OpenClaim := { program := "ytfegglolblglpaa", sum := "8222890997117237466dc1c49843674d50270c2c8be6df138a4040aad34971a9", func := "hydrant/hydrantlaw11.ShardOrder", spec := "shardOrder", apart := false, narrowed := true }
def ShardOrderUptoSaid : Prop := shardOrderUptoRow.holds Try.pinned (OpenSpec.upto shardOrderSpec)

/-- 'hydrantlaw11.ShardMany', WHERE WHAT IT READS IS OF BULK AT MOST 1048576: true; the input reads as it did. -/
def shardManyUptoRow : OpenClaim := { program := "ytfegglolblglpaa", sum := "8222890997117237466dc1c49843674d50270c2c8be6df138a4040aad34971a9", func := "hydrant/hydrantlaw11.ShardMany", spec := "shardMany", apart := false, narrowed := true }
def ShardManyUptoSaid : Prop := shardManyUptoRow.holds Try.pinned (OpenSpec.upto shardManySpec)

/-- 'hydrantlaw13.LeastPicks', WHERE WHAT IT READS IS OF BULK AT MOST 1048576: true; the input reads as it did. -/
def leastPicksUptoRow : OpenClaim := { program := "ytfegglolblglpaa", sum := "8222890997117237466dc1c49843674d50270c2c8be6df138a4040aad34971a9", func := "hydrant/hydrantlaw13.LeastPicks", spec := "leastPicks", unfollowed := true, recurses := true, apart := false, narrowed := true }
def LeastPicksUptoSaid : Prop := leastPicksUptoRow.holds Try.pinned (OpenSpec.upto leastPicksSpec)

/-- 'hydrantlaw13.LeastDrawn', WHERE WHAT IT READS IS OF BULK AT MOST 1048576: true; the input reads as it did. -/
def leastDrawnUptoRow : OpenClaim := { program := "ytfegglolblglpaa", sum := "8222890997117237466dc1c49843674d50270c2c8be6df138a4040aad34971a9", func := "hydrant/hydrantlaw13.LeastDrawn", spec := "leastDrawn", unfollowed := true, recurses := true, apart := false, narrowed := true }
def LeastDrawnUptoSaid : Prop := leastDrawnUptoRow.holds Try.pinned (OpenSpec.upto leastDrawnSpec)

/-- 'hydrantlaw13.LeastSwap', WHERE WHAT IT READS IS OF BULK AT MOST 1048576: true; the input reads as it did. -/
def leastSwapUptoRow : OpenClaim := { program := "ytfegglolblglpaa", sum := "8222890997117237466dc1c49843674d50270c2c8be6df138a4040aad34971a9", func := "hydrant/hydrantlaw13.LeastSwap", spec := "leastSwap", unfollowed := true, recurses := true, apart := false, narrowed := true }
def LeastSwapUptoSaid : Prop := leastSwapUptoRow.holds Try.pinned (OpenSpec.upto leastSwapSpec)

/-- 'hydrantlaw13.LeastTurns', WHERE WHAT IT READS IS OF BULK AT MOST 1048576: true; the input reads as it did. -/
def leastTurnsUptoRow : OpenClaim := { program := "ytfegglolblglpaa", sum := "8222890997117237466dc1c49843674d50270c2c8be6df138a4040aad34971a9", func := "hydrant/hydrantlaw13.LeastTurns", spec := "leastTurns", unfollowed := true, recurses := true, apart := false, narrowed := true }
def LeastTurnsUptoSaid : Prop := leastTurnsUptoRow.holds Try.pinned (OpenSpec.upto leastTurnsSpec)

end Rows
end Go.Proofs.Ytfegglolblglpaa

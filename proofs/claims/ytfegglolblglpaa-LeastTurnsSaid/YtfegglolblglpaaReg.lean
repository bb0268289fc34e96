/-
  A region that draws its order, whose first operation is a call that comes up ahead of all others, and whose other operations only read: the call, then the text's own order.
-/
import Derived.Deep.QuietTactic
import Derived.BigQuiet
import Derived.RegionTactic
import Derived.WalkKit
namespace Go.Proofs.Ytfegglolblglpaa
open Go.RowKit

theorem wp_region_first {P : Program} {id : Nat} {Q : Exit → Act → World → Prop} {a : Act} {w : World} {o : Oper} {rest : List Oper} (hm : P.follows .mixedOrders = true)
    (hr : Region.ready .any (o :: rest).toArray (Array.replicate (rest.length + 1) false) = [0]) (hs : Region.noSelect (o :: rest).toArray = true)
    (hx : Region.lexFrom .any (o :: rest).toArray rest.length 1 ((Array.replicate (rest.length + 1) false).setIfInBounds 0 true) = true) (hg : o.guard = none)
    (h : ∀ K : Act → World → Prop, (∀ a' w', wpQuiet P (o :: rest).toArray (fun w'' => ∃ n, w'' = w'.drewN n) (fun a'' => ∀ w'', (∃ n, w'' = w'.drewN n) → Q .normal a'' w'') rest a' → K a' w') → o.wp P a w.drew K Q) :
    (Code.region id (o :: rest).toArray true).wp P Q a w := by
  refine wp_region_any hm ?_
  show wpAny P .any (o :: rest).toArray Q (rest.length + 1) (Array.replicate (rest.length + 1) false) a w.drew
  refine wpAny_all hr (by simp) ?_
  intro i hi
  obtain rfl : i = 0 := by simpa using hi
  refine wpOp_step (o := o) rfl fun K' hK => ?_
  rw [if_pos (by simp [Region.wanted, hg])]
  refine h K' fun a' w' hq => hK a' w' ?_
  refine wpAny_of_quiet (C := fun w'' => ∃ n, w'' = w'.drewN n) (Q := fun a'' => ∀ w'', (∃ n, w'' = w'.drewN n) → Q .normal a'' w'') (fun _ w'' hw'' h => h w'' hw'') _ _ _ _ ⟨0, rfl⟩ ?_
  exact wpAnyQ_lex hs rest 1 _ a' (fun j => by simp [Nat.add_comm 1 j]) hx hq

end Go.Proofs.Ytfegglolblglpaa

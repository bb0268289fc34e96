/-
  The library's atomic pointers in the run of one goroutine: what a load, a store, a swap and a compare-and-swap that hits do to the cell.
-/
import Derived.WalkKit
import Derived.WalkSpells
import Derived.LaidEql
import Derived.Test.YtfegglolblglpabProg
namespace Go.Proofs.Ytfegglolblglpab
open Go
variable {P : Program} {f : FuncId} {fn : Func}

theorem call_loadp (hf : P.funcs[f]? = some fn) (hname : (fn.name == "runtime.NumGoroutine") = false) (hb : fn.body.isNone = true) (hn : Extern.findNext fn = none)
    (he : Extern.find fn = some (Extern.Atomic.loadT .ptr)) {a : Addr} {p : Option Addr} {w : World} (hc : w.cell? a = some (.pointer p)) :
    (callFunc f #[.pointer (some a)]).run P w = .ok (.value (.pointer p)) w := by
  rw [run_callFunc_extern hf hname hb hn he]
  show (Sem.run P (do Extern.Atomic.read .ptr (← asAddr (.pointer (some a)))) w).andThen _ = _
  simp [Extern.Atomic.read, asAddr, hc, Result.andThen]

theorem call_storep (hf : P.funcs[f]? = some fn) (hname : (fn.name == "runtime.NumGoroutine") = false) (hb : fn.body.isNone = true) (hn : Extern.findNext fn = none)
    (he : Extern.find fn = some Extern.Atomic.storeT) {a : Addr} {p : Option Addr} {u : Value} {w : World} (hc : w.cell? a = some u) (hz : w.frozen? a = false) :
    (callFunc f #[.pointer (some a), .pointer p]).run P w = .ok (.value (.tuple #[])) (w.setCell a (.pointer p)) := by
  rw [run_callFunc_extern hf hname hb hn he]
  show (Sem.run P (do
    store (← asAddr (.pointer (some a))) (.pointer p) .atomic
    pure Extern.Atomic.none_) w).andThen _ = _
  simp [asAddr, hc, hz, run_store P w a (.pointer p) .atomic rfl, Result.andThen, Extern.Atomic.none_]

theorem call_swapp (hf : P.funcs[f]? = some fn) (hname : (fn.name == "runtime.NumGoroutine") = false) (hb : fn.body.isNone = true) (hn : Extern.findNext fn = none)
    (he : Extern.find fn = some (Extern.Atomic.swapT .ptr)) {a : Addr} {p o : Option Addr} {w : World} (hc : w.cell? a = some (.pointer o)) (hz : w.frozen? a = false) :
    (callFunc f #[.pointer (some a), .pointer p]).run P w = .ok (.value (.pointer o)) (w.setCell a (.pointer p)) := by
  rw [run_callFunc_extern hf hname hb hn he]
  show (Sem.run P (do
    let a' ← asAddr (.pointer (some a))
    let old ← Extern.Atomic.read .ptr a'
    store a' (.pointer p) .atomic
    pure old) w).andThen _ = _
  simp [Extern.Atomic.read, asAddr, hc, hz, run_store P w a (.pointer p) .atomic rfl, Result.andThen]

theorem call_casp (hf : P.funcs[f]? = some fn) (hname : (fn.name == "runtime.NumGoroutine") = false) (hb : fn.body.isNone = true) (hn : Extern.findNext fn = none)
    (he : Extern.find fn = some (Extern.Atomic.casT .ptr)) {a : Addr} {o : Addr} {p : Option Addr} {w : World} (hc : w.cell? a = some (.pointer (some o))) (hz : w.frozen? a = false) :
    (callFunc f #[.pointer (some a), .pointer (some o), .pointer p]).run P w = .ok (.value (.bool true)) (w.setCell a (.pointer p)) := by
  rw [run_callFunc_extern hf hname hb hn he]
  change (Sem.run P (do
    let a' ← asAddr (.pointer (some a))
    if ← Extern.Atomic.touchesFrozen a' then unsupported (.unsafePointer "a write to bytes that a string shares")
    let eq ← match Extern.Atomic.T.ptr, ← Extern.Atomic.read .ptr a', Value.pointer (some o) with
      | _, .int _ x, .int _ y => pure (x == y)
      | .ptr, .pointer x, .pointer y => samePointer x y
      | .int _, .pointer (some _), .int _ 0 | .int _, .int _ 0, .pointer (some _) => pure false
      | .int _, .pointer (some _), _ | .int _, _, .pointer (some _) => unsupported .addressObserved
      | _, _, _ => stuck "atomic.CompareAndSwap: old is no T"
    if eq then store a' (.pointer p) .atomic
    pure (Value.bool eq)) w).andThen _ = _
  simp [Extern.Atomic.touchesFrozen, Extern.Atomic.read, asAddr, viewAt, World.shape?_isSome_of_cell? hc, hc, hz, samePointer, run_sameAddr_same, run_store P w a (.pointer p) .atomic rfl, Result.andThen]

/-- Back from an untyped pointer, where a variable of the wanted type lies. -/
theorem convert_back {src dst t : TypeId} (hs : P.underlying src = some .unsafePointer) (hd : P.underlying dst = some (.pointer t)) {i : TypeInfo} (hi : P.info? t = some i)
    (hl : liesAt P P.depth t (1 / P.cellsOf t) 0 t 1 = true) {b : Nat} {v : Value} {w : World} (hb : w.heap[b]? = some (.cells #[v] t (0, 0))) :
    (convert src dst (.pointer (some ⟨b, 0, none⟩))).run P w = .ok (.pointer (some ⟨b, 0, none⟩)) w := by
  have hsh : w.shape? b = some (t, 1) := by simp [World.shape?, hb]
  simp [convert, Conv.unsafePointer, Conv.seenAt, viewAt, run_underlying hs, run_underlying hd, hsh, variablesAt, sizeOf, typeInfo, hi, hl, Result.andThen]

end Go.Proofs.Ytfegglolblglpab

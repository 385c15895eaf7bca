/- More words for walks whose calls make new memory and leave the old memory alone. No condition. -/
import Derived.Test.YtlekjobicpnafaaBase
namespace Go.Proofs.Ytlekjobicpnafaa.Base
open Go Go.RowKit
/-- A contract over all later worlds, met in one of them. -/
theorem calls_of_ex {P : Program} {f : FuncId} {args : Array Value} {w w' : World} {R : Ending → World → Prop} (h : ∀ x : Ext w, Calls P f args (w.ext x) R) (hw : ∃ x : Ext w, w' = w.ext x) : Calls P f args w' R := by
  obtain ⟨x, rfl⟩ := hw; exact h x
end Go.Proofs.Ytlekjobicpnafaa.Base

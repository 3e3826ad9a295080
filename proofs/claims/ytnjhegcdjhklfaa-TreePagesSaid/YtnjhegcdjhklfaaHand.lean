/- The contracts of the tree's functions, and of the examples at the head of its laws: they hold. -/
import Derived.Test.YtnjhegcdjhklfaaBase
import Derived.Test.YtnjhegcdjhklfaaPheadx2
namespace Go.Proofs.Ytnjhegcdjhklfaa.Hand
open Go Go.RowKit Go.Proofs.YtnjhegcdjhklfaaW.PrintWords

theorem head_true : Phead.slotmeshlaw35_head.f 20 = some true := by decide +kernel

/-- The examples at the head of the tree's laws hold. -/
theorem Head_calls (r : Bool) (w : World) (h : some true = some r) :
    Calls Try.prog 24 #[] w fun e w' => e = .returned (.bool r) ∧ Below w.heap.size w w' := by
  obtain rfl := Option.some.inj h
  exact Phead.slotmeshlaw35_head.calls 20 true w head_true rfl

end Go.Proofs.Ytnjhegcdjhklfaa.Hand

/- The plain statement of the law HeapNil: the function that its walk is told by says true. -/
import Derived.Test.YtpgnefojifiopaaLwHeapNil
namespace Go.Proofs.Ytpgnefojifiopaa.Pure
open Go.RowKit Go.Proofs.Ytpgnefojifiopaa.Heap Go.Proofs.YtpgnefojifiopaaW.PrintWords

theorem HeapNil : ∀ (a0 : Int), ((Lit.int .i64 a0).wf = true) → waypointlaw03_HeapNil.f a0 = some true := fun _ _ => rfl

end Go.Proofs.Ytpgnefojifiopaa.Pure

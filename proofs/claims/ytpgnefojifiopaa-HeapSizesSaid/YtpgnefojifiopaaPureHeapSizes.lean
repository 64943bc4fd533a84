/- The plain statement of the law HeapSizes: the function that its walk is told by says true. -/
import Derived.Test.YtpgnefojifiopaaLwHeapSizes
namespace Go.Proofs.Ytpgnefojifiopaa.Pure
open Go.RowKit Go.Proofs.Ytpgnefojifiopaa.Heap Go.Proofs.YtpgnefojifiopaaW.PrintWords

theorem HeapSizes : ∀ (a0 : Int), ((Lit.int .i64 a0).wf = true) → waypointlaw03_HeapSizes.f a0 = some true := fun _ _ => rfl

end Go.Proofs.Ytpgnefojifiopaa.Pure

/- The plain statement of the law HeapSorts: the function that its walk is told by says true. -/
import Derived.Test.YtpgnefojifiopaaLwHeapSorts
namespace Go.Proofs.Ytpgnefojifiopaa.Pure
open Go.RowKit Go.Proofs.Ytpgnefojifiopaa.Heap Go.Proofs.YtpgnefojifiopaaW.PrintWords

theorem HeapSorts : ∀ (l0 : (List Int)), (l0.length * 8 ≤ 140737488351232 ∧ ∀ x ∈ l0, (Lit.int .i64 x).wf = true) → waypointlaw03_HeapSorts.f l0 = some true := fun _ _ => rfl

end Go.Proofs.Ytpgnefojifiopaa.Pure

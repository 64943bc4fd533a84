/- The plain statement of the law HeapChanged: the function that its walk is told by says true. -/
import Derived.Test.YtpgnefojifiopaaLwHeapChanged
namespace Go.Proofs.Ytpgnefojifiopaa.Pure
open Go.RowKit Go.Proofs.Ytpgnefojifiopaa.Heap Go.Proofs.YtpgnefojifiopaaW.PrintWords

theorem HeapChanged : ∀ (l0 : (List Int)) (l1 : (List S37)) (l2 : (List Int)), (l0.length * 8 ≤ 140737488351232 ∧ ∀ x ∈ l0, (Lit.int .i64 x).wf = true) → (l1.length * 16 ≤ 140737488351232 ∧ ∀ x ∈ l1, ((Lit.int .i64 x.f0).wf = true) ∧ ((Lit.int .i64 x.f1).wf = true)) → (l2.length * 1 ≤ 140737488351232 ∧ ∀ x ∈ l2, (Lit.int .u8 x).wf = true) → waypointlaw03_HeapChanged.f l0 l1 l2 = some true := fun _ _ _ _ _ _ => rfl

end Go.Proofs.Ytpgnefojifiopaa.Pure

/- The plain statement of the law EventsNil: the function that its walk is told by says true. -/
import Derived.Test.YtpliaagfhjnnaaaLwEventsNil
namespace Go.Proofs.Ytpliaagfhjnnaaa.Pure
open Go.RowKit Go.Proofs.Ytpliaagfhjnnaaa.Ev Go.Proofs.YtpliaagfhjnnaaaW.PrintWords

theorem EventsNil : ∀ (a0 : Int), ((Lit.int .i64 a0).wf = true) → waypointlaw51_EventsNil.f a0 = some true := fun _ _ => rfl

end Go.Proofs.Ytpliaagfhjnnaaa.Pure

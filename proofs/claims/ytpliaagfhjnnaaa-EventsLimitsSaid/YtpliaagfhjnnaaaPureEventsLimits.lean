/- The plain statement of the law EventsLimits: the function that its walk is told by says true. -/
import Derived.Test.YtpliaagfhjnnaaaLwEventsLimits
namespace Go.Proofs.Ytpliaagfhjnnaaa.Pure
open Go.RowKit Go.Proofs.Ytpliaagfhjnnaaa.Ev Go.Proofs.YtpliaagfhjnnaaaW.PrintWords

theorem EventsLimits : ∀ (a0 a1 : Int), ((Lit.int .i64 a0).wf = true) → ((Lit.int .u8 a1).wf = true) → waypointlaw51_EventsLimits.f a0 a1 = some true := fun _ a1 _ hx => by
  simp only [Lit.wf, Bool.and_eq_true, decide_eq_true_eq] at hx
  exact if_pos ⟨hx.1, hx.2⟩

end Go.Proofs.Ytpliaagfhjnnaaa.Pure

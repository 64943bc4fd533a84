/- The plain statement of the law ChannelNil: the function that its walk is told by says true. -/
import Derived.Test.YtkdkdhbkmhkjfaaLwChannelNil
namespace Go.Proofs.Ytkdkdhbkmhkjfaa.Pure
open Go.RowKit Go.Proofs.Ytkdkdhbkmhkjfaa.Ch Go.Proofs.YtkdkdhbkmhkjfaaW.PrintWords

theorem ChannelNil : ∀ (a0 : Int), ((Lit.int .i64 a0).wf = true) → waypointlaw52_ChannelNil.f a0 = some true := fun _ _ => rfl

end Go.Proofs.Ytkdkdhbkmhkjfaa.Pure

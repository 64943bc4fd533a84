/- The plain statement of the law ChannelOrder: the function that its walk is told by says true. -/
import Derived.Test.YtkdkdhbkmhkjfaaLwChannelOrder
import Derived.Test.YtkdkdhbkmhkjfaaChZ
namespace Go.Proofs.Ytkdkdhbkmhkjfaa.Pure
open Go.RowKit Go.Proofs.Ytkdkdhbkmhkjfaa.Ch Go.Proofs.YtkdkdhbkmhkjfaaW.PrintWords Go.Proofs.Ytkdkdhbkmhkjfaa.PT52
theorem ChannelOrder : ∀ (a0_0 : Int) (a0_1 : Int) (a0_2 : Int) (l0_3 : (List S40)) (l0_4 : (List Int)) (l1 : (List Int)), ((Lit.int .i64 a0_0).wf = true) → ((Lit.int .i64 a0_1).wf = true) → ((Lit.int .i64 a0_2).wf = true) → (l0_3.length * 16 ≤ 140737488351232 ∧ ∀ x ∈ l0_3, ((Lit.int .i64 x.f0).wf = true) ∧ ((Lit.int .i64 x.f1).wf = true)) → (l0_4.length * 8 ≤ 140737488351232 ∧ ∀ x ∈ l0_4, (Lit.int .i64 x).wf = true) → (l1.length * 1 ≤ 140737488351232 ∧ ∀ x ∈ l1, (Lit.int .u8 x).wf = true) → waypointlaw52_ChannelOrder.f a0_0 a0_1 a0_2 l0_3 l0_4 l1 = some true := by
  intro a0 a1 a2 l3 l4 l1 _ _ _ _ _ h
  unfold waypointlaw52_ChannelOrder.f
  rw [if_pos (byOk_wf2 h.2)]

end Go.Proofs.Ytkdkdhbkmhkjfaa.Pure

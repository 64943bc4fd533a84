/- The pure statement of LabelsUnpack. -/
import Derived.Test.YtbphaaaobgmejaaLabC
import Derived.Test.YtbphaaaobgmejaaPT1917
namespace Go.Proofs.Ytbphaaaobgmejaa.Pure
open Go.RowKit Go.Proofs.Ytbphaaaobgmejaa.PT19 Go.Proofs.Ytbphaaaobgmejaa.Lab Go.Proofs.YtbphaaaobgmejaaW.PrintWords Go.Proofs.YtbphaaaobgmejaaW.PrintLast

theorem LabelsUnpack : ∀ (l0 : (List Int)), (l0.length * 1 ≤ 140737488351232 ∧ ∀ x ∈ l0, (Lit.int .u8 x).wf = true) → ∃ k, waypointlaw19_LabelsUnpack.f k l0 = some true := by
  rintro l ⟨_, hw⟩
  have hb := by_of hw
  refine ⟨200, ?_⟩
  unfold waypointlaw19_LabelsUnpack.f
  rw [awake_yes _ (by omega)]
  simp only [Option.bind_some, if_true]
  simp only [waypointlaw19_LabelsUnpack.j0]
  have := unp_len l hb
  rw [awake_yes _ (by omega), Unpack_eq _ _ hb (by omega), RefUnpack_eq _ _ hb (by omega)]
  simp only [Option.bind_some, if_true]
  rw [same_self _ _ (by omega) (by omega)]
  simp

end Go.Proofs.Ytbphaaaobgmejaa.Pure

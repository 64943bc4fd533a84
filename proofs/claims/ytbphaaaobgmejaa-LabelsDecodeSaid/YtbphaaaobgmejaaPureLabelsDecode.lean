/- The pure statement of LabelsDecode. -/
import Derived.Test.YtbphaaaobgmejaaLabA
import Derived.Test.YtbphaaaobgmejaaPT1913
namespace Go.Proofs.Ytbphaaaobgmejaa.Pure
open Go.RowKit Go.Proofs.Ytbphaaaobgmejaa.PT19 Go.Proofs.Ytbphaaaobgmejaa.Lab Go.Proofs.YtbphaaaobgmejaaW.PrintWords Go.Proofs.YtbphaaaobgmejaaW.PrintLast

theorem LabelsDecode : ∀ (a0 : Int), ((Lit.int .i64 a0).wf = true) → ∃ k, waypointlaw19_LabelsDecode.f k a0 = some true := by
  intro a ha
  refine ⟨200, ?_⟩
  unfold waypointlaw19_LabelsDecode.f
  rw [Decode_eq, RefDecode_eq _ _ ha (by omega), awake_yes _ (by omega)]
  simp

end Go.Proofs.Ytbphaaaobgmejaa.Pure

/- The pure statement of LabelsPack. -/
import Derived.Test.YtbphaaaobgmejaaLabA
import Derived.Test.YtbphaaaobgmejaaPT199
namespace Go.Proofs.Ytbphaaaobgmejaa.Pure
open Go.RowKit Go.Proofs.Ytbphaaaobgmejaa.PT19 Go.Proofs.Ytbphaaaobgmejaa.Lab Go.Proofs.YtbphaaaobgmejaaW.PrintWords Go.Proofs.YtbphaaaobgmejaaW.PrintLast

theorem LabelsPack : ∀ (l0 : (List S30)) (a1 : Int) (a2 : Int), (l0.length * 16 ≤ 140737488351232 ∧ ∀ x ∈ l0, ((Lit.int .i64 x.f0).wf = true) ∧ ((Lit.int .i64 x.f1).wf = true)) → ((Lit.int .i64 a1).wf = true) → ((Lit.int .i64 a2).wf = true) → ∃ k, waypointlaw19_LabelsPack.f k l0 a1 a2 = some true := by
  intro l a1 a2 _ _ _
  refine ⟨200, ?_⟩
  unfold waypointlaw19_LabelsPack.f
  rw [awake_yes _ (by omega)]
  simp only [Option.bind_some, if_true]
  simp only [waypointlaw19_LabelsPack.j0]
  rw [awake_yes _ (by omega), Pack_eq _ _ _ _ (by omega), RefPack_eq _ _ _ _ (by omega)]
  simp

end Go.Proofs.Ytbphaaaobgmejaa.Pure

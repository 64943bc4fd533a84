/- The pure statement of LabelsEncode. -/
import Derived.Test.YtbphaaaobgmejaaLabA
import Derived.Test.YtbphaaaobgmejaaPT1911
namespace Go.Proofs.Ytbphaaaobgmejaa.Pure
open Go.RowKit Go.Proofs.Ytbphaaaobgmejaa.PT19 Go.Proofs.Ytbphaaaobgmejaa.Lab Go.Proofs.YtbphaaaobgmejaaW.PrintWords Go.Proofs.YtbphaaaobgmejaaW.PrintLast

theorem LabelsEncode : ∀ (a0_0 : Int) (a0_1 : Int), ((Lit.int .i64 a0_0).wf = true) → ((Lit.int .i64 a0_1).wf = true) → ∃ k, waypointlaw19_LabelsEncode.f k a0_0 a0_1 = some true := by
  intro a b _ _
  refine ⟨200, ?_⟩
  unfold waypointlaw19_LabelsEncode.f
  have h1 := Encode_eq ⟨a, b⟩
  have h2 := RefEncode_eq ⟨a, b⟩
  dsimp only at h1 h2
  rw [h1, h2, awake_yes _ (by omega)]
  simp only [Option.bind_some, if_true]
  rw [Decode_eq]
  simp only [Option.bind_some]
  by_cases h : (en ⟨a, b⟩).2 = 0
  · rw [if_pos h, de_en _ h]
    simp
  · rw [if_neg h]

end Go.Proofs.Ytbphaaaobgmejaa.Pure

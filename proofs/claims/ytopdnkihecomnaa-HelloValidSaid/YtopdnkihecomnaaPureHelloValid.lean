/- The pure statement of HelloValid: for every phase and time left, Valid and Seen answer as the definitions do. -/
import Derived.Test.YtopdnkihecomnaaHelC
import Derived.Test.YtopdnkihecomnaaPT3415
namespace Go.Proofs.Ytopdnkihecomnaa.Pure
open Go.RowKit Go.Proofs.Ytopdnkihecomnaa.PT34 Go.Proofs.Ytopdnkihecomnaa.Hel Go.Proofs.YtopdnkihecomnaaW.PrintWords Go.Proofs.YtopdnkihecomnaaW.PrintLast

theorem HelloValid : ∀ (a0 : Int) (a1 : Int), ((Lit.int .i64 a0).wf = true) → ((Lit.int .i64 a1).wf = true) → ∃ k, waypointlaw34_HelloValid.f k a0 a1 = some true := by
  intro p l _ _
  refine ⟨10, ?_⟩
  unfold waypointlaw34_HelloValid.f
  rw [awake_yes _ (by omega), valid_eq, rvalid_eq, seen_eq]
  simp only [Option.bind_some, if_true, beq_self_eq_true]
  cases vb p l <;> simp

end Go.Proofs.Ytopdnkihecomnaa.Pure

/- The pure statement of HelloTicks: for every state and every number of ticks, Tick and Fail return the states of the definition and the events, or ErrArg. -/
import Derived.Test.YtopdnkihecomnaaHelB
import Derived.Test.YtopdnkihecomnaaHelE
import Derived.Test.YtopdnkihecomnaaHelF
import Derived.Test.YtopdnkihecomnaaPT3421
namespace Go.Proofs.Ytopdnkihecomnaa.Pure
open Go.RowKit Go.Proofs.Ytopdnkihecomnaa.PT34 Go.Proofs.Ytopdnkihecomnaa.Hel Go.Proofs.YtopdnkihecomnaaW.PrintWords Go.Proofs.YtopdnkihecomnaaW.PrintLast

theorem HelloTicks : ∀ (a0_0 : Int) (a0_1 : Int) (a1 : Int), ((Lit.int .i64 a0_0).wf = true) → ((Lit.int .i64 a0_1).wf = true) → ((Lit.int .i64 a1).wf = true) → ∃ k, waypointlaw34_HelloTicks.f k a0_0 a0_1 a1 = some true := by
  intro p l n _ _ hn
  refine ⟨140000, ?_⟩
  unfold waypointlaw34_HelloTicks.f
  rw [awake_yes _ (by omega), rvalid_eq, fail_eq]
  simp only [Option.bind_some, if_true]
  have hn2 : n ≤ 9223372036854775807 := by
    simp [Lit.wf, IntKind.min, IntKind.max, IntKind.signed, IntKind.bits] at hn
    omega
  cases hv : vb p l with
  | true =>
    rw [tick_eq _ (by omega) p l n hv, rtick_eq _ (by omega) p l n hv hn2]
    simp [revent_eq]
  | false =>
    rw [tick_bad _ p l n hv]
    simp

end Go.Proofs.Ytopdnkihecomnaa.Pure

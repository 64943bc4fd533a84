/- Plain laws of the neighbour's states: what the program's and the reference's printed functions come to. No Go, no memory. -/
import Derived.Test.YtopdnkihecomnaaHelA
import Derived.Test.YtopdnkihecomnaaPT3410
namespace Go.Proofs.Ytopdnkihecomnaa.Hel
open Go.RowKit Go.Proofs.Ytopdnkihecomnaa.PT34 Go.Proofs.YtopdnkihecomnaaW.PrintWords Go.Proofs.YtopdnkihecomnaaW.PrintLast

theorem revent_eq (p l q m : Int) : waypointref34_Event.f p l q m = some (ev p q) := by
  unfold waypointref34_Event.f ev
  by_cases h1 : p = 2 <;> by_cases h2 : q = 2 <;> simp [h1, h2]
end Go.Proofs.Ytopdnkihecomnaa.Hel

/- Plain laws of the neighbour's states: what the program's and the reference's printed functions come to. No Go, no memory. -/
import Derived.Test.YtopdnkihecomnaaHelA
import Derived.Test.YtopdnkihecomnaaPT3419
namespace Go.Proofs.Ytopdnkihecomnaa.Hel
open Go.RowKit Go.Proofs.Ytopdnkihecomnaa.PT34 Go.Proofs.YtopdnkihecomnaaW.PrintWords Go.Proofs.YtopdnkihecomnaaW.PrintLast

theorem fail_eq (p l : Int) : hello_Fail.f p l = some (if vb p l then (0, 0, ev p 0, 0) else (0, 0, 0, 1)) := by
  unfold hello_Fail.f
  rw [valid_eq]
  simp only [Option.bind_some, event_eq]
  cases vb p l <;> simp
end Go.Proofs.Ytopdnkihecomnaa.Hel

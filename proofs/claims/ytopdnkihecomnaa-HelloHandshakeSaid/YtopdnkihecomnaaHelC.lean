/- Plain laws of the neighbour's states: what the program's and the reference's printed functions come to. No Go, no memory. -/
import Derived.Test.YtopdnkihecomnaaHelA
import Derived.Test.YtopdnkihecomnaaPT3414
namespace Go.Proofs.Ytopdnkihecomnaa.Hel
open Go.RowKit Go.Proofs.Ytopdnkihecomnaa.PT34 Go.Proofs.YtopdnkihecomnaaW.PrintWords Go.Proofs.YtopdnkihecomnaaW.PrintLast

theorem seen_eq (p l : Int) : hello_Seen.f p l = some (vb p l && (p != 0)) := by
  unfold hello_Seen.f
  rw [valid_eq]
  cases vb p l <;> simp
end Go.Proofs.Ytopdnkihecomnaa.Hel

/- The plain statement of the law EventsSorted: the function that its walk is told by says true. -/
import Derived.Test.YtpliaagfhjnnaaaLwEventsSorted
namespace Go.Proofs.Ytpliaagfhjnnaaa.Pure
open Go.RowKit Go.Proofs.Ytpliaagfhjnnaaa.Ev Go.Proofs.YtpliaagfhjnnaaaW.PrintWords

theorem EventsSorted : ∀ (l0 : (List Int)), (l0.length * 2 ≤ 140737488351232 ∧ ∀ x ∈ l0, (Lit.int .u16 x).wf = true) → waypointlaw51_EventsSorted.f l0 = some true := fun l0 h => by
  unfold waypointlaw51_EventsSorted.f timesOk
  rw [if_pos]
  simp only [List.all_eq_true, Bool.and_eq_true, decide_eq_true_eq]
  intro x hx
  have h2 := h.2 x hx
  simp only [Lit.wf, Bool.and_eq_true, decide_eq_true_eq] at h2
  exact ⟨h2.1, h2.2⟩

end Go.Proofs.Ytpliaagfhjnnaaa.Pure

/- The plain statement of the law EventsCancelled: the function that its walk is told by says true. -/
import Derived.Test.YtpliaagfhjnnaaaLwEventsCancelled
namespace Go.Proofs.Ytpliaagfhjnnaaa.Pure
open Go.RowKit Go.Proofs.Ytpliaagfhjnnaaa.Ev Go.Proofs.YtpliaagfhjnnaaaW.PrintWords

theorem EventsCancelled : ∀ (l0 : (List Int)) (l1 : (List Int)), (l0.length * 1 ≤ 140737488351232 ∧ ∀ x ∈ l0, (Lit.int .u8 x).wf = true) → (l1.length * 1 ≤ 140737488351232 ∧ ∀ x ∈ l1, (Lit.int .u8 x).wf = true) → waypointlaw51_EventsCancelled.f l0 l1 = some true := fun l0 l1 h h1 => by
  have b : ∀ x : Int, (Lit.int .u8 x).wf = true → 0 ≤ x ∧ x ≤ 255 := fun x hx => by
    simp only [Lit.wf, Bool.and_eq_true, decide_eq_true_eq] at hx
    exact ⟨hx.1, hx.2⟩
  unfold waypointlaw51_EventsCancelled.f bytesOkC
  rw [if_pos]
  simp only [List.all_eq_true, Bool.and_eq_true, decide_eq_true_eq]
  exact ⟨fun x hx => b x (h.2 x hx), fun x hx => b x (h1.2 x hx)⟩

end Go.Proofs.Ytpliaagfhjnnaaa.Pure

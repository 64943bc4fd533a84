/- The plain statement of the law EventsChain: the function that its walk is told by says true. -/
import Derived.Test.YtpliaagfhjnnaaaLwEventsChain
namespace Go.Proofs.Ytpliaagfhjnnaaa.Pure
open Go.RowKit Go.Proofs.Ytpliaagfhjnnaaa.Ev Go.Proofs.YtpliaagfhjnnaaaW.PrintWords

theorem EventsChain : ∀ (l0 : (List Int)) (a1 : Int), (l0.length * 1 ≤ 140737488351232 ∧ ∀ x ∈ l0, (Lit.int .u8 x).wf = true) → ((Lit.int .u8 a1).wf = true) → waypointlaw51_EventsChain.f l0 a1 = some true := fun l0 a1 h h1 => by
  have b : ∀ x : Int, (Lit.int .u8 x).wf = true → 0 ≤ x ∧ x ≤ 255 := fun x hx => by
    simp only [Lit.wf, Bool.and_eq_true, decide_eq_true_eq] at hx
    exact ⟨hx.1, hx.2⟩
  unfold waypointlaw51_EventsChain.f bytesOk
  rw [if_pos]
  simp only [List.all_eq_true, Bool.and_eq_true, decide_eq_true_eq]
  exact ⟨fun x hx => b x (h.2 x hx), b a1 h1⟩

end Go.Proofs.Ytpliaagfhjnnaaa.Pure

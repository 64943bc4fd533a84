/- The plain statement of the law EventsCalls: the function that its walk is told by says true. -/
import Derived.Test.YtpliaagfhjnnaaaLwEventsCalls
namespace Go.Proofs.Ytpliaagfhjnnaaa.Pure
open Go.RowKit Go.Proofs.Ytpliaagfhjnnaaa.Ev Go.Proofs.YtpliaagfhjnnaaaW.PrintWords

theorem EventsCalls : ∀ (l0 : (List S47)), (l0.length * 24 ≤ 140737488351232 ∧ ∀ x ∈ l0, ((Lit.int .u8 x.f0).wf = true) ∧ ((Lit.int .i64 x.f1).wf = true) ∧ ((Lit.int .i64 x.f2).wf = true)) → waypointlaw51_EventsCalls.f l0 = some true := by
  intro l0 h0
  have b : ∀ x : Int, (Lit.int .u8 x).wf = true → 0 ≤ x ∧ x ≤ 255 := fun x hx => by
    simp only [Lit.wf, Bool.and_eq_true, decide_eq_true_eq] at hx
    exact ⟨hx.1, hx.2⟩
  unfold waypointlaw51_EventsCalls.f actsOk
  rw [if_pos]
  simp only [Bool.and_eq_true, decide_eq_true_eq, List.all_eq_true]
  exact fun x hx => ⟨b _ (h0.2 x hx).1, (h0.2 x hx).2.1⟩

end Go.Proofs.Ytpliaagfhjnnaaa.Pure

/- The plain statement of the law HeapCalls: the function that its walk is told by says true. -/
import Derived.Test.YtpgnefojifiopaaLwHeapCalls
namespace Go.Proofs.Ytpgnefojifiopaa.Pure
open Go.RowKit Go.Proofs.Ytpgnefojifiopaa.Heap Go.Proofs.YtpgnefojifiopaaW.PrintWords

theorem HeapCalls : ∀ (a0 : Int) (l1 : (List S44)), ((Lit.int .u8 a0).wf = true) → (l1.length * 24 ≤ 140737488351232 ∧ ∀ x ∈ l1, ((Lit.int .u8 x.f0).wf = true) ∧ ((Lit.int .i64 x.f1).wf = true) ∧ ((Lit.int .i64 x.f2).wf = true)) → waypointlaw03_HeapCalls.f a0 l1 = some true := by
  intro a0 l1 h0 h1
  have b : ∀ x : Int, (Lit.int .u8 x).wf = true → 0 ≤ x ∧ x ≤ 255 := fun x hx => by
    simp only [Lit.wf, Bool.and_eq_true, decide_eq_true_eq] at hx
    exact ⟨hx.1, hx.2⟩
  unfold waypointlaw03_HeapCalls.f actsOk
  rw [if_pos]
  have h2 := b a0 h0
  simp only [Bool.and_eq_true, decide_eq_true_eq, List.all_eq_true]
  exact ⟨h2, fun x hx => b _ (h1.2 x hx).1⟩

end Go.Proofs.Ytpgnefojifiopaa.Pure

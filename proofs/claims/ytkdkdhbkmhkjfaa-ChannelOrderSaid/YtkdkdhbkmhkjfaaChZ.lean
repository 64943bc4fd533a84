/- A row of bytes is a row of bytes. -/
import Derived.Test.YtkdkdhbkmhkjfaaChY
namespace Go.Proofs.Ytkdkdhbkmhkjfaa.Pure
open Go.RowKit Go.Proofs.Ytkdkdhbkmhkjfaa.Ch Go.Proofs.YtkdkdhbkmhkjfaaW.PrintWords Go.Proofs.Ytkdkdhbkmhkjfaa.PT52
theorem byOk_wf2 {l : List Int} (h : ∀ x ∈ l, (Lit.int .u8 x).wf = true) : byOk l = true := by
  simp only [byOk, List.all_eq_true, Bool.and_eq_true, decide_eq_true_eq]
  intro x hx
  have := h x hx
  simp [Lit.wf, IntKind.min, IntKind.max, IntKind.signed, IntKind.bits] at this
  omega
end Go.Proofs.Ytkdkdhbkmhkjfaa.Pure

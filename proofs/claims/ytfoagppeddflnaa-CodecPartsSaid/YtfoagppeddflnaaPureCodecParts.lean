/- The plain statement of the law CodecParts: the function that its walk is told by says true. -/
import Derived.Test.YtfoagppeddflnaaLwCodecParts
namespace Go.Proofs.Ytfoagppeddflnaa.Pure
open Go.RowKit Go.Proofs.Ytfoagppeddflnaa.PT07 Go.Proofs.YtfoagppeddflnaaW.PrintWords

theorem CodecParts : ∀ (l0 l1 : (List S43)) (a2 : Int), (l0.length * 32 ≤ 140737488351232 ∧ ∀ x ∈ l0, ((Lit.int .i64 x.f0).wf = true) ∧ (x.f1.length * 1 ≤ 140737488351232 ∧ ∀ y ∈ x.f1, (Lit.int .u8 y).wf = true)) → (l1.length * 32 ≤ 140737488351232 ∧ ∀ x ∈ l1, ((Lit.int .i64 x.f0).wf = true) ∧ (x.f1.length * 1 ≤ 140737488351232 ∧ ∀ y ∈ x.f1, (Lit.int .u8 y).wf = true)) → ((Lit.int .u16 a2).wf = true) → waypointlaw07_CodecParts.f l0 l1 a2 = some true := by
  intro l0 l1 a2 _ _ h
  simp only [Lit.wf, Bool.and_eq_true, decide_eq_true_eq] at h
  exact if_pos ⟨h.1, h.2⟩

end Go.Proofs.Ytfoagppeddflnaa.Pure

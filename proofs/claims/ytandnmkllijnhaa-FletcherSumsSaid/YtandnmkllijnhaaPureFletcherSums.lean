/- The pure statement of FletcherSums: for every list of bytes, Sum's answer is the reference's, and Check tells whether both sums are 0 (at most 2000 bytes; longer ones are let by, as the law says). -/
import Derived.Test.YtandnmkllijnhaaFlet
namespace Go.Proofs.Ytandnmkllijnhaa.Pure
open Go.RowKit Go.Proofs.Ytandnmkllijnhaa.PT08 Go.Proofs.Ytandnmkllijnhaa.Flet Go.Proofs.YtandnmkllijnhaaW.PrintWords Go.Proofs.YtandnmkllijnhaaW.PrintLast

theorem FletcherSums : ∀ (l0 : List Int), (l0.length * 1 ≤ 140737488351232 ∧ ∀ x ∈ l0, (Lit.int .u8 x).wf = true) → ∃ k, waypointlaw08_FletcherSums.f k l0 = some true := by
  rintro l ⟨hl, hw⟩
  have hb := by_of hw
  refine ⟨l.length + 3000, ?_⟩
  unfold waypointlaw08_FletcherSums.f
  rw [awake_yes _ (by omega)]
  simp only [Option.bind_some, if_true]
  by_cases h : (l.length : Int) > 2000
  · rw [if_pos h]
  · rw [if_neg h, sum_eq _ l hb (by omega) (by omega), ref_eq _ l hb (by omega) (by omega), check_eq _ l hb (by omega) (by omega)]
    simp only [Option.bind_some, if_true]
    by_cases h1 : S l % 255 = 0
    · rw [if_pos h1]
      by_cases h2 : T l % 255 = 0 <;> simp [h1, h2]
    · rw [if_neg h1]
      simp [h1]

end Go.Proofs.Ytandnmkllijnhaa.Pure

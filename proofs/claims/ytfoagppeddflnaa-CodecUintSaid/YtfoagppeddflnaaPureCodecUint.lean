/- The pure statement of CodecUint. -/
import Derived.Test.YtfoagppeddflnaaCodP
import Derived.Test.YtfoagppeddflnaaPT0724
namespace Go.Proofs.Ytfoagppeddflnaa.Pure
open Go.RowKit Go.Proofs.Ytfoagppeddflnaa.PT07 Go.Proofs.Ytfoagppeddflnaa.Cod Go.Proofs.YtfoagppeddflnaaW.PrintWords Go.Proofs.YtfoagppeddflnaaW.PrintLast

theorem CodecUint : ∀ (l0 : (List Int)), (l0.length * 1 ≤ 140737488351232 ∧ ∀ x ∈ l0, (Lit.int .u8 x).wf = true) → ∃ k, waypointlaw07_CodecUint.f k l0 = some true := by
  rintro l ⟨_, hw⟩
  have hb := by_of hw
  obtain ⟨k, hk⟩ : ∃ k, 50 < k := ⟨51, by omega⟩
  refine ⟨k, ?_⟩
  unfold waypointlaw07_CodecUint.f
  rw [awake_yes _ (by omega)]
  simp only [Option.bind_some, if_true]
  by_cases h : (l.length : Int) > 100
  · rw [if_pos h]
  rw [if_neg h, Uint_eq k l hb (by omega)]
  simp only [Option.bind_some]
  by_cases h1 : (l.length : Int) < 1
  · rw [if_pos h1, if_neg (show ¬ (1 ≤ l.length ∧ l.length ≤ 8) from by omega)]; simp
  rw [if_neg h1]
  by_cases h2 : (l.length : Int) > 8
  · rw [if_pos h2, if_neg (show ¬ (1 ≤ l.length ∧ l.length ≤ 8) from by omega)]; simp
  rw [if_neg h2, if_pos (show 1 ≤ l.length ∧ l.length ≤ 8 from by omega), RefUint_eq k l hb (by omega) (by omega)]
  simp

end Go.Proofs.Ytfoagppeddflnaa.Pure

/- The pure statement of FletcherExchanged: for every list of from 2 to 600 bytes and every two places: Seal seals the list, and behind the exchange of two neighbouring bytes it is sealed exactly if they are equal modulo 255. -/
import Derived.Test.YtandnmkllijnhaaFlet
namespace Go.Proofs.Ytandnmkllijnhaa.Pure
open Go.RowKit Go.Proofs.Ytandnmkllijnhaa.PT08 Go.Proofs.Ytandnmkllijnhaa.Flet Go.Proofs.YtandnmkllijnhaaW.PrintWords Go.Proofs.YtandnmkllijnhaaW.PrintLast

theorem FletcherExchanged : ∀ (l0 : List Int) (a1_0 : Int) (a1_1 : Int), (l0.length * 1 ≤ 140737488351232 ∧ ∀ x ∈ l0, (Lit.int .u8 x).wf = true) → ((Lit.int .u16 a1_0).wf = true) → ((Lit.int .u16 a1_1).wf = true) → ∃ k, waypointlaw08_FletcherExchanged.f k l0 a1_0 a1_1 = some true := by
  rintro l p q ⟨hl1, hw1⟩ hp hq
  have hb1 := by_of hw1
  simp [Lit.wf, IntKind.min, IntKind.max, IntKind.signed, IntKind.bits] at hp hq
  refine ⟨l.length + 3001, ?_⟩
  unfold waypointlaw08_FletcherExchanged.f
  rw [awake_yes _ (by omega)]
  simp only [Option.bind_some, if_true]
  by_cases h : (l.length : Int) < 2
  · rw [if_pos h]
    simp [waypointlaw08_FletcherExchanged.j0]
  rw [if_neg h]
  by_cases h2 : (l.length : Int) > 600
  · rw [decide_eq_true h2]
    simp [waypointlaw08_FletcherExchanged.j0]
  rw [decide_eq_false h2]
  simp only [waypointlaw08_FletcherExchanged.j0]
  rw [if_neg (by decide), wrap_id (x := (l.length : Int) - 1) (by omega) (by omega), if_neg (by omega), wrap_id (x := p) (by omega) (by omega), wrap_id (x := q) (by omega) (by omega), tmod_pos _ (by omega)]
  have ha : 0 ≤ p % ((l.length : Int) - 1) ∧ p % ((l.length : Int) - 1) < (l.length : Int) - 1 := ⟨Int.emod_nonneg _ (by omega), Int.emod_lt_of_pos _ (by omega)⟩
  obtain ⟨out, hs, hbo, hlo, hS, hT⟩ := seal_ok (l.length + 3000) l (p % ((l.length : Int) - 1)) hb1 (by omega) (by omega) ha.1 (by omega)
  rw [hs]
  simp only [Option.bind_some, if_true]
  rw [if_pos (by omega), wrap_id (x := (out.length : Int) - 1) (by omega) (by omega), if_neg (by omega), tmod_pos _ (by omega)]
  have hk : 0 ≤ q % ((out.length : Int) - 1) ∧ q % ((out.length : Int) - 1) < (out.length : Int) - 1 := ⟨Int.emod_nonneg _ (by omega), Int.emod_lt_of_pos _ (by omega)⟩
  obtain ⟨i, hi⟩ := Int.eq_ofNat_of_zero_le hk.1
  rw [hi] at hk ⊢
  rw [if_pos hk.1, if_pos (by omega), wrap_id (x := (i : Int) + 1) (by omega) (by omega), if_pos (by omega), if_pos (by omega)]
  rw [show (i : Int) + 1 = ((i + 1 : Nat) : Int) by omega]
  simp only [Int.toNat_natCast]
  have hx := hbo.rd (i := i) (by omega)
  have hy := hbo.rd (i := i + 1) (by omega)
  rw [check_eq _ _ ((hbo.set i hy.1 hy.2).set (i + 1) hx.1 hx.2) (by simp; omega) (by simp; omega)]
  simp only [Option.bind_some]
  rw [S_set _ _ _ (by simp; omega), T_set _ _ _ (by simp; omega), S_set _ _ _ (by omega), T_set _ _ _ (by omega), rd_set_ne _ _ _ _ (by omega), List.length_set]
  generalize rd out (i : Int) = x at hx ⊢
  generalize rd out ((i + 1 : Nat) : Int) = y at hy ⊢
  rw [tmod_pos _ hx.1, tmod_pos _ hy.1]
  have e1 : (S out + (y - x) + (x - y)) % 255 = 0 := by omega
  have e2 : (T out + ((out.length : Int) - i) * (y - x) + ((out.length : Int) - ((i + 1 : Nat) : Int)) * (x - y)) % 255 = (T out + (y - x)) % 255 := by
    push_cast
    exact modw 0 (by grind)
  rw [e1, e2]
  congr 1
  rw [beq_iff_eq, Bool.eq_iff_iff]
  simp only [decide_eq_true_eq, true_and, beq_iff_eq]
  omega

end Go.Proofs.Ytandnmkllijnhaa.Pure

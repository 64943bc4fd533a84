/- The pure statement of FletcherChanged: for every list of from 2 to 600 bytes, every two places and every byte: Seal seals the list, and behind the change of one byte it is sealed exactly if the byte is the same, or 0 and 255 were exchanged. -/
import Derived.Test.YtandnmkllijnhaaFlet
namespace Go.Proofs.Ytandnmkllijnhaa.Pure
open Go.RowKit Go.Proofs.Ytandnmkllijnhaa.PT08 Go.Proofs.Ytandnmkllijnhaa.Flet Go.Proofs.YtandnmkllijnhaaW.PrintWords Go.Proofs.YtandnmkllijnhaaW.PrintLast

theorem FletcherChanged : ∀ (l0 : List Int) (a1_0 : Int) (a1_1 : Int) (a2 : Int), (l0.length * 1 ≤ 140737488351232 ∧ ∀ x ∈ l0, (Lit.int .u8 x).wf = true) → ((Lit.int .u16 a1_0).wf = true) → ((Lit.int .u16 a1_1).wf = true) → ((Lit.int .u8 a2).wf = true) → ∃ k, waypointlaw08_FletcherChanged.f k l0 a1_0 a1_1 a2 = some true := by
  rintro l p q v ⟨hl1, hw1⟩ hp hq hv
  have hb1 := by_of hw1
  simp [Lit.wf, IntKind.min, IntKind.max, IntKind.signed, IntKind.bits] at hp hq hv
  refine ⟨l.length + 3001, ?_⟩
  unfold waypointlaw08_FletcherChanged.f
  rw [awake_yes _ (by omega)]
  simp only [Option.bind_some, if_true]
  by_cases h : (l.length : Int) < 2
  · rw [if_pos h]
    simp [waypointlaw08_FletcherChanged.j0]
  rw [if_neg h]
  by_cases h2 : (l.length : Int) > 600
  · rw [decide_eq_true h2]
    simp [waypointlaw08_FletcherChanged.j0]
  rw [decide_eq_false h2]
  simp only [waypointlaw08_FletcherChanged.j0]
  rw [if_neg (by decide), wrap_id (x := (l.length : Int) - 1) (by omega) (by omega), if_neg (by omega), wrap_id (x := p) (by omega) (by omega), wrap_id (x := q) (by omega) (by omega), tmod_pos _ (by omega)]
  have ha : 0 ≤ p % ((l.length : Int) - 1) ∧ p % ((l.length : Int) - 1) < (l.length : Int) - 1 := ⟨Int.emod_nonneg _ (by omega), Int.emod_lt_of_pos _ (by omega)⟩
  obtain ⟨out, hs, hbo, hlo, hS, hT⟩ := seal_ok (l.length + 3000) l (p % ((l.length : Int) - 1)) hb1 (by omega) (by omega) ha.1 (by omega)
  rw [hs]
  simp only [Option.bind_some, if_true]
  rw [if_pos (by omega), check_eq _ out hbo (by omega) (by omega)]
  simp only [Option.bind_some, hS, hT, and_self, decide_true, if_true]
  rw [if_neg (by omega), tmod_pos _ (by omega)]
  have hk : 0 ≤ q % (out.length : Int) ∧ q % (out.length : Int) < (out.length : Int) := ⟨Int.emod_nonneg _ (by omega), Int.emod_lt_of_pos _ (by omega)⟩
  rw [if_pos hk.1, if_pos hk.2]
  obtain ⟨i, hi⟩ := Int.eq_ofNat_of_zero_le hk.1
  rw [hi] at hk ⊢
  have hlt : i < out.length := by omega
  simp only [Int.toNat_natCast]
  have hr := hbo.rd hlt
  rw [check_eq _ _ (hbo.set i hv.1 hv.2) (by simp; omega) (by simp; omega)]
  simp only [Option.bind_some]
  rw [S_set _ _ _ hlt, T_set _ _ _ hlt]
  generalize rd out (i : Int) = f at hr ⊢
  have key : decide ((S out + (v - f)) % 255 = 0 ∧ (T out + ((out.length : Int) - i) * (v - f)) % 255 = 0) = decide (f = v ∨ (f = 0 ∧ v = 255) ∨ (f = 255 ∧ v = 0)) := by
    rw [Bool.eq_iff_iff]
    simp only [decide_eq_true_eq]
    constructor
    · rintro ⟨h1, _⟩
      omega
    · intro h1
      have h3 : (S out + (v - f)) % 255 = 0 := by omega
      refine ⟨h3, ?_⟩
      obtain ⟨c, hc⟩ : ∃ c, v - f = 255 * c := ⟨(v - f) / 255, by omega⟩
      obtain ⟨d, hd⟩ : ∃ d, T out = 255 * d := ⟨T out / 255, by omega⟩
      rw [hc, hd]
      rw [modw (v := 0) (d + ((out.length : Int) - i) * c) (by grind)]
      rfl
  rw [key]
  by_cases h3 : f = v
  · rw [if_pos h3]
    simp [h3]
  rw [if_neg h3]
  by_cases h4 : f = 0
  · rw [if_pos h4]
    subst h4
    by_cases h5 : v = 255
    · subst h5
      simp
    · rw [if_neg h5, if_neg (by omega)]
      simp [h3, h5]
  rw [if_neg h4]
  by_cases h5 : f = 255
  · rw [if_pos h5]
    subst h5
    by_cases h6 : v = 0
    · subst h6
      simp
    · simp [h3, h6]
  rw [if_neg h5]
  simp [h3, h4, h5]

end Go.Proofs.Ytandnmkllijnhaa.Pure

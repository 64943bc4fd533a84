/- The pure statement of HelloHandshake: whatever was lost in up to 40 steps before, after two steps in which no hello is lost both ends are Up, for hold times from 2 to 20. -/
import Derived.Test.YtopdnkihecomnaaHelD
import Derived.Test.YtopdnkihecomnaaPT3417
namespace Go.Proofs.Ytopdnkihecomnaa.Pure
open Go.RowKit Go.Proofs.Ytopdnkihecomnaa.PT34 Go.Proofs.Ytopdnkihecomnaa.Hel Go.Proofs.YtopdnkihecomnaaW.PrintWords Go.Proofs.YtopdnkihecomnaaW.PrintLast

theorem hand_loop (l : List S45) (h : Int) (h1 : 2 ≤ h) (h2 : h ≤ 65536) (hl : l.length ≤ 40) : ∀ (d i k : Nat) (pa la pb lb : Int), d + i = l.length → d + 2 < k → vb pa la = true → vb pb lb = true →
    waypointlaw34_HelloHandshake.l0 k l h (i : Int) pa la pb lb = some true := by
  intro d
  induction d with
  | zero =>
    intro i k pa la pb lb hd hk ha hb
    obtain ⟨k, rfl⟩ : ∃ m, k = m + 1 := ⟨k - 1, by omega⟩
    simp only [waypointlaw34_HelloHandshake.l0]
    rw [if_neg (by omega), exchange_eq k (by omega) pa la pb lb h false false ha hb (by omega) h2]
    have hv := exchange_valid pa la pb lb h false false ha hb (by omega) h2
    simp only [Option.bind_some]
    rw [exchange_eq k (by omega) _ _ _ _ h false false hv.1 hv.2 (by omega) h2]
    simp only [Option.bind_some]
    by_cases e1 : pa = 0 <;> by_cases e2 : pb = 0 <;> simp [e1, e2]
  | succ d ih =>
    intro i k pa la pb lb hd hk ha hb
    obtain ⟨k, rfl⟩ : ∃ m, k = m + 1 := ⟨k - 1, by omega⟩
    simp only [waypointlaw34_HelloHandshake.l0]
    rw [if_pos (by omega), if_pos (by omega), exchange_eq k (by omega) pa la pb lb h _ _ ha hb (by omega) h2]
    have hv := exchange_valid pa la pb lb h (rd_T45 l (i : Int)).f0 (rd_T45 l (i : Int)).f1 ha hb (by omega) h2
    simp only [Option.bind_some]
    rw [wrap_id (by omega) (by omega), show (i : Int) + 1 = ((i + 1 : Nat) : Int) by omega]
    exact ih (i + 1) k _ _ _ _ (by omega) (by omega) hv.1 hv.2
theorem hold_ok (a : Int) (ha : (Lit.int .u8 a).wf = true) : ∃ h, wrap64 (2 + Int.tmod (wrap64 a) 19) = h ∧ 2 ≤ h ∧ h ≤ 20 := by
  simp [Lit.wf, IntKind.min, IntKind.max, IntKind.signed, IntKind.bits] at ha
  rw [wrap_id (x := a) (by omega) (by omega), Int.tmod_eq_emod_of_nonneg (by omega), wrap_id (by omega) (by omega)]
  exact ⟨_, rfl, by omega, by omega⟩
theorem HelloHandshake : ∀ (l0 : List S45) (a1 : Int), (l0.length * 2 ≤ 140737488351232 ∧ ∀ x ∈ l0, (True) ∧ (True)) → ((Lit.int .u8 a1).wf = true) → ∃ k, waypointlaw34_HelloHandshake.f k l0 a1 = some true := by
  intro l a _ ha
  obtain ⟨h, he, h1, h2⟩ := hold_ok a ha
  refine ⟨100, ?_⟩
  unfold waypointlaw34_HelloHandshake.f
  rw [awake_yes _ (by omega), he]
  simp only [Option.bind_some, if_true]
  by_cases hl : (l.length : Int) > 40
  · rw [if_pos hl]
  · rw [if_neg hl]
    exact hand_loop l h h1 (by omega) (by omega) l.length 0 100 0 0 0 0 (by omega) (by omega) (by decide) (by decide)

end Go.Proofs.Ytopdnkihecomnaa.Pure

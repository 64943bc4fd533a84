/- The pure statement of HelloOneWay: if from some step on (behind up to 40 others) all hellos of one direction are lost, then after two hold times neither end is Up, and the one that hears nothing is Down, for hold times from 2 to 20. -/
import Derived.Test.YtopdnkihecomnaaHelD
import Derived.Test.YtopdnkihecomnaaPT3418
namespace Go.Proofs.Ytopdnkihecomnaa.Pure
open Go.RowKit Go.Proofs.Ytopdnkihecomnaa.PT34 Go.Proofs.Ytopdnkihecomnaa.Hel Go.Proofs.YtopdnkihecomnaaW.PrintWords Go.Proofs.YtopdnkihecomnaaW.PrintLast

theorem tick_one (l : Int) : tl l 1 = (if 1 < l then l - 1 else 0) := by
  unfold tl
  rw [if_neg (by omega)]
theorem one_loop (h : Int) (h1 : 2 ≤ h) (h2 : h ≤ 20) (forth : Bool) : ∀ (d i k : Nat) (pa la pb lb : Int), (d : Int) + i = 2 * h → d + 2 < k → vb pa la = true → vb pb lb = true →
    (if forth then lb else la) ≤ max 0 (h - i) → (h + 1 ≤ i → (if forth then pa else pb) = 1) →
    waypointlaw34_HelloOneWay.l1 k forth h (i : Int) pa la pb lb = some true := by
  intro d
  induction d with
  | zero =>
    intro i k pa la pb lb hd hk ha hb hle hone
    obtain ⟨k, rfl⟩ : ∃ m, k = m + 1 := ⟨k - 1, by omega⟩
    simp only [waypointlaw34_HelloOneWay.l1]
    rw [wrap_id (by omega) (by omega), if_neg (by omega)]
    have h3 := hone (by omega)
    cases forth with
    | true =>
      simp at hle h3 ⊢
      rw [vb_iff] at hb
      rw [if_pos (by omega), h3]
      rfl
    | false =>
      simp at hle h3 ⊢
      rw [vb_iff] at ha
      rw [if_pos (by omega), h3]
      rfl
  | succ d ih =>
    intro i k pa la pb lb hd hk ha hb hle hone
    obtain ⟨k, rfl⟩ : ∃ m, k = m + 1 := ⟨k - 1, by omega⟩
    simp only [waypointlaw34_HelloOneWay.l1]
    rw [wrap_id (x := 2 * h) (by omega) (by omega), if_pos (by omega), exchange_eq k (by omega) pa la pb lb h _ _ ha hb (by omega) (by omega)]
    have hv := exchange_valid pa la pb lb h forth (!forth) ha hb (by omega) (by omega)
    simp only [Option.bind_some]
    rw [wrap_id (by omega) (by omega), show (i : Int) + 1 = ((i + 1 : Nat) : Int) by omega]
    refine ih (i + 1) k _ _ _ _ (by omega) (by omega) hv.1 hv.2 ?_ ?_
    · cases forth with
      | true =>
        simp at hle ⊢
        rw [tick_one]
        split <;> omega
      | false =>
        simp at hle ⊢
        rw [tick_one]
        split <;> omega
    · intro hi
      cases forth with
      | true =>
        simp at hle ⊢
        rw [vb_iff] at hb
        omega
      | false =>
        simp at hle ⊢
        rw [vb_iff] at ha
        omega
theorem one_first (l : List S45) (h : Int) (h1 : 2 ≤ h) (h2 : h ≤ 20) (forth : Bool) (hl : l.length ≤ 40) : ∀ (d i k : Nat) (pa la pb lb : Int), d + i = l.length → d + 100 < k → vb pa la = true → vb pb lb = true → la ≤ h → lb ≤ h →
    waypointlaw34_HelloOneWay.l0 k l forth h (i : Int) pa la pb lb = some true := by
  intro d
  induction d with
  | zero =>
    intro i k pa la pb lb hd hk ha hb hla hlb
    obtain ⟨k, rfl⟩ : ∃ m, k = m + 1 := ⟨k - 1, by omega⟩
    simp only [waypointlaw34_HelloOneWay.l0]
    rw [if_neg (by omega)]
    have := one_loop h h1 h2 forth (2 * h).toNat 0 k pa la pb lb (by omega) (by omega) ha hb (by cases forth <;> simp <;> omega) (fun h => by omega)
    exact this
  | succ d ih =>
    intro i k pa la pb lb hd hk ha hb hla hlb
    obtain ⟨k, rfl⟩ : ∃ m, k = m + 1 := ⟨k - 1, by omega⟩
    simp only [waypointlaw34_HelloOneWay.l0]
    rw [if_pos (by omega), if_pos (by omega), exchange_eq k (by omega) pa la pb lb h _ _ ha hb (by omega) (by omega)]
    have hv := exchange_valid pa la pb lb h (rd_T45 l (i : Int)).f0 (rd_T45 l (i : Int)).f1 ha hb (by omega) (by omega)
    simp only [Option.bind_some]
    rw [wrap_id (by omega) (by omega), show (i : Int) + 1 = ((i + 1 : Nat) : Int) by omega]
    have b1 := tl_bound 1 ha
    have b2 := tl_bound 1 hb
    refine ih (i + 1) k _ _ _ _ (by omega) (by omega) hv.1 hv.2 ?_ ?_
    · split <;> omega
    · split <;> omega
theorem hold_ok1 (a : Int) (ha : (Lit.int .u8 a).wf = true) : ∃ h, wrap64 (2 + Int.tmod (wrap64 a) 19) = h ∧ 2 ≤ h ∧ h ≤ 20 := by
  simp [Lit.wf, IntKind.min, IntKind.max, IntKind.signed, IntKind.bits] at ha
  rw [wrap_id (x := a) (by omega) (by omega), Int.tmod_eq_emod_of_nonneg (by omega), wrap_id (by omega) (by omega)]
  exact ⟨_, rfl, by omega, by omega⟩
theorem HelloOneWay : ∀ (l0 : List S45) (a1 : Int) (a2 : Bool), (l0.length * 2 ≤ 140737488351232 ∧ ∀ x ∈ l0, (True) ∧ (True)) → ((Lit.int .u8 a1).wf = true) → ∃ k, waypointlaw34_HelloOneWay.f k l0 a1 a2 = some true := by
  intro l a forth _ ha
  obtain ⟨h, he, h1, h2⟩ := hold_ok1 a ha
  refine ⟨200, ?_⟩
  unfold waypointlaw34_HelloOneWay.f
  rw [awake_yes _ (by omega), he]
  simp only [Option.bind_some, if_true]
  by_cases hl : (l.length : Int) > 40
  · rw [if_pos hl]
  · rw [if_neg hl]
    exact one_first l h h1 (by omega) forth (by omega) l.length 0 200 0 0 0 0 (by omega) (by omega) (by decide) (by decide) (by omega) (by omega)

end Go.Proofs.Ytopdnkihecomnaa.Pure

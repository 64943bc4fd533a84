/- The pure statement of HelloAdds: for every valid state and every two numbers of 32 bits, n ticks and then m ticks are n + m ticks. -/
import Derived.Test.YtopdnkihecomnaaHelA
import Derived.Test.YtopdnkihecomnaaPT3413
namespace Go.Proofs.Ytopdnkihecomnaa.Pure
open Go.RowKit Go.Proofs.Ytopdnkihecomnaa.PT34 Go.Proofs.Ytopdnkihecomnaa.Hel Go.Proofs.YtopdnkihecomnaaW.PrintWords Go.Proofs.YtopdnkihecomnaaW.PrintLast

theorem HelloAdds : ∀ (a0_0 : Int) (a0_1 : Int) (a1 : Int) (a2 : Int), ((Lit.int .i64 a0_0).wf = true) → ((Lit.int .i64 a0_1).wf = true) → ((Lit.int .u32 a1).wf = true) → ((Lit.int .u32 a2).wf = true) → ∃ k, waypointlaw34_HelloAdds.f k a0_0 a0_1 a1 a2 = some true := by
  intro p l n m _ _ hn hm
  simp [Lit.wf, IntKind.min, IntKind.max, IntKind.signed, IntKind.bits] at hn hm
  refine ⟨10, ?_⟩
  unfold waypointlaw34_HelloAdds.f
  rw [awake_yes _ (by omega), rvalid_eq, wrap_id (x := n) (by omega) (by omega), wrap_id (x := m) (by omega) (by omega), wrap_id (x := n + m) (by omega) (by omega)]
  simp only [Option.bind_some, if_true]
  cases hv : vb p l with
  | false => simp
  | true =>
    rw [if_pos rfl, tick_eq _ (by omega) p l n hv]
    simp only [Option.bind_some]
    have h2 := tick_valid n hv
    rw [tick_eq _ (by omega) _ _ m h2, tick_eq _ (by omega) p l (n + m) hv]
    simp only [Option.bind_some, if_true]
    rw [vb_iff] at hv
    have e1 : tl (tl l n) m = tl l (n + m) := by
      unfold tl
      repeat' split
      all_goals omega
    have e2 : tp (tp p l n) (tl l n) m = tp p l (n + m) := by
      unfold tp
      rw [e1]
      have h0 : tl l n = 0 → tl l (n + m) = 0 := by
        unfold tl
        repeat' split
        all_goals omega
      by_cases hz : tl l n = 0
      · rw [if_pos hz, if_pos (h0 hz), if_pos (h0 hz)]
      · rw [if_neg hz]
    rw [e1, e2]
    simp only [beq_self_eq_true, Bool.and_self, if_true]
    congr 1
    rw [beq_iff_eq]
    have hp : tp p l n = 0 ∨ tp p l n = p := by
      unfold tp
      split
      · exact .inl rfl
      · exact .inr rfl
    have hq : tp p l (n + m) = 0 ∨ tp p l (n + m) = p := by
      unfold tp
      split
      · exact .inl rfl
      · exact .inr rfl
    have h0 : tp p l n = 0 → tp p l (n + m) = 0 := by
      intro h
      rw [← e2, h]
      unfold tp
      split <;> rfl
    have hv2 : p = 0 ∨ p = 1 ∨ p = 2 := by omega
    rcases hp with hp | hp <;> rcases hq with hq | hq
    · rw [hp, hq]; rcases hv2 with rfl | rfl | rfl <;> rfl
    · have := h0 hp; rw [this] at hq ⊢; rw [hp]; subst hq; rfl
    · rw [hp, hq]; rcases hv2 with rfl | rfl | rfl <;> rfl
    · rw [hp, hq]; rcases hv2 with rfl | rfl | rfl <;> rfl

end Go.Proofs.Ytopdnkihecomnaa.Pure

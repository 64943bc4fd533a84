/- The pure statement of HelloReceives: for every state, every answer to whether one is seen and every hold time, Receive returns the state of the definition and the event, or ErrArg. -/
import Derived.Test.YtopdnkihecomnaaHelB
import Derived.Test.YtopdnkihecomnaaPT3411
namespace Go.Proofs.Ytopdnkihecomnaa.Pure
open Go.RowKit Go.Proofs.Ytopdnkihecomnaa.PT34 Go.Proofs.Ytopdnkihecomnaa.Hel Go.Proofs.YtopdnkihecomnaaW.PrintWords Go.Proofs.YtopdnkihecomnaaW.PrintLast

theorem HelloReceives : ∀ (a0_0 : Int) (a0_1 : Int) (a1 : Bool) (a2 : Int), ((Lit.int .i64 a0_0).wf = true) → ((Lit.int .i64 a0_1).wf = true) → ((Lit.int .i64 a2).wf = true) → ∃ k, waypointlaw34_HelloReceives.f k a0_0 a0_1 a1 a2 = some true := by
  intro p l seen h _ _ _
  refine ⟨11, ?_⟩
  unfold waypointlaw34_HelloReceives.f
  rw [awake_yes _ (by omega), rvalid_eq]
  simp only [Option.bind_some, if_true]
  by_cases hg : vb p l = true ∧ ¬ h < 1 ∧ ¬ h > 65536
  · obtain ⟨hv, h1, h2⟩ := hg
    rw [receive_eq p l seen h hv (by omega) (by omega), hv]
    simp only [Option.bind_some, if_true]
    rw [if_neg h1, decide_eq_false h2]
    simp only [waypointlaw34_HelloReceives.j0]
    rw [if_neg (by decide), rreceive_eq]
    simp [revent_eq]
  · have hb : vb p l = false ∨ h < 1 ∨ 65536 < h := by
      cases e : vb p l with
      | false => exact .inl rfl
      | true => simp [e] at hg; omega
    rw [receive_bad p l seen h hb]
    simp only [Option.bind_some]
    have e : ∀ b, (if vb p l = true then (if h < 1 then waypointlaw34_HelloReceives.j0 11 seen h 0 1 true p l 0 0 else waypointlaw34_HelloReceives.j0 11 seen h 0 1 (decide (h > 65536)) p l 0 0) else waypointlaw34_HelloReceives.j0 11 seen h 0 1 true p l 0 0) = some b ↔ waypointlaw34_HelloReceives.j0 11 seen h 0 1 true p l 0 0 = some b := by
      intro b
      cases e : vb p l with
      | false => simp
      | true =>
        rw [if_pos rfl]
        by_cases h1 : h < 1
        · rw [if_pos h1]
        · rw [if_neg h1, decide_eq_true (by simp [e] at hb; omega)]
    rw [e]
    simp [waypointlaw34_HelloReceives.j0]

end Go.Proofs.Ytopdnkihecomnaa.Pure

/- The pure statement of HelloScript: in every sequence of up to 60 hellos and ticks, the phase is Up exactly if the last hello was seen and arrived less than its hold time ago, and the events tell every change. -/
import Derived.Test.YtopdnkihecomnaaHelA
import Derived.Test.YtopdnkihecomnaaPT3412
namespace Go.Proofs.Ytopdnkihecomnaa.Pure
open Go.RowKit Go.Proofs.Ytopdnkihecomnaa.PT34 Go.Proofs.Ytopdnkihecomnaa.Hel Go.Proofs.YtopdnkihecomnaaW.PrintWords Go.Proofs.YtopdnkihecomnaaW.PrintLast

/-- What the end of a round comes to: on to the next step. -/
theorem round_end (k : Nat) (l : List S35) (up : Bool) (left : Int) (seen : Bool) (i event ph lf : Int) (now : Bool) (hnow : now = (decide (left > 0) && seen)) (hup : (ph == 2) = now) (hz : (ph == 0) = (left == 0)) (hl : lf = left)
    (he : event = if now && !up then 1 else if up && !now then 2 else 0) :
    waypointlaw34_HelloScript.j1 (k + 5) l up left seen i event 0 ph lf = waypointlaw34_HelloScript.l0 k l now left seen (wrap64 (i + 1)) ph lf := by
  subst hl
  have h2 : (if lf > 0 then waypointlaw34_HelloScript.j2 (k + 4) l up lf seen i event 0 seen ph lf else waypointlaw34_HelloScript.j2 (k + 4) l up lf seen i event 0 false ph lf) = waypointlaw34_HelloScript.j2 (k + 4) l up lf seen i event 0 now ph lf := by
    by_cases h : lf > 0
    · rw [if_pos h, hnow, decide_eq_true h, Bool.true_and]
    · rw [if_neg h, hnow, decide_eq_false h, Bool.false_and]
  show (if lf > 0 then waypointlaw34_HelloScript.j2 (k + 4) l up lf seen i event 0 seen ph lf else waypointlaw34_HelloScript.j2 (k + 4) l up lf seen i event 0 false ph lf) = _
  rw [h2]
  clear h2 hnow
  subst he
  have g1 : ((ph == 2) != now) = false := by rw [hup]; cases now <;> rfl
  have g2 : ((ph == 0) != (lf == 0)) = false := by rw [hz]; cases (lf == 0) <;> rfl
  simp only [waypointlaw34_HelloScript.j2, waypointlaw34_HelloScript.j3, waypointlaw34_HelloScript.j4, waypointlaw34_HelloScript.j5]
  cases up <;> cases now <;> simp [g1, g2]
theorem script_loop (l : List S35) (hw : ∀ x ∈ l, (Lit.int .i64 x.f2).wf = true) (hl : l.length ≤ 60) : ∀ (d i k : Nat) (up : Bool) (left : Int) (seen : Bool) (ph : Int), d + i = l.length → 10 * d + 10 < k →
    vb ph left = true → up = (decide (left > 0) && seen) → (ph == 2) = up → (ph == 0) = (left == 0) →
    waypointlaw34_HelloScript.l0 k l up left seen (i : Int) ph left = some true := by
  intro d
  induction d with
  | zero =>
    intro i k up left seen ph hd hk _ _ _ _
    obtain ⟨k, rfl⟩ : ∃ m, k = m + 1 := ⟨k - 1, by omega⟩
    simp only [waypointlaw34_HelloScript.l0]
    rw [if_neg (by omega)]
  | succ d ih =>
    intro i k up left seen ph hd hk hv hup h2 h0
    obtain ⟨k, rfl⟩ : ∃ m, k = m + 6 := ⟨k - 6, by omega⟩
    rw [show k + 6 = (k + 5) + 1 from rfl]
    simp only [waypointlaw34_HelloScript.l0]
    rw [if_pos (by omega), if_pos (by omega)]
    have hx : (Lit.int .i64 (rd_T35 l (i : Int)).f2).wf = true := hw _ (by simp [rd_T35, show i < l.length by omega])
    generalize rd_T35 l (i : Int) = x at hx ⊢
    simp [Lit.wf, IntKind.min, IntKind.max, IntKind.signed, IntKind.bits] at hx
    have hw1 : wrap64 ((i : Int) + 1) = ((i + 1 : Nat) : Int) := by rw [wrap_id (by omega) (by omega)]; omega
    rw [hw1]
    have hv' := hv
    rw [vb_iff] at hv'
    by_cases hh : x.f0 = true
    · rw [if_pos hh]
      by_cases h3 : x.f2 < 1
      · rw [if_pos h3]
        exact ih (i + 1) (k + 5) up left seen ph (by omega) (by omega) hv hup h2 h0
      rw [if_neg h3]
      by_cases h4 : x.f2 > 65536
      · rw [if_pos h4]
        exact ih (i + 1) (k + 5) up left seen ph (by omega) (by omega) hv hup h2 h0
      rw [if_neg h4, receive_eq _ _ _ _ hv (by omega) (by omega)]
      simp only [Option.bind_some]
      rw [round_end k l up x.f2 x.f1 i _ _ _ x.f1 (by rw [decide_eq_true (by omega)]; simp) (by cases x.f1 <;> rfl) (by rw [show (x.f2 == 0) = false from beq_eq_false_iff_ne.2 (by omega)]; cases x.f1 <;> rfl) rfl (by
        have hp : ph = 2 ↔ up = true := by rw [← h2]; simp
        unfold ev
        cases hu : up <;> cases x.f1 <;> simp [hu] at hp <;> simp [hp])]
      rw [hw1]
      exact ih (i + 1) k x.f1 x.f2 x.f1 _ (by omega) (by omega) (by rw [vb_iff]; cases x.f1 <;> simp <;> omega) (by rw [decide_eq_true (by omega)]; simp) (by cases x.f1 <;> rfl) (by rw [show (x.f2 == 0) = false from beq_eq_false_iff_ne.2 (by omega)]; cases x.f1 <;> rfl)
    · rw [if_neg hh, tick_eq _ (by omega) _ _ _ hv]
      simp only [Option.bind_some]
      have et : wrap64 (left - mn left (mx 0 x.f2)) = tl left x.f2 := by
        have e : left - mn left (mx 0 x.f2) = tl left x.f2 := by
          unfold mn mx tl
          repeat' split
          all_goals omega
        have hb := tl_bound x.f2 hv
        rw [e, wrap_id (by omega) (by omega)]
      rw [et]
      have hb := tl_bound x.f2 hv
      have hvn := tick_valid x.f2 hv
      have g0 : (tp ph left x.f2 == 0) = (tl left x.f2 == 0) := by
        rw [vb_iff] at hvn
        rw [Bool.eq_iff_iff]
        simp
        omega
      have g2 : (tp ph left x.f2 == 2) = (decide (tl left x.f2 > 0) && seen) := by
        rw [vb_iff] at hvn
        rw [Bool.eq_iff_iff]
        simp only [beq_iff_eq, Bool.and_eq_true, decide_eq_true_eq]
        by_cases hz : tl left x.f2 = 0
        · rw [hz] at hvn ⊢
          constructor
          · intro h
            omega
          · intro h
            omega
        · have : tp ph left x.f2 = ph := by unfold tp; rw [if_neg hz]
          rw [this]
          have hp : ph = 2 ↔ up = true := by rw [← h2]; simp
          rw [hp, hup, decide_eq_true (by omega)]
          simp
          omega
      rw [round_end k l up (tl left x.f2) seen i _ _ _ (tp ph left x.f2 == 2) g2 rfl g0 rfl (by
        have hp : ph = 2 ↔ up = true := by rw [← h2]; simp
        unfold ev
        by_cases hq : tp ph left x.f2 = 2
        · rw [if_pos hq, hq]
          cases hu : up <;> simp [hu] at hp <;> simp [hp]
        · rw [if_neg hq, show (tp ph left x.f2 == 2) = false from beq_eq_false_iff_ne.2 hq]
          cases hu : up <;> simp [hu] at hp <;> simp [hp])]
      rw [hw1]
      exact ih (i + 1) k _ _ seen _ (by omega) (by omega) hvn g2 rfl g0
theorem HelloScript : ∀ (l0 : List S35), (l0.length * 16 ≤ 140737488351232 ∧ ∀ x ∈ l0, (True) ∧ (True) ∧ ((Lit.int .i64 x.f2).wf = true)) → ∃ k, waypointlaw34_HelloScript.f k l0 = some true := by
  rintro l ⟨_, hw⟩
  refine ⟨1000, ?_⟩
  unfold waypointlaw34_HelloScript.f
  rw [awake_yes _ (by omega)]
  simp only [Option.bind_some, if_true]
  by_cases hl : (l.length : Int) > 60
  · rw [if_pos hl]
  · rw [if_neg hl]
    exact script_loop l (fun x hx => (hw x hx).2.2) (by omega) l.length 0 1000 false 0 false 0 (by omega) (by omega) (by decide) (by decide) (by decide) (by decide)

end Go.Proofs.Ytopdnkihecomnaa.Pure

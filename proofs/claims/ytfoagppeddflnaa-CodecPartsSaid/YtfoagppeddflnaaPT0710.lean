-- WRITTEN BY mygen.py, a program of mine over the kit's print; Lean checks every row
import Derived.Test.YtfoagppeddflnaaPT070
namespace Go.Proofs.Ytfoagppeddflnaa.PT07
open Go.RowKit Go.Proofs.YtfoagppeddflnaaW.PrintWords Go.Proofs.YtfoagppeddflnaaW.PrintLast Go.Proofs.YtfoagppeddflnaaW.PrintMore
attribute [local go_sem] max2_int min2_int max_two min_two max_three min_three max_four min_four   -- for this text's walks alone
set_option linter.unusedVariables false
set_option linter.unusedSimpArgs false

/-! ### waypointref07_Same: function 15 -/
def waypointref07_Same.l0 : Nat → List (S43) → List (S43) → Int → Option (Bool)
  | 0, _, _, _ => none
  | k + 1, x0, x1, x5 => if x5 < (x0.length : Int) then (if 0 ≤ x5 then (if x5 < (x1.length : Int) then (if ((rd_T43 x0 x5).f0) = ((rd_T43 x1 x5).f0) then (if (strOfNums ((rd_T43 x0 x5).f1)).toList = (strOfNums ((rd_T43 x1 x5).f1)).toList then (waypointref07_Same.l0 k x0 x1 (wrap64 (x5 + 1))) else (some false)) else (some false)) else (none)) else (none)) else (some true)
def waypointref07_Same.f (k : Nat) (l0 : List (S43)) (l1 : List (S43)) : Option (Bool) := if (l0.length : Int) = (l1.length : Int) then (waypointref07_Same.l0 k l0 l1 0) else (some false)
theorem waypointref07_Same.mono_l : ∀ k, (∀ y0 y1 y2, LeO (waypointref07_Same.l0 k y0 y1 y2) (waypointref07_Same.l0 (k + 1) y0 y1 y2))
  | 0 => fun _ _ _ r h => by simp [waypointref07_Same.l0] at h
  | k + 1 => by
    have ih0 := waypointref07_Same.mono_l k
    · intro y0 y1 y2
      unfold waypointref07_Same.l0
      repeat' first
      | (with_reducible exact ih0 _ _ _)
      | (with_reducible exact LeO.refl _)
      | (with_reducible exact LeO.none _)
      | (with_reducible refine LeO.ite ?_ ?_)
      | (with_reducible refine LeO.bind ?_ (fun _ => ?_))
      | exact ih0 _ _ _
      | exact LeO.none _
      | refine LeO.ite ?_ ?_
      | refine LeO.bind ?_ (fun _ => ?_)
theorem waypointref07_Same.mono : ∀ a0 a1 k, LeO (waypointref07_Same.f k a0 a1) (waypointref07_Same.f (k + 1) a0 a1) := by
  intro a0 a1 k
  have ih0 := waypointref07_Same.mono_l k
  unfold waypointref07_Same.f
  repeat' first
      | (with_reducible exact ih0 _ _ _)
      | (with_reducible exact LeO.refl _)
      | (with_reducible exact LeO.none _)
      | (with_reducible refine LeO.ite ?_ ?_)
      | (with_reducible refine LeO.bind ?_ (fun _ => ?_))
      | exact ih0 _ _ _
      | exact LeO.none _
      | refine LeO.ite ?_ ?_
      | refine LeO.bind ?_ (fun _ => ?_)
set_option maxHeartbeats 8000000 in
set_option maxRecDepth 100000 in
theorem waypointref07_Same.calls (k : Nat) (A0 : Option Addr) (c0 : Nat) (l0 : List (S43)) (A1 : Option Addr) (c1 : Nat) (l1 : List (S43)) (r : Bool) (w : World) (hr0 : Kd.C k43 w A0 l0.length l0) (hc0 : l0.length ≤ c0) (hr1 : Kd.C k43 w A1 l1.length l1) (hc1 : l1.length ≤ c1) (h : waypointref07_Same.f k l0 l1 = some r) :
    Calls Try.prog 15 #[.slice A0 l0.length c0, .slice A1 l1.length c1] w fun e w' => e = .returned (.bool r) ∧ Drawn0 w w' := by
  have HR0 := Aside0.mk hr0
  have HC0 := Aside0.mk hc0
  clear hr0 hc0
  have HR1 := Aside0.mk hr1
  have HC1 := Aside0.mk hc1
  clear hr1 hc1
  have H : (if (l0.length : Int) = (l1.length : Int) then (waypointref07_Same.l0 k l0 l1 0) else (some false)) = some r := h
  clear h
  by_cases c3 : (l0.length : Int) = (l1.length : Int)
  · rw [if_pos c3] at H
    have c3b0 : ((l0.length : Int) == (l1.length : Int)) = true := beq_iff_eq.mpr c3
    have c3b1 : ((l0.length : Int) != (l1.length : Int)) = false := bne_eq_false_iff_eq.mpr c3
    have c3b2 : (l0.length == l1.length) = true := by first | simpa using c3 | (simp at c3 ⊢; omega)
    clear c3
    have H' := Aside0.mk H
    clear H
    go_enter Try.func15, Try.ntmps15
    go_wp2
    repeat (go_quiet (fail); try go_wp2)
    go_loopg [5] k (fun kq v5 w' => ∃ (x5_1 : Int), v5 = .int .i64 x5_1 ∧ Aside0 (waypointref07_Same.l0 kq l0 l1 x5_1 = some r) ∧ Aside0 (kq ≤ k) ∧ Drawn0 w w')
    case atStart => exact ⟨(0), (by first | rfl | (simp; done) | (simp [*]; done)), H', ⟨Nat.le_refl _⟩, by repeat (first | exact Drawn0.refl _ | apply Drawn0.step)⟩
    case round =>
      clear H'
      try clear c1
      try clear p2
      try clear c3
      try clear c3b0
      try clear c3b1
      try clear c3b2
      obtain ⟨x5_1, rfl, HA, HK1, ⟨m1, rfl⟩⟩ := hrel
      cases gk with
      | zero => exact absurd HA.out (by simp [waypointref07_Same.l0])
      | succ k1 =>
        have H := HA.out
        clear HA
        simp only [waypointref07_Same.l0] at H
        by_cases c4 : x5_1 < (l0.length : Int)
        · rw [if_pos c4] at H
          have c4b0 : decide (x5_1 < (l0.length : Int)) = true := decide_eq_true c4
          clear c4
          by_cases c5 : 0 ≤ x5_1
          · rw [if_pos c5] at H
            have c5b0 : decide (0 ≤ x5_1) = true := decide_eq_true c5
            clear c5
            by_cases c6 : x5_1 < (l1.length : Int)
            · rw [if_pos c6] at H
              have c6b0 : decide (x5_1 < (l1.length : Int)) = true := decide_eq_true c6
              clear c6
              by_cases c7 : ((rd_T43 l0 x5_1).f0) = ((rd_T43 l1 x5_1).f0)
              · rw [if_pos c7] at H
                have c7b0 : (((rd_T43 l0 x5_1).f0) == ((rd_T43 l1 x5_1).f0)) = true := beq_iff_eq.mpr c7
                have c7b1 : (((rd_T43 l0 x5_1).f0) != ((rd_T43 l1 x5_1).f0)) = false := bne_eq_false_iff_eq.mpr c7
                clear c7
                by_cases c8 : (strOfNums ((rd_T43 l0 x5_1).f1)).toList = (strOfNums ((rd_T43 l1 x5_1).f1)).toList
                · rw [if_pos c8] at H
                  have c8b0 : ((strOfNums ((rd_T43 l0 x5_1).f1)).toList == (strOfNums ((rd_T43 l1 x5_1).f1)).toList) = true := beq_iff_eq.mpr c8
                  have c8b1 : ((strOfNums ((rd_T43 l0 x5_1).f1)).toList != (strOfNums ((rd_T43 l1 x5_1).f1)).toList) = false := bne_eq_false_iff_eq.mpr c8
                  clear c8
                  have H' := Aside0.mk H
                  clear H
                  have p176 : 0 ≤ (x5_1 : Int) := of_decide_eq_true (by first | (with_reducible assumption) | assumption)
                  have q176 : x5_1 < (l0.length : Int) := of_decide_eq_true (by first | (with_reducible assumption) | assumption)
                  obtain ⟨ad176, A176_1, c176_1, e176, hx176_0, hx176_1, hl176_1, hi176_1⟩ := at_T43 HR0.out x5_1 p176 q176
                  cases e176
                  have HR176_1 := Aside0.mk hi176_1
                  have HC176_1 := Aside0.mk hl176_1
                  clear hi176_1 hl176_1
                  replace p176 := eq_true p176
                  replace q176 := eq_true q176
                  have p177 : 0 ≤ (x5_1 : Int) := of_decide_eq_true (by first | (with_reducible assumption) | assumption)
                  have q177 : x5_1 < (l1.length : Int) := of_decide_eq_true (by first | (with_reducible assumption) | assumption)
                  obtain ⟨ad177, A177_1, c177_1, e177, hx177_0, hx177_1, hl177_1, hi177_1⟩ := at_T43 HR1.out x5_1 p177 q177
                  cases e177
                  have HR177_1 := Aside0.mk hi177_1
                  have HC177_1 := Aside0.mk hl177_1
                  clear hi177_1 hl177_1
                  replace p177 := eq_true p177
                  replace q177 := eq_true q177
                  have p178 : 0 ≤ (x5_1 : Int) := of_decide_eq_true (by first | (with_reducible assumption) | assumption)
                  have q178 : x5_1 < (l0.length : Int) := of_decide_eq_true (by first | (with_reducible assumption) | assumption)
                  obtain ⟨ad178, A178_1, c178_1, e178, hx178_0, hx178_1, hl178_1, hi178_1⟩ := at_T43 HR0.out x5_1 p178 q178
                  obtain rfl : ad176 = ad178 := (by injection e178)
                  have HR178_1 := Aside0.mk hi178_1
                  have HC178_1 := Aside0.mk hl178_1
                  clear hi178_1 hl178_1
                  replace p178 := eq_true p178
                  replace q178 := eq_true q178
                  have ea_ := Option.some.inj (hx176_1.symm.trans hx178_1)
                  injection ea_ with ea_ en_ ec_
                  subst ea_
                  subst ec_
                  clear en_
                  have hcv9 := Kd.C_string (P := Try.prog) (A := A176_1) (c := c176_1) Try.underlying27 Try.underlying5 Try.underlying9 HR178_1.out
                  have hcv9n := fun n_ => Kd.C_string (P := Try.prog) (A := A176_1) (c := c176_1) Try.underlying27 Try.underlying5 Try.underlying9 (Kd.C_drewN HR178_1.out n_)
                  have p179 : 0 ≤ (x5_1 : Int) := of_decide_eq_true (by first | (with_reducible assumption) | assumption)
                  have q179 : x5_1 < (l1.length : Int) := of_decide_eq_true (by first | (with_reducible assumption) | assumption)
                  obtain ⟨ad179, A179_1, c179_1, e179, hx179_0, hx179_1, hl179_1, hi179_1⟩ := at_T43 HR1.out x5_1 p179 q179
                  obtain rfl : ad177 = ad179 := (by injection e179)
                  have HR179_1 := Aside0.mk hi179_1
                  have HC179_1 := Aside0.mk hl179_1
                  clear hi179_1 hl179_1
                  replace p179 := eq_true p179
                  replace q179 := eq_true q179
                  have ea_ := Option.some.inj (hx177_1.symm.trans hx179_1)
                  injection ea_ with ea_ en_ ec_
                  subst ea_
                  subst ec_
                  clear en_
                  have hcv10 := Kd.C_string (P := Try.prog) (A := A177_1) (c := c177_1) Try.underlying27 Try.underlying5 Try.underlying9 HR179_1.out
                  have hcv10n := fun n_ => Kd.C_string (P := Try.prog) (A := A177_1) (c := c177_1) Try.underlying27 Try.underlying5 Try.underlying9 (Kd.C_drewN HR179_1.out n_)
                  go_wp2
                  repeat (go_quiet (fail); try go_wp2)
                  go_roundg k1
                  case measure => have := HK1.out; omega
                  case rel => exact ⟨(wrap64 (x5_1 + 1)), (by first | rfl | (simp; done) | (simp [*]; done)), H', ⟨by have := HK1.out; omega⟩, by repeat (first | exact Drawn0.refl _ | apply Drawn0.step)⟩
                · rw [if_neg c8] at H
                  have c8b0 : ((strOfNums ((rd_T43 l0 x5_1).f1)).toList == (strOfNums ((rd_T43 l1 x5_1).f1)).toList) = false := beq_eq_false_iff_ne.mpr c8
                  have c8b1 : ((strOfNums ((rd_T43 l0 x5_1).f1)).toList != (strOfNums ((rd_T43 l1 x5_1).f1)).toList) = true := bne_iff_ne.mpr c8
                  obtain rfl := Option.some.inj H
                  have p176 : 0 ≤ (x5_1 : Int) := of_decide_eq_true (by first | (with_reducible assumption) | assumption)
                  have q176 : x5_1 < (l0.length : Int) := of_decide_eq_true (by first | (with_reducible assumption) | assumption)
                  obtain ⟨ad176, A176_1, c176_1, e176, hx176_0, hx176_1, hl176_1, hi176_1⟩ := at_T43 HR0.out x5_1 p176 q176
                  cases e176
                  have HR176_1 := Aside0.mk hi176_1
                  have HC176_1 := Aside0.mk hl176_1
                  clear hi176_1 hl176_1
                  replace p176 := eq_true p176
                  replace q176 := eq_true q176
                  have p177 : 0 ≤ (x5_1 : Int) := of_decide_eq_true (by first | (with_reducible assumption) | assumption)
                  have q177 : x5_1 < (l1.length : Int) := of_decide_eq_true (by first | (with_reducible assumption) | assumption)
                  obtain ⟨ad177, A177_1, c177_1, e177, hx177_0, hx177_1, hl177_1, hi177_1⟩ := at_T43 HR1.out x5_1 p177 q177
                  cases e177
                  have HR177_1 := Aside0.mk hi177_1
                  have HC177_1 := Aside0.mk hl177_1
                  clear hi177_1 hl177_1
                  replace p177 := eq_true p177
                  replace q177 := eq_true q177
                  have p178 : 0 ≤ (x5_1 : Int) := of_decide_eq_true (by first | (with_reducible assumption) | assumption)
                  have q178 : x5_1 < (l0.length : Int) := of_decide_eq_true (by first | (with_reducible assumption) | assumption)
                  obtain ⟨ad178, A178_1, c178_1, e178, hx178_0, hx178_1, hl178_1, hi178_1⟩ := at_T43 HR0.out x5_1 p178 q178
                  obtain rfl : ad176 = ad178 := (by injection e178)
                  have HR178_1 := Aside0.mk hi178_1
                  have HC178_1 := Aside0.mk hl178_1
                  clear hi178_1 hl178_1
                  replace p178 := eq_true p178
                  replace q178 := eq_true q178
                  have ea_ := Option.some.inj (hx176_1.symm.trans hx178_1)
                  injection ea_ with ea_ en_ ec_
                  subst ea_
                  subst ec_
                  clear en_
                  have hcv11 := Kd.C_string (P := Try.prog) (A := A176_1) (c := c176_1) Try.underlying27 Try.underlying5 Try.underlying9 HR178_1.out
                  have hcv11n := fun n_ => Kd.C_string (P := Try.prog) (A := A176_1) (c := c176_1) Try.underlying27 Try.underlying5 Try.underlying9 (Kd.C_drewN HR178_1.out n_)
                  have p179 : 0 ≤ (x5_1 : Int) := of_decide_eq_true (by first | (with_reducible assumption) | assumption)
                  have q179 : x5_1 < (l1.length : Int) := of_decide_eq_true (by first | (with_reducible assumption) | assumption)
                  obtain ⟨ad179, A179_1, c179_1, e179, hx179_0, hx179_1, hl179_1, hi179_1⟩ := at_T43 HR1.out x5_1 p179 q179
                  obtain rfl : ad177 = ad179 := (by injection e179)
                  have HR179_1 := Aside0.mk hi179_1
                  have HC179_1 := Aside0.mk hl179_1
                  clear hi179_1 hl179_1
                  replace p179 := eq_true p179
                  replace q179 := eq_true q179
                  have ea_ := Option.some.inj (hx177_1.symm.trans hx179_1)
                  injection ea_ with ea_ en_ ec_
                  subst ea_
                  subst ec_
                  clear en_
                  have hcv12 := Kd.C_string (P := Try.prog) (A := A177_1) (c := c177_1) Try.underlying27 Try.underlying5 Try.underlying9 HR179_1.out
                  have hcv12n := fun n_ => Kd.C_string (P := Try.prog) (A := A177_1) (c := c177_1) Try.underlying27 Try.underlying5 Try.underlying9 (Kd.C_drewN HR179_1.out n_)
                  go_wp2
                  repeat (go_quiet (fail); try go_wp2)
                  go_ret
                  exact ⟨by first | rfl | (simp; done) | (simp [*]; done), by repeat (first | exact Drawn0.refl _ | apply Drawn0.step)⟩
              · rw [if_neg c7] at H
                have c7b0 : (((rd_T43 l0 x5_1).f0) == ((rd_T43 l1 x5_1).f0)) = false := beq_eq_false_iff_ne.mpr c7
                have c7b1 : (((rd_T43 l0 x5_1).f0) != ((rd_T43 l1 x5_1).f0)) = true := bne_iff_ne.mpr c7
                obtain rfl := Option.some.inj H
                have p176 : 0 ≤ (x5_1 : Int) := of_decide_eq_true (by first | (with_reducible assumption) | assumption)
                have q176 : x5_1 < (l0.length : Int) := of_decide_eq_true (by first | (with_reducible assumption) | assumption)
                obtain ⟨ad176, A176_1, c176_1, e176, hx176_0, hx176_1, hl176_1, hi176_1⟩ := at_T43 HR0.out x5_1 p176 q176
                cases e176
                have HR176_1 := Aside0.mk hi176_1
                have HC176_1 := Aside0.mk hl176_1
                clear hi176_1 hl176_1
                replace p176 := eq_true p176
                replace q176 := eq_true q176
                have p177 : 0 ≤ (x5_1 : Int) := of_decide_eq_true (by first | (with_reducible assumption) | assumption)
                have q177 : x5_1 < (l1.length : Int) := of_decide_eq_true (by first | (with_reducible assumption) | assumption)
                obtain ⟨ad177, A177_1, c177_1, e177, hx177_0, hx177_1, hl177_1, hi177_1⟩ := at_T43 HR1.out x5_1 p177 q177
                cases e177
                have HR177_1 := Aside0.mk hi177_1
                have HC177_1 := Aside0.mk hl177_1
                clear hi177_1 hl177_1
                replace p177 := eq_true p177
                replace q177 := eq_true q177
                go_wp2
                repeat (go_quiet (fail); try go_wp2)
                go_ret
                exact ⟨by first | rfl | (simp; done) | (simp [*]; done), by repeat (first | exact Drawn0.refl _ | apply Drawn0.step)⟩
            · rw [if_neg c6] at H
              exact absurd H (by simp)
          · rw [if_neg c5] at H
            exact absurd H (by simp)
        · rw [if_neg c4] at H
          have c4b0 : decide (x5_1 < (l0.length : Int)) = false := decide_eq_false c4
          clear c4
          obtain rfl := Option.some.inj H
          go_wp2
          repeat (go_quiet (fail); try go_wp2)
          go_ret
          exact ⟨by first | rfl | (simp; done) | (simp [*]; done), by repeat (first | exact Drawn0.refl _ | apply Drawn0.step)⟩
  · rw [if_neg c3] at H
    have c3b0 : ((l0.length : Int) == (l1.length : Int)) = false := beq_eq_false_iff_ne.mpr c3
    have c3b1 : ((l0.length : Int) != (l1.length : Int)) = true := bne_iff_ne.mpr c3
    have c3b2 : (l0.length == l1.length) = false := by first | simpa using c3 | (simp at c3 ⊢; omega)
    obtain rfl := Option.some.inj H
    go_enter Try.func15, Try.ntmps15
    go_wp2
    repeat (go_quiet (fail); try go_wp2)
    go_ret
    exact ⟨by first | rfl | (simp; done) | (simp [*]; done), by repeat (first | exact Drawn0.refl _ | apply Drawn0.step)⟩

end Go.Proofs.Ytfoagppeddflnaa.PT07

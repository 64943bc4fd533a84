-- WRITTEN BY mygen.py, a program of mine over the kit's print; Lean checks every row
import Derived.Test.YtfoagppeddflnaaPT070
namespace Go.Proofs.Ytfoagppeddflnaa.PT07
open Go.RowKit Go.Proofs.YtfoagppeddflnaaW.PrintWords Go.Proofs.YtfoagppeddflnaaW.PrintLast Go.Proofs.YtfoagppeddflnaaW.PrintMore
attribute [local go_sem] max2_int min2_int max_two min_two max_three min_three max_four min_four   -- for this text's walks alone
set_option linter.unusedVariables false
set_option linter.unusedSimpArgs false

/-! ### waypointref07_Fits: function 21 -/
def waypointref07_Fits.l0 : Nat → Int → Int → Int → Option (Bool)
  | 0, _, _, _ => none
  | k + 1, x0, x1, x5 => if x5 < x1 then (waypointref07_Fits.l0 k (IntKind.u64.wrap (Int.tdiv x0 256)) x1 (wrap64 (x5 + 1))) else (some (x0 == 0))
def waypointref07_Fits.f (k : Nat) (a0 : Int) (a1 : Int) : Option (Bool) := waypointref07_Fits.l0 k a0 a1 0
theorem waypointref07_Fits.mono_l : ∀ k, (∀ y0 y1 y2, LeO (waypointref07_Fits.l0 k y0 y1 y2) (waypointref07_Fits.l0 (k + 1) y0 y1 y2))
  | 0 => fun _ _ _ r h => by simp [waypointref07_Fits.l0] at h
  | k + 1 => by
    have ih0 := waypointref07_Fits.mono_l k
    · intro y0 y1 y2
      unfold waypointref07_Fits.l0
      repeat' first
      | (with_reducible exact ih0 _ _ _)
      | (with_reducible exact LeO.refl _)
      | (with_reducible exact LeO.none _)
      | (with_reducible refine LeO.ite ?_ ?_)
      | (with_reducible refine LeO.bind ?_ (fun _ => ?_))
      | exact ih0 _ _ _
      | exact LeO.none _
      | refine LeO.ite ?_ ?_
      | refine LeO.bind ?_ (fun _ => ?_)
theorem waypointref07_Fits.mono : ∀ a0 a1 k, LeO (waypointref07_Fits.f k a0 a1) (waypointref07_Fits.f (k + 1) a0 a1) := by
  intro a0 a1 k
  have ih0 := waypointref07_Fits.mono_l k
  unfold waypointref07_Fits.f
  repeat' first
      | (with_reducible exact ih0 _ _ _)
      | (with_reducible exact LeO.refl _)
      | (with_reducible exact LeO.none _)
      | (with_reducible refine LeO.ite ?_ ?_)
      | (with_reducible refine LeO.bind ?_ (fun _ => ?_))
      | exact ih0 _ _ _
      | exact LeO.none _
      | refine LeO.ite ?_ ?_
      | refine LeO.bind ?_ (fun _ => ?_)
set_option maxHeartbeats 8000000 in
set_option maxRecDepth 100000 in
theorem waypointref07_Fits.calls (k : Nat) (a0 : Int) (a1 : Int) (r : Bool) (w : World) (h : waypointref07_Fits.f k a0 a1 = some r) :
    Calls Try.prog 21 #[.int .u64 a0, .int .i64 a1] w fun e w' => e = .returned (.bool r) ∧ Drawn0 w w' := by
  have H : (waypointref07_Fits.l0 k a0 a1 0) = some r := h
  clear h
  have H' := Aside0.mk H
  clear H
  go_enter Try.func21, Try.ntmps21
  go_wp2
  go_loopg [0, 5] k (fun kq v0 v5 w' => ∃ (x0_1 : Int) (x5_1 : Int), v0 = .int .u64 x0_1 ∧ v5 = .int .i64 x5_1 ∧ Aside0 (waypointref07_Fits.l0 kq x0_1 a1 x5_1 = some r) ∧ Aside0 (kq ≤ k) ∧ Drawn0 w w')
  case atStart => exact ⟨(a0), (0), (by first | rfl | (simp; done) | (simp [*]; done)), (by first | rfl | (simp; done) | (simp [*]; done)), H', ⟨Nat.le_refl _⟩, by repeat (first | exact Drawn0.refl _ | apply Drawn0.step)⟩
  case round =>
    clear H'
    try clear c2
    try clear p2
    obtain ⟨x0_1, x5_1, rfl, rfl, HA, HK1, ⟨m1, rfl⟩⟩ := hrel
    cases gk with
    | zero => exact absurd HA.out (by simp [waypointref07_Fits.l0])
    | succ k1 =>
      have H := HA.out
      clear HA
      simp only [waypointref07_Fits.l0] at H
      by_cases c3 : x5_1 < a1
      · rw [if_pos c3] at H
        have c3b0 : decide (x5_1 < a1) = true := decide_eq_true c3
        clear c3
        have H' := Aside0.mk H
        clear H
        go_wp2
        go_roundg k1
        case measure => have := HK1.out; omega
        case rel => exact ⟨(IntKind.u64.wrap (Int.tdiv x0_1 256)), (wrap64 (x5_1 + 1)), (by first | rfl | (simp; done) | (simp [*]; done)), (by first | rfl | (simp; done) | (simp [*]; done)), H', ⟨by have := HK1.out; omega⟩, by repeat (first | exact Drawn0.refl _ | apply Drawn0.step)⟩
      · rw [if_neg c3] at H
        have c3b0 : decide (x5_1 < a1) = false := decide_eq_false c3
        clear c3
        obtain rfl := Option.some.inj H
        go_wp2
        go_ret
        exact ⟨by first | rfl | (simp; done) | (simp [*]; done), by repeat (first | exact Drawn0.refl _ | apply Drawn0.step)⟩

end Go.Proofs.Ytfoagppeddflnaa.PT07

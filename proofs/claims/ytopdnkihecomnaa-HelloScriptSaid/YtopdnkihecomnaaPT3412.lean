-- WRITTEN BY mygen.py, a program of mine over the kit's print; Lean checks every row
import Derived.Test.YtopdnkihecomnaaPT340
import Derived.Test.YtopdnkihecomnaaPT345
import Derived.Test.YtopdnkihecomnaaPT346
import Derived.Test.YtopdnkihecomnaaPT347
namespace Go.Proofs.Ytopdnkihecomnaa.PT34
open Go.RowKit Go.Proofs.YtopdnkihecomnaaW.PrintWords Go.Proofs.YtopdnkihecomnaaW.PrintLast Go.Proofs.YtopdnkihecomnaaW.PrintMore
attribute [local go_sem] max2_int min2_int max_two min_two max_three min_three max_four min_four   -- for this text's walks alone
set_option linter.unusedVariables false
set_option linter.unusedSimpArgs false

/-! ### waypointlaw34_HelloScript: function 4 -/
mutual
def waypointlaw34_HelloScript.l0 : Nat → List (S35) → Bool → Int → Bool → Int → Int → Int → Option (Bool)
  | 0, _, _, _, _, _, _, _ => none
  | k + 1, x0, x4, x5, x6, x7, x154000, x154001 => if x7 < (x0.length : Int) then (if 0 ≤ x7 then (if (rd_T35 x0 x7).f0 = true then (if ((rd_T35 x0 x7).f2) < 1 then (waypointlaw34_HelloScript.l0 k x0 x4 x5 x6 (wrap64 (x7 + 1)) x154000 x154001) else (if ((rd_T35 x0 x7).f2) > 65536 then (waypointlaw34_HelloScript.l0 k x0 x4 x5 x6 (wrap64 (x7 + 1)) x154000 x154001) else ((hello_Receive.f x154000 x154001 ((rd_T35 x0 x7).f1) ((rd_T35 x0 x7).f2)).bind fun bt157 => (waypointlaw34_HelloScript.j1 k x0 x4 ((rd_T35 x0 x7).f2) ((rd_T35 x0 x7).f1) x7 bt157.2.2.1 bt157.2.2.2 bt157.1 bt157.2.1)))) else ((hello_Tick.f k x154000 x154001 ((rd_T35 x0 x7).f2)).bind fun bt162 => (waypointlaw34_HelloScript.j1 k x0 x4 (wrap64 (x5 - (mn x5 (mx 0 ((rd_T35 x0 x7).f2))))) x6 x7 bt162.2.2.1 bt162.2.2.2 bt162.1 bt162.2.1))) else (none)) else (some true)
def waypointlaw34_HelloScript.j1 : Nat → List (S35) → Bool → Int → Bool → Int → Int → Int → Int → Int → Option (Bool)
  | 0, _, _, _, _, _, _, _, _, _ => none
  | k + 1, x0, x4, x5, x6, x7, x9, x10, x154000, x154001 => if x5 > 0 then (waypointlaw34_HelloScript.j2 k x0 x4 x5 x6 x7 x9 x10 x6 x154000 x154001) else (waypointlaw34_HelloScript.j2 k x0 x4 x5 x6 x7 x9 x10 false x154000 x154001)
def waypointlaw34_HelloScript.j2 : Nat → List (S35) → Bool → Int → Bool → Int → Int → Int → Bool → Int → Int → Option (Bool)
  | 0, _, _, _, _, _, _, _, _, _, _ => none
  | k + 1, x0, x4, x5, x6, x7, x9, x10, x11, x154000, x154001 => if x11 = true then (waypointlaw34_HelloScript.j3 k x0 x4 x5 x6 x7 x9 x10 x11 0 (!x4) x154000 x154001) else (waypointlaw34_HelloScript.j3 k x0 x4 x5 x6 x7 x9 x10 x11 0 false x154000 x154001)
def waypointlaw34_HelloScript.j3 : Nat → List (S35) → Bool → Int → Bool → Int → Int → Int → Bool → Int → Bool → Int → Int → Option (Bool)
  | 0, _, _, _, _, _, _, _, _, _, _, _, _ => none
  | k + 1, x0, x4, x5, x6, x7, x9, x10, x11, x12, x80, x154000, x154001 => if x80 = true then (waypointlaw34_HelloScript.j4 k x0 x4 x5 x6 x7 x9 x10 x11 1 x154000 x154001) else (waypointlaw34_HelloScript.j4 k x0 x4 x5 x6 x7 x9 x10 x11 x12 x154000 x154001)
def waypointlaw34_HelloScript.j4 : Nat → List (S35) → Bool → Int → Bool → Int → Int → Int → Bool → Int → Int → Int → Option (Bool)
  | 0, _, _, _, _, _, _, _, _, _, _, _ => none
  | k + 1, x0, x4, x5, x6, x7, x9, x10, x11, x12, x154000, x154001 => if x4 = true then (waypointlaw34_HelloScript.j5 k x0 x5 x6 x7 x9 x10 x11 x12 (!x11) x154000 x154001) else (waypointlaw34_HelloScript.j5 k x0 x5 x6 x7 x9 x10 x11 x12 false x154000 x154001)
def waypointlaw34_HelloScript.j5 : Nat → List (S35) → Int → Bool → Int → Int → Int → Bool → Int → Bool → Int → Int → Option (Bool)
  | 0, _, _, _, _, _, _, _, _, _, _, _ => none
  | k + 1, x0, x5, x6, x7, x9, x10, x11, x12, x85, x154000, x154001 => if x85 = true then (if x10 = 0 then (if x9 = 2 then (if ((x154000 == 2) != x11) = true then (some false) else (if ((x154000 == 0) != (x5 == 0)) = true then (some false) else (if x154001 = x5 then (waypointlaw34_HelloScript.l0 k x0 x11 x5 x6 (wrap64 (x7 + 1)) x154000 x154001) else (some false)))) else (some false)) else (some false)) else (if x10 = 0 then (if x9 = x12 then (if ((x154000 == 2) != x11) = true then (some false) else (if ((x154000 == 0) != (x5 == 0)) = true then (some false) else (if x154001 = x5 then (waypointlaw34_HelloScript.l0 k x0 x11 x5 x6 (wrap64 (x7 + 1)) x154000 x154001) else (some false)))) else (some false)) else (some false))
end
def waypointlaw34_HelloScript.f (k : Nat) (l0 : List (S35)) : Option (Bool) := (waypointlaw34_awake.f k).bind fun t152 => (if t152 = true then (if (l0.length : Int) > 60 then (some true) else (waypointlaw34_HelloScript.l0 k l0 false 0 false 0 0 0)) else (some false))
theorem waypointlaw34_HelloScript.mono_l : ∀ k, (∀ y0 y1 y2 y3 y4 y5 y6, LeO (waypointlaw34_HelloScript.l0 k y0 y1 y2 y3 y4 y5 y6) (waypointlaw34_HelloScript.l0 (k + 1) y0 y1 y2 y3 y4 y5 y6)) ∧ (∀ y0 y1 y2 y3 y4 y5 y6 y7 y8, LeO (waypointlaw34_HelloScript.j1 k y0 y1 y2 y3 y4 y5 y6 y7 y8) (waypointlaw34_HelloScript.j1 (k + 1) y0 y1 y2 y3 y4 y5 y6 y7 y8)) ∧ (∀ y0 y1 y2 y3 y4 y5 y6 y7 y8 y9, LeO (waypointlaw34_HelloScript.j2 k y0 y1 y2 y3 y4 y5 y6 y7 y8 y9) (waypointlaw34_HelloScript.j2 (k + 1) y0 y1 y2 y3 y4 y5 y6 y7 y8 y9)) ∧ (∀ y0 y1 y2 y3 y4 y5 y6 y7 y8 y9 y10 y11, LeO (waypointlaw34_HelloScript.j3 k y0 y1 y2 y3 y4 y5 y6 y7 y8 y9 y10 y11) (waypointlaw34_HelloScript.j3 (k + 1) y0 y1 y2 y3 y4 y5 y6 y7 y8 y9 y10 y11)) ∧ (∀ y0 y1 y2 y3 y4 y5 y6 y7 y8 y9 y10, LeO (waypointlaw34_HelloScript.j4 k y0 y1 y2 y3 y4 y5 y6 y7 y8 y9 y10) (waypointlaw34_HelloScript.j4 (k + 1) y0 y1 y2 y3 y4 y5 y6 y7 y8 y9 y10)) ∧ (∀ y0 y1 y2 y3 y4 y5 y6 y7 y8 y9 y10, LeO (waypointlaw34_HelloScript.j5 k y0 y1 y2 y3 y4 y5 y6 y7 y8 y9 y10) (waypointlaw34_HelloScript.j5 (k + 1) y0 y1 y2 y3 y4 y5 y6 y7 y8 y9 y10))
  | 0 => ⟨fun _ _ _ _ _ _ _ r h => by simp [waypointlaw34_HelloScript.l0] at h, fun _ _ _ _ _ _ _ _ _ r h => by simp [waypointlaw34_HelloScript.j1] at h, fun _ _ _ _ _ _ _ _ _ _ r h => by simp [waypointlaw34_HelloScript.j2] at h, fun _ _ _ _ _ _ _ _ _ _ _ _ r h => by simp [waypointlaw34_HelloScript.j3] at h, fun _ _ _ _ _ _ _ _ _ _ _ r h => by simp [waypointlaw34_HelloScript.j4] at h, fun _ _ _ _ _ _ _ _ _ _ _ r h => by simp [waypointlaw34_HelloScript.j5] at h⟩
  | k + 1 => by
    obtain ⟨ih0, ih1, ih2, ih3, ih4, ih5⟩ := waypointlaw34_HelloScript.mono_l k
    refine ⟨?_, ?_, ?_, ?_, ?_, ?_⟩
    · intro y0 y1 y2 y3 y4 y5 y6
      unfold waypointlaw34_HelloScript.l0
      repeat' first
      | (with_reducible exact ih0 _ _ _ _ _ _ _)
      | (with_reducible exact ih1 _ _ _ _ _ _ _ _ _)
      | (with_reducible exact ih2 _ _ _ _ _ _ _ _ _ _)
      | (with_reducible exact ih3 _ _ _ _ _ _ _ _ _ _ _ _)
      | (with_reducible exact ih4 _ _ _ _ _ _ _ _ _ _ _)
      | (with_reducible exact ih5 _ _ _ _ _ _ _ _ _ _ _)
      | (with_reducible exact hello_Tick.mono _ _ _ _)
      | (with_reducible exact waypointlaw34_awake.mono _)
      | (with_reducible exact LeO.refl _)
      | (with_reducible exact LeO.none _)
      | (with_reducible refine LeO.ite ?_ ?_)
      | (with_reducible refine LeO.bind ?_ (fun _ => ?_))
      | exact ih0 _ _ _ _ _ _ _
      | exact ih1 _ _ _ _ _ _ _ _ _
      | exact ih2 _ _ _ _ _ _ _ _ _ _
      | exact ih3 _ _ _ _ _ _ _ _ _ _ _ _
      | exact ih4 _ _ _ _ _ _ _ _ _ _ _
      | exact ih5 _ _ _ _ _ _ _ _ _ _ _
      | exact hello_Tick.mono _ _ _ _
      | exact waypointlaw34_awake.mono _
      | exact LeO.none _
      | refine LeO.ite ?_ ?_
      | refine LeO.bind ?_ (fun _ => ?_)
    · intro y0 y1 y2 y3 y4 y5 y6 y7 y8
      unfold waypointlaw34_HelloScript.j1
      repeat' first
      | (with_reducible exact ih0 _ _ _ _ _ _ _)
      | (with_reducible exact ih1 _ _ _ _ _ _ _ _ _)
      | (with_reducible exact ih2 _ _ _ _ _ _ _ _ _ _)
      | (with_reducible exact ih3 _ _ _ _ _ _ _ _ _ _ _ _)
      | (with_reducible exact ih4 _ _ _ _ _ _ _ _ _ _ _)
      | (with_reducible exact ih5 _ _ _ _ _ _ _ _ _ _ _)
      | (with_reducible exact hello_Tick.mono _ _ _ _)
      | (with_reducible exact waypointlaw34_awake.mono _)
      | (with_reducible exact LeO.refl _)
      | (with_reducible exact LeO.none _)
      | (with_reducible refine LeO.ite ?_ ?_)
      | (with_reducible refine LeO.bind ?_ (fun _ => ?_))
      | exact ih0 _ _ _ _ _ _ _
      | exact ih1 _ _ _ _ _ _ _ _ _
      | exact ih2 _ _ _ _ _ _ _ _ _ _
      | exact ih3 _ _ _ _ _ _ _ _ _ _ _ _
      | exact ih4 _ _ _ _ _ _ _ _ _ _ _
      | exact ih5 _ _ _ _ _ _ _ _ _ _ _
      | exact hello_Tick.mono _ _ _ _
      | exact waypointlaw34_awake.mono _
      | exact LeO.none _
      | refine LeO.ite ?_ ?_
      | refine LeO.bind ?_ (fun _ => ?_)
    · intro y0 y1 y2 y3 y4 y5 y6 y7 y8 y9
      unfold waypointlaw34_HelloScript.j2
      repeat' first
      | (with_reducible exact ih0 _ _ _ _ _ _ _)
      | (with_reducible exact ih1 _ _ _ _ _ _ _ _ _)
      | (with_reducible exact ih2 _ _ _ _ _ _ _ _ _ _)
      | (with_reducible exact ih3 _ _ _ _ _ _ _ _ _ _ _ _)
      | (with_reducible exact ih4 _ _ _ _ _ _ _ _ _ _ _)
      | (with_reducible exact ih5 _ _ _ _ _ _ _ _ _ _ _)
      | (with_reducible exact hello_Tick.mono _ _ _ _)
      | (with_reducible exact waypointlaw34_awake.mono _)
      | (with_reducible exact LeO.refl _)
      | (with_reducible exact LeO.none _)
      | (with_reducible refine LeO.ite ?_ ?_)
      | (with_reducible refine LeO.bind ?_ (fun _ => ?_))
      | exact ih0 _ _ _ _ _ _ _
      | exact ih1 _ _ _ _ _ _ _ _ _
      | exact ih2 _ _ _ _ _ _ _ _ _ _
      | exact ih3 _ _ _ _ _ _ _ _ _ _ _ _
      | exact ih4 _ _ _ _ _ _ _ _ _ _ _
      | exact ih5 _ _ _ _ _ _ _ _ _ _ _
      | exact hello_Tick.mono _ _ _ _
      | exact waypointlaw34_awake.mono _
      | exact LeO.none _
      | refine LeO.ite ?_ ?_
      | refine LeO.bind ?_ (fun _ => ?_)
    · intro y0 y1 y2 y3 y4 y5 y6 y7 y8 y9 y10 y11
      unfold waypointlaw34_HelloScript.j3
      repeat' first
      | (with_reducible exact ih0 _ _ _ _ _ _ _)
      | (with_reducible exact ih1 _ _ _ _ _ _ _ _ _)
      | (with_reducible exact ih2 _ _ _ _ _ _ _ _ _ _)
      | (with_reducible exact ih3 _ _ _ _ _ _ _ _ _ _ _ _)
      | (with_reducible exact ih4 _ _ _ _ _ _ _ _ _ _ _)
      | (with_reducible exact ih5 _ _ _ _ _ _ _ _ _ _ _)
      | (with_reducible exact hello_Tick.mono _ _ _ _)
      | (with_reducible exact waypointlaw34_awake.mono _)
      | (with_reducible exact LeO.refl _)
      | (with_reducible exact LeO.none _)
      | (with_reducible refine LeO.ite ?_ ?_)
      | (with_reducible refine LeO.bind ?_ (fun _ => ?_))
      | exact ih0 _ _ _ _ _ _ _
      | exact ih1 _ _ _ _ _ _ _ _ _
      | exact ih2 _ _ _ _ _ _ _ _ _ _
      | exact ih3 _ _ _ _ _ _ _ _ _ _ _ _
      | exact ih4 _ _ _ _ _ _ _ _ _ _ _
      | exact ih5 _ _ _ _ _ _ _ _ _ _ _
      | exact hello_Tick.mono _ _ _ _
      | exact waypointlaw34_awake.mono _
      | exact LeO.none _
      | refine LeO.ite ?_ ?_
      | refine LeO.bind ?_ (fun _ => ?_)
    · intro y0 y1 y2 y3 y4 y5 y6 y7 y8 y9 y10
      unfold waypointlaw34_HelloScript.j4
      repeat' first
      | (with_reducible exact ih0 _ _ _ _ _ _ _)
      | (with_reducible exact ih1 _ _ _ _ _ _ _ _ _)
      | (with_reducible exact ih2 _ _ _ _ _ _ _ _ _ _)
      | (with_reducible exact ih3 _ _ _ _ _ _ _ _ _ _ _ _)
      | (with_reducible exact ih4 _ _ _ _ _ _ _ _ _ _ _)
      | (with_reducible exact ih5 _ _ _ _ _ _ _ _ _ _ _)
      | (with_reducible exact hello_Tick.mono _ _ _ _)
      | (with_reducible exact waypointlaw34_awake.mono _)
      | (with_reducible exact LeO.refl _)
      | (with_reducible exact LeO.none _)
      | (with_reducible refine LeO.ite ?_ ?_)
      | (with_reducible refine LeO.bind ?_ (fun _ => ?_))
      | exact ih0 _ _ _ _ _ _ _
      | exact ih1 _ _ _ _ _ _ _ _ _
      | exact ih2 _ _ _ _ _ _ _ _ _ _
      | exact ih3 _ _ _ _ _ _ _ _ _ _ _ _
      | exact ih4 _ _ _ _ _ _ _ _ _ _ _
      | exact ih5 _ _ _ _ _ _ _ _ _ _ _
      | exact hello_Tick.mono _ _ _ _
      | exact waypointlaw34_awake.mono _
      | exact LeO.none _
      | refine LeO.ite ?_ ?_
      | refine LeO.bind ?_ (fun _ => ?_)
    · intro y0 y1 y2 y3 y4 y5 y6 y7 y8 y9 y10
      unfold waypointlaw34_HelloScript.j5
      repeat' first
      | (with_reducible exact ih0 _ _ _ _ _ _ _)
      | (with_reducible exact ih1 _ _ _ _ _ _ _ _ _)
      | (with_reducible exact ih2 _ _ _ _ _ _ _ _ _ _)
      | (with_reducible exact ih3 _ _ _ _ _ _ _ _ _ _ _ _)
      | (with_reducible exact ih4 _ _ _ _ _ _ _ _ _ _ _)
      | (with_reducible exact ih5 _ _ _ _ _ _ _ _ _ _ _)
      | (with_reducible exact hello_Tick.mono _ _ _ _)
      | (with_reducible exact waypointlaw34_awake.mono _)
      | (with_reducible exact LeO.refl _)
      | (with_reducible exact LeO.none _)
      | (with_reducible refine LeO.ite ?_ ?_)
      | (with_reducible refine LeO.bind ?_ (fun _ => ?_))
      | exact ih0 _ _ _ _ _ _ _
      | exact ih1 _ _ _ _ _ _ _ _ _
      | exact ih2 _ _ _ _ _ _ _ _ _ _
      | exact ih3 _ _ _ _ _ _ _ _ _ _ _ _
      | exact ih4 _ _ _ _ _ _ _ _ _ _ _
      | exact ih5 _ _ _ _ _ _ _ _ _ _ _
      | exact hello_Tick.mono _ _ _ _
      | exact waypointlaw34_awake.mono _
      | exact LeO.none _
      | refine LeO.ite ?_ ?_
      | refine LeO.bind ?_ (fun _ => ?_)
theorem waypointlaw34_HelloScript.mono : ∀ a0 k, LeO (waypointlaw34_HelloScript.f k a0) (waypointlaw34_HelloScript.f (k + 1) a0) := by
  intro a0 k
  obtain ⟨ih0, ih1, ih2, ih3, ih4, ih5⟩ := waypointlaw34_HelloScript.mono_l k
  unfold waypointlaw34_HelloScript.f
  repeat' first
      | (with_reducible exact ih0 _ _ _ _ _ _ _)
      | (with_reducible exact ih1 _ _ _ _ _ _ _ _ _)
      | (with_reducible exact ih2 _ _ _ _ _ _ _ _ _ _)
      | (with_reducible exact ih3 _ _ _ _ _ _ _ _ _ _ _ _)
      | (with_reducible exact ih4 _ _ _ _ _ _ _ _ _ _ _)
      | (with_reducible exact ih5 _ _ _ _ _ _ _ _ _ _ _)
      | (with_reducible exact hello_Tick.mono _ _ _ _)
      | (with_reducible exact waypointlaw34_awake.mono _)
      | (with_reducible exact LeO.refl _)
      | (with_reducible exact LeO.none _)
      | (with_reducible refine LeO.ite ?_ ?_)
      | (with_reducible refine LeO.bind ?_ (fun _ => ?_))
      | exact ih0 _ _ _ _ _ _ _
      | exact ih1 _ _ _ _ _ _ _ _ _
      | exact ih2 _ _ _ _ _ _ _ _ _ _
      | exact ih3 _ _ _ _ _ _ _ _ _ _ _ _
      | exact ih4 _ _ _ _ _ _ _ _ _ _ _
      | exact ih5 _ _ _ _ _ _ _ _ _ _ _
      | exact hello_Tick.mono _ _ _ _
      | exact waypointlaw34_awake.mono _
      | exact LeO.none _
      | refine LeO.ite ?_ ?_
      | refine LeO.bind ?_ (fun _ => ?_)
def waypointlaw34_HelloScript.T15 : Bool × List (List Nat × List Nat) := (true, [([], []), ([], []), ([], []), ([1, 2], [1, 2]), ([3], [3]), ([4], [4]), ([], []), ([0, 5, 6], [0, 5, 6]), ([7], [7]), ([8], [8]), ([8], [8]), ([8], [8]), ([9, 7, 0, 1, 2, 3, 4, 5, 6, 7, 8, 9], [9]), ([10, 12, 0, 1, 2, 3, 4, 5, 6, 7, 8, 9, 10, 12], [10]), ([11, 13, 0, 1, 2, 3, 4, 5, 6, 7, 8, 9, 10, 11, 12, 13], [11])])
def waypointlaw34_HelloScript.B15 : List Nat := [0, 0, 0, 6, 14, 30, 0, 127, 255, 511, 511, 511, 1023, 6143, 16383]
theorem waypointlaw34_HelloScript.tab15 : rtab .any (opsOf Try.f4 15) = waypointlaw34_HelloScript.T15 := by kernel_rfl
theorem waypointlaw34_HelloScript.bits15 : waitsOk waypointlaw34_HelloScript.T15.2 waypointlaw34_HelloScript.B15 = true := by kernel_rfl
def waypointlaw34_HelloScript.T16 : Bool × List (List Nat × List Nat) := (true, [([], []), ([], []), ([], []), ([1, 2], [1, 2]), ([3], [3]), ([4], [4]), ([0, 0], [0]), ([5, 6, 0, 1, 2, 3, 4, 5, 6], [5])])
def waypointlaw34_HelloScript.B16 : List Nat := [0, 0, 0, 6, 14, 30, 1, 127]
theorem waypointlaw34_HelloScript.tab16 : rtab .any (opsOf Try.f4 16) = waypointlaw34_HelloScript.T16 := by kernel_rfl
theorem waypointlaw34_HelloScript.bits16 : waitsOk waypointlaw34_HelloScript.T16.2 waypointlaw34_HelloScript.B16 = true := by kernel_rfl
set_option maxHeartbeats 8000000 in
set_option maxRecDepth 100000 in
theorem waypointlaw34_HelloScript.calls (k : Nat) (A0 : Option Addr) (c0 : Nat) (l0 : List (S35)) (r : Bool) (w : World) (hr0 : Kd.C k35 w A0 l0.length l0) (hc0 : l0.length ≤ c0) (h : waypointlaw34_HelloScript.f k l0 = some r) :
    Calls Try.prog 4 #[.slice A0 l0.length c0] w fun e w' => e = .returned (.bool r) ∧ Below w.heap.size w w' := by
  have hu25 := Try.underlying25
  have HR0 := Aside0.mk hr0
  have HC0 := Aside0.mk hc0
  clear hr0 hc0
  have HB := Aside0.mk (Below.refl w.heap.size w)
  have H : ((waypointlaw34_awake.f k).bind fun t152 => (if t152 = true then (if (l0.length : Int) > 60 then (some true) else (waypointlaw34_HelloScript.l0 k l0 false 0 false 0 0 0)) else (some false))) = some r := h
  clear h
  replace H := Option.bind_eq_some_iff.mp H
  obtain ⟨t152, A20, H⟩ := H
  replace H : (if t152 = true then (if (l0.length : Int) > 60 then (some true) else (waypointlaw34_HelloScript.l0 k l0 false 0 false 0 0 0)) else (some false)) = some r := H
  have A2 := Aside0.mk A20
  clear A20
  by_cases c3 : t152 = true
  · subst c3
    have H1 : (if (l0.length : Int) > 60 then (some true) else (waypointlaw34_HelloScript.l0 k l0 false 0 false 0 0 0)) = some r := by rw [if_pos rfl] at H; exact H
    clear H
    have H := H1
    clear H1
    by_cases c4 : (l0.length : Int) > 60
    · rw [if_pos c4] at H
      have c4b0 : decide (60 < (l0.length : Int)) = true := decide_eq_true c4
      have c4b1 : decide (60 < l0.length) = true := decide_eq_true (by omega)
      clear c4
      obtain rfl := Option.some.inj H
      go_enter Try.func4, Try.ntmps4
      go_wp2_with (first | ((with_reducible refine gate_callee (f := 10) rfl ?_); refine goesL_ (some 13) rfl rfl Try.func10 (by kernel_rfl) rfl #[] rfl (by (try simp only [List.map_toArray, List.map_cons, List.map_nil]); first | done | rfl | (simp only [List.length_drop, List.length_take]; rfl)) ?_; (with_reducible refine (waypointlaw34_awake.calls k  true _ A2.out).mono ?_); rintro e w5 ⟨rfl, hb⟩; refine ⟨_, rfl, ?_⟩; have n0_ := Aside0.mk (below_step (by repeat (first | (with_reducible first | exact HB.out | apply below_alloc | apply pw_below_drewN | apply below_drew1) | exact HB.out)) hb); clear HB; have HB := n0_; clear n0_; (try clear hb); (try clear hb2); (try clear hk); (try clear hi)))
      go_ret
      exact ⟨by first | rfl | (simp [errW_none, errW_some] <;> rfl) | (simp [*, errW_none, errW_some] <;> rfl), by repeat (first | (with_reducible first | exact HB.out | apply below_alloc | apply pw_below_drewN | apply below_drew1) | exact HB.out)⟩
    · rw [if_neg c4] at H
      have c4b0 : decide (60 < (l0.length : Int)) = false := decide_eq_false c4
      have c4b1 : decide (60 < l0.length) = false := decide_eq_false (by omega)
      clear c4
      have H' := Aside0.mk H
      clear H
      go_enter Try.func4, Try.ntmps4
      go_wp2_with (first | ((with_reducible refine gate_callee (f := 10) rfl ?_); refine goesL_ (some 13) rfl rfl Try.func10 (by kernel_rfl) rfl #[] rfl (by (try simp only [List.map_toArray, List.map_cons, List.map_nil]); first | done | rfl | (simp only [List.length_drop, List.length_take]; rfl)) ?_; (with_reducible refine (waypointlaw34_awake.calls k  true _ A2.out).mono ?_); rintro e w6 ⟨rfl, hb⟩; refine ⟨_, rfl, ?_⟩; have n0_ := Aside0.mk (below_step (by repeat (first | (with_reducible first | exact HB.out | apply below_alloc | apply pw_below_drewN | apply below_drew1) | exact HB.out)) hb); clear HB; have HB := n0_; clear n0_; (try clear hb); (try clear hb2); (try clear hk); (try clear hi)) | ((with_reducible refine gate_dst (N := 3) rfl ?_); refine box_event ?hg (N := 3) ?hd (cs := #[.int .i64 0, .int .i64 0]) (t := 25) ?hr ?_; (case hd => rfl); (case hg => rfl); (case hr => first | (go_simp; done) | (go_simp; rfl)); intro gb153 hg w7 hbox hb; have n0_ := Aside0.mk (below_step (by repeat (first | (with_reducible first | exact HB.out | apply below_alloc | apply pw_below_drewN | apply below_drew1) | exact HB.out)) hb); have n1_ := Aside0.mk (hbox); have n2_ := Aside0.mk ((by rw [hg]; exact (below_size (by repeat (first | (with_reducible first | exact HB.out | apply below_alloc | apply pw_below_drewN | apply below_drew1) | exact HB.out))) : w.heap.size ≤ gb153)); have n3_ := Aside0.mk ((by rw [hg]; exact (below_size (by repeat (first | (with_reducible first | exact HB.out | apply below_alloc | apply pw_below_drewN | apply below_drew1) | exact HB.out))) : w.heap.size ≤ gb153)); clear HB; have HB := n0_; have BK153 := n1_; have GW153 := n2_; have GE153 := n3_; clear n0_ n1_ n2_ n3_; clear hb hbox hg))
      go_loopg [4, 5, 6, 7] k (fun kq v4 v5 v6 v7 w' => ∃ (x4_1 : Bool) (x5_1 : Int) (x6_1 : Bool) (x7_1 : Int) (x154000_1 : Int) (x154001_1 : Int), v4 = .bool x4_1 ∧ v5 = .int .i64 x5_1 ∧ v6 = .bool x6_1 ∧ v7 = .int .i64 x7_1 ∧ Aside0 (waypointlaw34_HelloScript.l0 kq l0 x4_1 x5_1 x6_1 x7_1 x154000_1 x154001_1 = some r) ∧ Aside0 (kq ≤ k) ∧ Aside0 (w'.heap[gb153]? = some (.cells #[.int .i64 x154000_1, .int .i64 x154001_1] 25 (0, 0))) ∧ Aside0 (Below w.heap.size w w'))
      case atStart => exact ⟨(false), (0), (false), (0), (0), (0), (by first | rfl | (simp; done) | (simp [*]; done)), (by first | rfl | (simp; done) | (simp [*]; done)), (by first | rfl | (simp; done) | (simp [*]; done)), (by first | rfl | (simp; done) | (simp [*]; done)), H', ⟨Nat.le_refl _⟩, ⟨by (with_reducible repeat (first | refine blk_drewN ?_ _ | refine blk_drew ?_ | refine blk_alloc ?_ _)); exact BK153.out⟩, ⟨by repeat (first | (with_reducible first | exact HB.out | apply below_alloc | apply pw_below_drewN | apply below_drew1 | refine below_set ?_ GE153.out) | exact HB.out)⟩⟩
      case round =>
        clear H'
        try clear c1
        try clear p2
        try clear c3
        try clear c4
        try clear c4b0
        try clear c4b1
        obtain ⟨x4_1, x5_1, x6_1, x7_1, x154000_1, x154001_1, rfl, rfl, rfl, rfl, HA, HK1, BK153, HB⟩ := hrel
        cases gk with
        | zero => exact absurd HA.out (by simp [waypointlaw34_HelloScript.l0])
        | succ k1 =>
          have H := HA.out
          clear HA
          simp only [waypointlaw34_HelloScript.l0] at H
          by_cases c8 : x7_1 < (l0.length : Int)
          · rw [if_pos c8] at H
            have c8b0 : decide (x7_1 < (l0.length : Int)) = true := decide_eq_true c8
            clear c8
            by_cases c9 : 0 ≤ x7_1
            · rw [if_pos c9] at H
              have c9b0 : decide (0 ≤ x7_1) = true := decide_eq_true c9
              clear c9
              have HC10 := Aside0.mk H
              clear H
              have p154 : 0 ≤ (x7_1 : Int) := of_decide_eq_true (by first | (with_reducible assumption) | assumption)
              have q154 : x7_1 < (l0.length : Int) := of_decide_eq_true (by first | (with_reducible assumption) | assumption)
              obtain ⟨ad154, e154, hx154_0, hx154_1, hx154_2⟩ := at_T35 HR0.out x7_1 p154 q154
              cases e154
              replace hx154_0 := (HB.out.cell (World.block_lt_of_cell? w _ hx154_0)).trans hx154_0
              replace hx154_1 := (HB.out.cell (World.block_lt_of_cell? w _ hx154_1)).trans hx154_1
              replace hx154_2 := (HB.out.cell (World.block_lt_of_cell? w _ hx154_2)).trans hx154_2
              replace p154 := eq_true p154
              replace q154 := eq_true q154
              have p155 : 0 ≤ (x7_1 : Int) := of_decide_eq_true (by first | (with_reducible assumption) | assumption)
              have q155 : x7_1 < (l0.length : Int) := of_decide_eq_true (by first | (with_reducible assumption) | assumption)
              obtain ⟨ad155, e155, hx155_0, hx155_1, hx155_2⟩ := at_T35 HR0.out x7_1 p155 q155
              obtain rfl : ad154 = ad155 := (by injection e155)
              replace hx155_0 := (HB.out.cell (World.block_lt_of_cell? w _ hx155_0)).trans hx155_0
              replace hx155_1 := (HB.out.cell (World.block_lt_of_cell? w _ hx155_1)).trans hx155_1
              replace hx155_2 := (HB.out.cell (World.block_lt_of_cell? w _ hx155_2)).trans hx155_2
              replace p155 := eq_true p155
              replace q155 := eq_true q155
              go_upto_if 33 with (fail)
              go_cut [5, 6, 9, 10] (fun v5 v6 v9 v10 wc => ∃ (kq : Nat) (x5_9 : Int) (x6_9 : Bool) (x9_9 : Int) (x10_9 : Int) (x154000_9 : Int) (x154001_9 : Int), v5 = .int .i64 x5_9 ∧ v6 = .bool x6_9 ∧ v9 = .int .i64 x9_9 ∧ v10 = .int .i64 x10_9 ∧ Aside0 (waypointlaw34_HelloScript.j1 kq l0 x4_1 x5_9 x6_9 x7_1 x9_9 x10_9 x154000_9 x154001_9 = some r) ∧ Aside0 (kq ≤ k1) ∧ Aside0 (wc.heap[gb153]? = some (.cells #[.int .i64 x154000_9, .int .i64 x154001_9] 25 (0, 0))) ∧ Aside0 (Below w.heap.size w wc))
              case first =>
                have H := HC10.out
                clear HC10
                obtain ⟨bq11, hbq11⟩ : ∃ b_ : Bool, b_ = ((rd_T35 l0 x7_1).f0) := ⟨_, rfl⟩
                replace H : (if bq11 = true then (if ((rd_T35 l0 x7_1).f2) < 1 then (waypointlaw34_HelloScript.l0 k1 l0 x4_1 x5_1 x6_1 (wrap64 (x7_1 + 1)) x154000_1 x154001_1) else (if ((rd_T35 l0 x7_1).f2) > 65536 then (waypointlaw34_HelloScript.l0 k1 l0 x4_1 x5_1 x6_1 (wrap64 (x7_1 + 1)) x154000_1 x154001_1) else ((hello_Receive.f x154000_1 x154001_1 ((rd_T35 l0 x7_1).f1) ((rd_T35 l0 x7_1).f2)).bind fun bt157 => (waypointlaw34_HelloScript.j1 k1 l0 x4_1 ((rd_T35 l0 x7_1).f2) ((rd_T35 l0 x7_1).f1) x7_1 bt157.2.2.1 bt157.2.2.2 bt157.1 bt157.2.1)))) else ((hello_Tick.f k1 x154000_1 x154001_1 ((rd_T35 l0 x7_1).f2)).bind fun bt162 => (waypointlaw34_HelloScript.j1 k1 l0 x4_1 (wrap64 (x5_1 - (mn x5_1 (mx 0 ((rd_T35 l0 x7_1).f2))))) x6_1 x7_1 bt162.2.2.1 bt162.2.2.2 bt162.1 bt162.2.1))) = some r := by rw [← hbq11] at H; exact H
                have Nbq11 := Aside0.mk hbq11
                clear hbq11
                (try rw [← Nbq11.out])
                by_cases c12 : bq11 = true
                · subst c12
                  have H1 : (if ((rd_T35 l0 x7_1).f2) < 1 then (waypointlaw34_HelloScript.l0 k1 l0 x4_1 x5_1 x6_1 (wrap64 (x7_1 + 1)) x154000_1 x154001_1) else (if ((rd_T35 l0 x7_1).f2) > 65536 then (waypointlaw34_HelloScript.l0 k1 l0 x4_1 x5_1 x6_1 (wrap64 (x7_1 + 1)) x154000_1 x154001_1) else ((hello_Receive.f x154000_1 x154001_1 ((rd_T35 l0 x7_1).f1) ((rd_T35 l0 x7_1).f2)).bind fun bt157 => (waypointlaw34_HelloScript.j1 k1 l0 x4_1 ((rd_T35 l0 x7_1).f2) ((rd_T35 l0 x7_1).f1) x7_1 bt157.2.2.1 bt157.2.2.2 bt157.1 bt157.2.1)))) = some r := by rw [if_pos rfl] at H; exact H
                  clear H
                  have H := H1
                  clear H1
                  by_cases c13 : ((rd_T35 l0 x7_1).f2) < 1
                  · rw [if_pos c13] at H
                    have c13b0 : decide (((rd_T35 l0 x7_1).f2) < 1) = true := decide_eq_true c13
                    clear c13
                    have H' := Aside0.mk H
                    clear H
                    go_wp2
                    go_roundg k1
                    case measure => have := HK1.out; omega
                    case rel => exact ⟨(x4_1), (x5_1), (x6_1), (wrap64 (x7_1 + 1)), (x154000_1), (x154001_1), (by first | rfl | (simp; done) | (simp [*]; done)), (by first | rfl | (simp; done) | (simp [*]; done)), (by first | rfl | (simp; done) | (simp [*]; done)), (by first | rfl | (simp; done) | (simp [*]; done)), H', ⟨by have := HK1.out; omega⟩, ⟨by (with_reducible repeat (first | refine blk_drewN ?_ _ | refine blk_drew ?_ | refine blk_alloc ?_ _)); exact BK153.out⟩, ⟨by repeat (first | (with_reducible first | exact HB.out | apply below_alloc | apply pw_below_drewN | apply below_drew1 | refine below_set ?_ GE153.out) | exact HB.out)⟩⟩
                  · rw [if_neg c13] at H
                    have c13b0 : decide (((rd_T35 l0 x7_1).f2) < 1) = false := decide_eq_false c13
                    clear c13
                    by_cases c14 : ((rd_T35 l0 x7_1).f2) > 65536
                    · rw [if_pos c14] at H
                      have c14b0 : decide (65536 < ((rd_T35 l0 x7_1).f2)) = true := decide_eq_true c14
                      clear c14
                      have H' := Aside0.mk H
                      clear H
                      go_wp2
                      go_roundg k1
                      case measure => have := HK1.out; omega
                      case rel => exact ⟨(x4_1), (x5_1), (x6_1), (wrap64 (x7_1 + 1)), (x154000_1), (x154001_1), (by first | rfl | (simp; done) | (simp [*]; done)), (by first | rfl | (simp; done) | (simp [*]; done)), (by first | rfl | (simp; done) | (simp [*]; done)), (by first | rfl | (simp; done) | (simp [*]; done)), H', ⟨by have := HK1.out; omega⟩, ⟨by (with_reducible repeat (first | refine blk_drewN ?_ _ | refine blk_drew ?_ | refine blk_alloc ?_ _)); exact BK153.out⟩, ⟨by repeat (first | (with_reducible first | exact HB.out | apply below_alloc | apply pw_below_drewN | apply below_drew1 | refine below_set ?_ GE153.out) | exact HB.out)⟩⟩
                    · rw [if_neg c14] at H
                      have c14b0 : decide (65536 < ((rd_T35 l0 x7_1).f2)) = false := decide_eq_false c14
                      clear c14
                      replace H := Option.bind_eq_some_iff.mp H
                      obtain ⟨⟨t157, t158, t159, t160⟩, A150, H⟩ := H
                      replace H : (waypointlaw34_HelloScript.j1 k1 l0 x4_1 ((rd_T35 l0 x7_1).f2) ((rd_T35 l0 x7_1).f1) x7_1 t159 t160 t157 t158) = some r := H
                      have A15 := Aside0.mk A150
                      clear A150
                      have H' := Aside0.mk H
                      clear H
                      try go_wp2
                      have n0_ := Aside0.mk (blk_drew BK153.out)
                      have n1_ := Aside0.mk (below_drew1 HB.out)
                      clear BK153
                      clear HB
                      have BK153 := n0_
                      have HB := n1_
                      clear n0_ n1_
                      have p156 : 0 ≤ (x7_1 : Int) := of_decide_eq_true (by first | (with_reducible assumption) | assumption)
                      have q156 : x7_1 < (l0.length : Int) := of_decide_eq_true (by first | (with_reducible assumption) | assumption)
                      obtain ⟨ad156, e156, hx156_0, hx156_1, hx156_2⟩ := at_T35 HR0.out x7_1 p156 q156
                      have hw156_2 := hx156_2
                      have hw156_1 := hx156_1
                      have hw156_0 := hx156_0
                      (try rw [← Nbq11.out] at hx156_0)
                      (try rw [← Nbq11.out] at hx156_1)
                      obtain rfl : ad154 = ad156 := (by injection e156)
                      replace hx156_0 := (HB.out.cell (World.block_lt_of_cell? w _ hx156_0)).trans hx156_0
                      replace hx156_1 := (HB.out.cell (World.block_lt_of_cell? w _ hx156_1)).trans hx156_1
                      replace hx156_2 := (HB.out.cell (World.block_lt_of_cell? w _ hx156_2)).trans hx156_2
                      replace p156 := eq_true p156
                      replace q156 := eq_true q156
                      refine start_ (n := 15) (S := fun w' => w'.cell? ⟨gb153, 0, none⟩ = some (.int .i64 x154000_1) ∧ w'.cell? ⟨gb153, 1, none⟩ = some (.int .i64 x154001_1) ∧ w'.cell? (ad154.add ((x7_1).toNat * 3)) = some (.bool ((rd_T35 l0 x7_1).f0)) ∧ w'.cell? ⟨(ad154.add ((x7_1).toNat * 3)).block, (ad154.add ((x7_1).toNat * 3)).off + 1, none⟩ = some (.bool ((rd_T35 l0 x7_1).f1)) ∧ w'.cell? ⟨(ad154.add ((x7_1).toNat * 3)).block, (ad154.add ((x7_1).toNat * 3)).off + 2, none⟩ = some (.int .i64 ((rd_T35 l0 x7_1).f2))) (ds := [12]) #[false, false, false, false, false, false, false, false, false, false, false, false, false, false, false] (by kernel_rfl) rfl rfl ⟨(blk_cell BK153.out 0).trans rfl, (blk_cell BK153.out 1).trans rfl, ((HB.out.cell (World.block_lt_of_cell? w _ hw156_0)).trans hw156_0), ((HB.out.cell (World.block_lt_of_cell? w _ hw156_1)).trans hw156_1), ((HB.out.cell (World.block_lt_of_cell? w _ hw156_2)).trans hw156_2)⟩ (fun hHeld => ?_); refine with_tabW waypointlaw34_HelloScript.tab15 waypointlaw34_HelloScript.bits15 (fun HT_ HW_ => ?_)
                      generalize wr.drew = w16 at BK153 HB hx156_0 hx156_1 hx156_2 hHeld ⊢
                      refine pure_ (i := 1) (N := some 42) (v := ?_) (a' := ?_) #[false, true, false, false, false, false, false, false, false, false, false, false, false, false, false] rfl rfl (any_of HT_.out (by kernel_rfl)) (fun _ _ _ h => h) (Or.inl ⟨by rfl, ?_⟩) ?_ ?_
                      rotate_left
                      · intro w'
                        go_simp
                        with_reducible rfl
                      rotate_left
                      · simp only [Act.put, List.setIfInBounds_toArray, List.set_cons_zero, List.set_cons_succ, i64_w, i32_w]
                        rfl
                      refine pure_ (i := 2) (N := some 43) (v := ?_) (a' := ?_) #[false, true, true, false, false, false, false, false, false, false, false, false, false, false, false] rfl rfl (any_of HT_.out (by kernel_rfl)) (fun _ _ _ h => h) (Or.inl ⟨by rfl, ?_⟩) ?_ ?_
                      rotate_left
                      · intro w'
                        go_simp
                        with_reducible rfl
                      rotate_left
                      · simp only [Act.put, List.setIfInBounds_toArray, List.set_cons_zero, List.set_cons_succ, i64_w, i32_w]
                        rfl
                      refine pure_ (i := 3) (N := some 44) (v := ?_) (a' := ?_) #[false, true, true, true, false, false, false, false, false, false, false, false, false, false, false] rfl rfl (any_of HT_.out (by kernel_rfl)) (fun _ _ _ h => h) (Or.inl ⟨by rfl, ?_⟩) ?_ ?_
                      rotate_left
                      · intro w'
                        go_simp
                        with_reducible rfl
                      rotate_left
                      · simp only [Act.put, List.setIfInBounds_toArray, List.set_cons_zero, List.set_cons_succ, i64_w, i32_w]
                        rfl
                      refine pure_ (i := 4) (N := some 45) (v := ?_) (a' := ?_) #[false, true, true, true, true, false, false, false, false, false, false, false, false, false, false] rfl rfl (any_of HT_.out (by kernel_rfl)) (fun _ _ _ h => h) (Or.inl ⟨by rfl, ?_⟩) ?_ ?_
                      rotate_left
                      · intro w'
                        go_simp
                        with_reducible rfl
                      rotate_left
                      · simp only [Act.put, List.setIfInBounds_toArray, List.set_cons_zero, List.set_cons_succ, i64_w, i32_w]
                        rfl
                      refine pure_ (i := 6) (N := some 47) (v := ?_) (a' := ?_) #[false, true, true, true, true, false, true, false, false, false, false, false, false, false, false] rfl rfl (any_of HT_.out (by kernel_rfl)) (fun _ _ _ h => h) (Or.inl ⟨by rfl, ?_⟩) ?_ ?_
                      rotate_left
                      · intro w'
                        go_simp
                        with_reducible rfl
                      rotate_left
                      · simp only [Act.put, List.setIfInBounds_toArray, List.set_cons_zero, List.set_cons_succ, i64_w, i32_w]
                        rfl
                      refine take_ (i := 0) (N := some 41) (v := ?_) (a' := ?_) #[true, true, true, true, true, false, true, false, false, false, false, false, false, false, false] rfl rfl (take_ofW HT_.out HW_.out (by kernel_rfl)) (fun _ _ _ h => h) (Or.inl ⟨by rfl, ?_⟩) hHeld ?_ ?_
                      rotate_left
                      · rintro w' ⟨s0, s1, s2, s3, s4⟩
                        go_simp
                        with_reducible rfl
                      rotate_left
                      · simp only [Act.put, List.setIfInBounds_toArray, List.set_cons_zero, List.set_cons_succ, i64_w, i32_w]
                        rfl
                      refine take_ (i := 5) (N := some 46) (v := ?_) (a' := ?_) #[true, true, true, true, true, true, true, false, false, false, false, false, false, false, false] rfl rfl (take_ofW HT_.out HW_.out (by kernel_rfl)) (fun _ _ _ h => h) (Or.inl ⟨by rfl, ?_⟩) hHeld ?_ ?_
                      rotate_left
                      · rintro w' ⟨s0, s1, s2, s3, s4⟩
                        go_simp
                        with_reducible rfl
                      rotate_left
                      · simp only [Act.put, List.setIfInBounds_toArray, List.set_cons_zero, List.set_cons_succ, i64_w, i32_w]
                        rfl
                      refine one_ (i := 7) (N := some 48) #[true, true, true, true, true, true, true, true, false, false, false, false, false, false, false] rfl rfl (one_of HT_.out (by kernel_rfl)) (by decide) (fun K hK => ?_)
                      refine goes_ Try.func11 (by kernel_rfl) rfl #[.agg #[.int .i64 x154000_1, .int .i64 x154001_1], .bool ((rd_T35 l0 x7_1).f1), .int .i64 ((rd_T35 l0 x7_1).f2)] (by rfl) rfl rfl (by (try simp only [List.map_toArray, List.map_cons, List.map_nil]); first | done | rfl | (simp only [List.length_drop, List.length_take]; rfl)) ?_
                      with_reducible refine (hello_Receive.calls x154000_1 x154001_1 ((rd_T35 l0 x7_1).f1) ((rd_T35 l0 x7_1).f2) t157 t158 t159 t160 _ A15.out).mono ?_
                      rintro e w17 ⟨rfl, hb⟩
                      refine ⟨_, rfl, ?_⟩
                      have n0_ := Aside0.mk (blk_below (g := gb153) (o := .cells #[.int .i64 x154000_1, .int .i64 x154001_1] 25 (0, 0)) (by (with_reducible repeat (first | refine blk_drewN ?_ _ | refine blk_drew ?_ | refine blk_alloc ?_ _)); exact BK153.out) hb)
                      have n1_ := Aside0.mk (below_step (by repeat (first | (with_reducible first | exact HB.out | apply below_alloc | apply pw_below_drewN | apply below_drew1 | refine below_set ?_ GE153.out) | exact HB.out)) hb)
                      clear BK153
                      clear HB
                      have BK153 := n0_
                      have HB := n1_
                      clear n0_ n1_
                      (try clear hb)
                      (try clear hb2)
                      (try clear hk)
                      (try clear hi)
                      refine hK.out _ _ ⟨(blk_cell BK153.out 0).trans rfl, (blk_cell BK153.out 1).trans rfl, ((HB.out.cell (World.block_lt_of_cell? w _ hw156_0)).trans hw156_0), ((HB.out.cell (World.block_lt_of_cell? w _ hw156_1)).trans hw156_1), ((HB.out.cell (World.block_lt_of_cell? w _ hw156_2)).trans hw156_2)⟩ (fun hHeld => ?_)
                      clear hK K
                      refine norm_ (a' := ?_) ?_ ?_
                      rotate_left
                      · show Act.put _ (some 48) _ = _
                        simp only [Act.put, List.setIfInBounds_toArray, List.set_cons_zero, List.set_cons_succ, i64_w, i32_w]
                        rfl
                      refine pure_ (i := 8) (N := some 40) (v := ?_) (a' := ?_) #[true, true, true, true, true, true, true, true, true, false, false, false, false, false, false] rfl rfl (any_of HT_.out (by kernel_rfl)) (fun _ _ _ h => h) (Or.inl ⟨by rfl, ?_⟩) ?_ ?_
                      rotate_left
                      · intro w'
                        go_simp
                        with_reducible rfl
                      rotate_left
                      · simp only [Act.put, List.setIfInBounds_toArray, List.set_cons_zero, List.set_cons_succ, i64_w, i32_w]
                        rfl
                      refine pure_ (i := 9) (N := some 49) (v := ?_) (a' := ?_) #[true, true, true, true, true, true, true, true, true, true, false, false, false, false, false] rfl rfl (any_of HT_.out (by kernel_rfl)) (fun _ _ _ h => h) (Or.inl ⟨by rfl, ?_⟩) ?_ ?_
                      rotate_left
                      · intro w'
                        go_simp
                        with_reducible rfl
                      rotate_left
                      · simp only [Act.put, List.setIfInBounds_toArray, List.set_cons_zero, List.set_cons_succ, i64_w, i32_w]
                        rfl
                      refine pure_ (i := 10) (N := some 50) (v := ?_) (a' := ?_) #[true, true, true, true, true, true, true, true, true, true, true, false, false, false, false] rfl rfl (any_of HT_.out (by kernel_rfl)) (fun _ _ _ h => h) (Or.inl ⟨by rfl, ?_⟩) ?_ ?_
                      rotate_left
                      · intro w'
                        go_simp
                        with_reducible rfl
                      rotate_left
                      · simp only [Act.put, List.setIfInBounds_toArray, List.set_cons_zero, List.set_cons_succ, i64_w, i32_w]
                        rfl
                      refine pure_ (i := 11) (N := some 51) (v := ?_) (a' := ?_) #[true, true, true, true, true, true, true, true, true, true, true, true, false, false, false] rfl rfl (any_of HT_.out (by kernel_rfl)) (fun _ _ _ h => h) (Or.inl ⟨by rfl, ?_⟩) ?_ ?_
                      rotate_left
                      · intro w'
                        go_simp
                        with_reducible rfl
                      rotate_left
                      · simp only [Act.put, List.setIfInBounds_toArray, List.set_cons_zero, List.set_cons_succ, i64_w, i32_w]
                        rfl
                      refine last_ (i := 12) (N := none) #[true, true, true, true, true, true, true, true, true, true, true, true, true, false, false] rfl rfl (one_of HT_.out (by kernel_rfl)) (by decide) (fun K hK => ?_)
                      have hs18 : w17.cell? ⟨gb153, 0, none⟩ = some (.int .i64 x154000_1) := (blk_cell BK153.out 0).trans rfl
                      have hfs18 := blk_frozen BK153.out 0
                      have hs19 : w17.cell? ⟨gb153, 1, none⟩ = some (.int .i64 x154001_1) := (blk_cell BK153.out 1).trans rfl
                      have hfs19 := blk_frozen BK153.out 1
                      refine skip_ (w1 := ?_) (by rfl) rfl ?_ ?_
                      rotate_left
                      · go_simp
                        rfl
                      refine hK.out _ _ ?_
                      clear hK K
                      refine pure_ (i := 13) (N := some 9) (v := ?_) (a' := ?_) #[true, true, true, true, true, true, true, true, true, true, true, true, true, true, false] rfl rfl (any_of HT_.out (by kernel_rfl)) (fun _ _ _ h => h) (Or.inl ⟨by rfl, ?_⟩) ?_ ?_
                      rotate_left
                      · intro w'
                        go_simp
                        with_reducible rfl
                      rotate_left
                      · simp only [Act.put, List.setIfInBounds_toArray, List.set_cons_zero, List.set_cons_succ, i64_w, i32_w]
                        rfl
                      refine pure_ (i := 14) (N := some 10) (v := ?_) (a' := ?_) #[true, true, true, true, true, true, true, true, true, true, true, true, true, true, true] rfl rfl (any_of HT_.out (by kernel_rfl)) (fun _ _ _ h => h) (Or.inl ⟨by rfl, ?_⟩) ?_ ?_
                      rotate_left
                      · intro w'
                        go_simp
                        with_reducible rfl
                      rotate_left
                      · simp only [Act.put, List.setIfInBounds_toArray, List.set_cons_zero, List.set_cons_succ, i64_w, i32_w]
                        rfl
                      refine done_ (done_of HT_.out (by kernel_rfl)) ?_
                      try go_wp2
                      have n0_ : Aside0 (((w17.setCell ⟨gb153, 0, none⟩ (.int .i64 t157)).setCell ⟨gb153, 1, none⟩ (.int .i64 t158)).heap[gb153]? = some (.cells #[.int .i64 t157, .int .i64 t158] 25 (0, 0))) := ⟨by (with_reducible repeat (first | refine blk_drewN ?_ _ | refine blk_drew ?_ | refine blk_alloc ?_ _)); refine blk_put (cs := #[.int .i64 t157, .int .i64 x154001_1]) ?_ 1 _ rfl; (with_reducible repeat (first | refine blk_drewN ?_ _ | refine blk_drew ?_ | refine blk_alloc ?_ _)); refine blk_put (cs := #[.int .i64 x154000_1, .int .i64 x154001_1]) ?_ 0 _ rfl; (with_reducible repeat (first | refine blk_drewN ?_ _ | refine blk_drew ?_ | refine blk_alloc ?_ _)); exact BK153.out⟩
                      have n1_ : Aside0 (Below w.heap.size w ((w17.setCell ⟨gb153, 0, none⟩ (.int .i64 t157)).setCell ⟨gb153, 1, none⟩ (.int .i64 t158))) := ⟨by repeat (first | (with_reducible first | exact HB.out | apply below_alloc | apply pw_below_drewN | apply below_drew1 | refine below_set ?_ GE153.out) | exact HB.out)⟩
                      (try clear BK153)
                      (try clear HB)
                      generalize ((w17.setCell ⟨gb153, 0, none⟩ (.int .i64 t157)).setCell ⟨gb153, 1, none⟩ (.int .i64 t158)) = w20 at n0_ n1_ ⊢
                      have BK153 := n0_
                      have HB := n1_
                      clear n0_ n1_
                      have n0_ := Aside0.mk (blk_drew BK153.out)
                      have n1_ := Aside0.mk (below_drew1 HB.out)
                      clear BK153
                      clear HB
                      have BK153 := n0_
                      have HB := n1_
                      clear n0_ n1_
                      have p161 : 0 ≤ (x7_1 : Int) := of_decide_eq_true (by first | (with_reducible assumption) | assumption)
                      have q161 : x7_1 < (l0.length : Int) := of_decide_eq_true (by first | (with_reducible assumption) | assumption)
                      obtain ⟨ad161, e161, hx161_0, hx161_1, hx161_2⟩ := at_T35 HR0.out x7_1 p161 q161
                      have hw161_2 := hx161_2
                      have hw161_1 := hx161_1
                      have hw161_0 := hx161_0
                      (try rw [← Nbq11.out] at hx161_0)
                      (try rw [← Nbq11.out] at hx161_1)
                      obtain rfl : ad154 = ad161 := (by injection e161)
                      replace hx161_0 := (HB.out.cell (World.block_lt_of_cell? w _ hx161_0)).trans hx161_0
                      replace hx161_1 := (HB.out.cell (World.block_lt_of_cell? w _ hx161_1)).trans hx161_1
                      replace hx161_2 := (HB.out.cell (World.block_lt_of_cell? w _ hx161_2)).trans hx161_2
                      replace p161 := eq_true p161
                      replace q161 := eq_true q161
                      refine start_ (n := 8) (S := fun w' => w'.cell? (ad154.add ((x7_1).toNat * 3)) = some (.bool ((rd_T35 l0 x7_1).f0)) ∧ w'.cell? ⟨(ad154.add ((x7_1).toNat * 3)).block, (ad154.add ((x7_1).toNat * 3)).off + 1, none⟩ = some (.bool ((rd_T35 l0 x7_1).f1)) ∧ w'.cell? ⟨(ad154.add ((x7_1).toNat * 3)).block, (ad154.add ((x7_1).toNat * 3)).off + 2, none⟩ = some (.int .i64 ((rd_T35 l0 x7_1).f2))) (ds := []) #[false, false, false, false, false, false, false, false] (by kernel_rfl) rfl rfl ⟨((HB.out.cell (World.block_lt_of_cell? w _ hw161_0)).trans hw161_0), ((HB.out.cell (World.block_lt_of_cell? w _ hw161_1)).trans hw161_1), ((HB.out.cell (World.block_lt_of_cell? w _ hw161_2)).trans hw161_2)⟩ (fun hHeld => ?_); refine with_tabW waypointlaw34_HelloScript.tab16 waypointlaw34_HelloScript.bits16 (fun HT_ HW_ => ?_)
                      generalize w20.drew = w21 at BK153 HB hx161_0 hx161_1 hx161_2 hHeld ⊢
                      refine pure_ (i := 0) (N := some 52) (v := ?_) (a' := ?_) #[true, false, false, false, false, false, false, false] rfl rfl (any_of HT_.out (by kernel_rfl)) (fun _ _ _ h => h) (Or.inl ⟨by rfl, ?_⟩) ?_ ?_
                      rotate_left
                      · intro w'
                        go_simp
                        with_reducible rfl
                      rotate_left
                      · simp only [Act.put, List.setIfInBounds_toArray, List.set_cons_zero, List.set_cons_succ, i64_w, i32_w]
                        rfl
                      refine pure_ (i := 1) (N := some 53) (v := ?_) (a' := ?_) #[true, true, false, false, false, false, false, false] rfl rfl (any_of HT_.out (by kernel_rfl)) (fun _ _ _ h => h) (Or.inl ⟨by rfl, ?_⟩) ?_ ?_
                      rotate_left
                      · intro w'
                        go_simp
                        with_reducible rfl
                      rotate_left
                      · simp only [Act.put, List.setIfInBounds_toArray, List.set_cons_zero, List.set_cons_succ, i64_w, i32_w]
                        rfl
                      refine pure_ (i := 2) (N := some 54) (v := ?_) (a' := ?_) #[true, true, true, false, false, false, false, false] rfl rfl (any_of HT_.out (by kernel_rfl)) (fun _ _ _ h => h) (Or.inl ⟨by rfl, ?_⟩) ?_ ?_
                      rotate_left
                      · intro w'
                        go_simp
                        with_reducible rfl
                      rotate_left
                      · simp only [Act.put, List.setIfInBounds_toArray, List.set_cons_zero, List.set_cons_succ, i64_w, i32_w]
                        rfl
                      refine pure_ (i := 3) (N := some 55) (v := ?_) (a' := ?_) #[true, true, true, true, false, false, false, false] rfl rfl (any_of HT_.out (by kernel_rfl)) (fun _ _ _ h => h) (Or.inl ⟨by rfl, ?_⟩) ?_ ?_
                      rotate_left
                      · intro w'
                        go_simp
                        with_reducible rfl
                      rotate_left
                      · simp only [Act.put, List.setIfInBounds_toArray, List.set_cons_zero, List.set_cons_succ, i64_w, i32_w]
                        rfl
                      refine pure_ (i := 4) (N := some 56) (v := ?_) (a' := ?_) #[true, true, true, true, true, false, false, false] rfl rfl (any_of HT_.out (by kernel_rfl)) (fun _ _ _ h => h) (Or.inl ⟨by rfl, ?_⟩) ?_ ?_
                      rotate_left
                      · intro w'
                        go_simp
                        with_reducible rfl
                      rotate_left
                      · simp only [Act.put, List.setIfInBounds_toArray, List.set_cons_zero, List.set_cons_succ, i64_w, i32_w]
                        rfl
                      refine pure_ (i := 6) (N := some 5) (v := ?_) (a' := ?_) #[true, true, true, true, true, false, true, false] rfl rfl (any_of HT_.out (by kernel_rfl)) (fun _ _ _ h => h) (Or.inl ⟨by rfl, ?_⟩) ?_ ?_
                      rotate_left
                      · intro w'
                        go_simp
                        with_reducible rfl
                      rotate_left
                      · simp only [Act.put, List.setIfInBounds_toArray, List.set_cons_zero, List.set_cons_succ, i64_w, i32_w]
                        rfl
                      refine take_ (i := 5) (N := some 57) (v := ?_) (a' := ?_) #[true, true, true, true, true, true, true, false] rfl rfl (take_ofW HT_.out HW_.out (by kernel_rfl)) (fun _ _ _ h => h) (Or.inl ⟨by rfl, ?_⟩) hHeld ?_ ?_
                      rotate_left
                      · rintro w' ⟨s0, s1, s2⟩
                        go_simp
                        with_reducible rfl
                      rotate_left
                      · simp only [Act.put, List.setIfInBounds_toArray, List.set_cons_zero, List.set_cons_succ, i64_w, i32_w]
                        rfl
                      refine pure_ (i := 7) (N := some 6) (v := ?_) (a' := ?_) #[true, true, true, true, true, true, true, true] rfl rfl (any_of HT_.out (by kernel_rfl)) (fun _ _ _ h => h) (Or.inl ⟨by rfl, ?_⟩) ?_ ?_
                      rotate_left
                      · intro w'
                        go_simp
                        with_reducible rfl
                      rotate_left
                      · simp only [Act.put, List.setIfInBounds_toArray, List.set_cons_zero, List.set_cons_succ, i64_w, i32_w]
                        rfl
                      refine done_ (done_of HT_.out (by kernel_rfl)) ?_
                      try go_wp2
                      go_meet
                      case rel => exact ⟨_, ((rd_T35 l0 x7_1).f2), ((rd_T35 l0 x7_1).f1), (t159), (t160), (t157), (t158), (by first | rfl | (simp; done) | (simp [*]; done)), (by first | rfl | (simp; done) | (simp [*]; done)), (by first | rfl | (simp; done) | (simp [*]; done)), (by first | rfl | (simp; done) | (simp [*]; done)), H', ⟨by have := HK1.out; first | omega | exact Nat.le_refl _⟩, ⟨by (with_reducible repeat (first | refine blk_drewN ?_ _ | refine blk_drew ?_ | refine blk_alloc ?_ _)); exact BK153.out⟩, ⟨by repeat (first | (with_reducible first | exact HB.out | apply below_alloc | apply pw_below_drewN | apply below_drew1 | refine below_set ?_ GE153.out) | exact HB.out)⟩⟩
                · replace c12 := Bool.eq_false_iff.mpr c12
                  subst c12
                  have H1 : ((hello_Tick.f k1 x154000_1 x154001_1 ((rd_T35 l0 x7_1).f2)).bind fun bt162 => (waypointlaw34_HelloScript.j1 k1 l0 x4_1 (wrap64 (x5_1 - (mn x5_1 (mx 0 ((rd_T35 l0 x7_1).f2))))) x6_1 x7_1 bt162.2.2.1 bt162.2.2.2 bt162.1 bt162.2.1)) = some r := by rw [if_neg (show ¬ (false = true) by decide)] at H; exact H
                  clear H
                  have H := H1
                  clear H1
                  replace H := Option.bind_eq_some_iff.mp H
                  obtain ⟨⟨t162, t163, t164, t165⟩, A220, H⟩ := H
                  replace H : (waypointlaw34_HelloScript.j1 k1 l0 x4_1 (wrap64 (x5_1 - (mn x5_1 (mx 0 ((rd_T35 l0 x7_1).f2))))) x6_1 x7_1 t164 t165 t162 t163) = some r := H
                  have A22 := Aside0.mk A220
                  clear A220
                  obtain ⟨ji23, hji23⟩ : ∃ j_ : Int, (mx 0 ((rd_T35 l0 x7_1).f2)) = j_ := ⟨_, rfl⟩
                  replace H : (waypointlaw34_HelloScript.j1 k1 l0 x4_1 (wrap64 (x5_1 - (mn x5_1 (ji23)))) x6_1 x7_1 t164 t165 t162 t163) = some r := by first | (rw [hji23] at H; exact H) | (simp only [hji23] at H ⊢; exact H)
                  (try rw [hji23] at A22)
                  have hji23_ : (if 0 < ((rd_T35 l0 x7_1).f2) then ((rd_T35 l0 x7_1).f2) else 0) = ji23 := hji23
                  obtain ⟨ji24, hji24⟩ : ∃ j_ : Int, (mn x5_1 (ji23)) = j_ := ⟨_, rfl⟩
                  replace H : (waypointlaw34_HelloScript.j1 k1 l0 x4_1 (wrap64 (x5_1 - (ji24))) x6_1 x7_1 t164 t165 t162 t163) = some r := by first | (rw [hji24] at H; exact H) | (simp only [hji24] at H ⊢; exact H)
                  (try rw [hji24] at A22)
                  have hji24_ : (if (ji23) < x5_1 then (ji23) else x5_1) = ji24 := hji24
                  have H' := Aside0.mk H
                  clear H
                  have hcz25_0 : wr.cell? ⟨gb153, 0, none⟩ = some (.int .i64 x154000_1) := (blk_cell BK153.out 0).trans rfl
                  have hcz25_1 : wr.cell? ⟨gb153, 1, none⟩ = some (.int .i64 x154001_1) := (blk_cell BK153.out 1).trans rfl
                  have hfz25_0 := blk_frozen BK153.out 0
                  have hfz25_1 := blk_frozen BK153.out 1
                  go_wp2_with (first | ((with_reducible refine gate_callee (f := 15) rfl ?_); refine goesL_ (some 61) rfl rfl Try.func15 (by kernel_rfl) rfl #[.agg #[.int .i64 x154000_1, .int .i64 x154001_1], .int .i64 ((rd_T35 l0 x7_1).f2)] rfl (by (try simp only [List.map_toArray, List.map_cons, List.map_nil]); first | done | rfl | (simp only [List.length_drop, List.length_take]; rfl)) ?_; (with_reducible refine (hello_Tick.calls k1 x154000_1 x154001_1 ((rd_T35 l0 x7_1).f2) t162 t163 t164 t165 _ A22.out).mono ?_); rintro e w26 ⟨rfl, hb⟩; refine ⟨_, rfl, ?_⟩; have n0_ := Aside0.mk (blk_below (g := gb153) (o := .cells #[.int .i64 x154000_1, .int .i64 x154001_1] 25 (0, 0)) (by (with_reducible repeat (first | refine blk_drewN ?_ _ | refine blk_drew ?_ | refine blk_alloc ?_ _)); exact BK153.out) hb); have n1_ := Aside0.mk (below_step (by repeat (first | (with_reducible first | exact HB.out | apply below_alloc | apply pw_below_drewN | apply below_drew1 | refine below_set ?_ GE153.out) | exact HB.out)) hb); clear BK153; clear HB; have BK153 := n0_; have HB := n1_; clear n0_ n1_; (try clear hb); (try clear hb2); (try clear hk); (try clear hi); have hcz27_0 : w26.cell? ⟨gb153, 0, none⟩ = some (.int .i64 x154000_1) := (blk_cell BK153.out 0).trans rfl; have hcz27_1 : w26.cell? ⟨gb153, 1, none⟩ = some (.int .i64 x154001_1) := (blk_cell BK153.out 1).trans rfl; have hfz27_0 := blk_frozen BK153.out 0; have hfz27_1 := blk_frozen BK153.out 1))
                  go_meet
                  case rel => exact ⟨_, (wrap64 (x5_1 - (ji24))), (x6_1), (t164), (t165), (t162), (t163), (by first | rfl | (simp; done) | (simp only [← hji24] <;> (first | rfl | simp)) | (simp [*]; done)), (by first | rfl | (simp; done) | (simp [*]; done)), (by first | rfl | (simp; done) | (simp [*]; done)), (by first | rfl | (simp; done) | (simp [*]; done)), H', ⟨by have := HK1.out; first | omega | exact Nat.le_refl _⟩, ⟨by (with_reducible repeat (first | refine blk_drewN ?_ _ | refine blk_drew ?_ | refine blk_alloc ?_ _)); refine blk_put (cs := #[.int .i64 t162, .int .i64 x154001_1]) ?_ 1 _ rfl; (with_reducible repeat (first | refine blk_drewN ?_ _ | refine blk_drew ?_ | refine blk_alloc ?_ _)); refine blk_put (cs := #[.int .i64 x154000_1, .int .i64 x154001_1]) ?_ 0 _ rfl; (with_reducible repeat (first | refine blk_drewN ?_ _ | refine blk_drew ?_ | refine blk_alloc ?_ _)); exact BK153.out⟩, ⟨by repeat (first | (with_reducible first | exact HB.out | apply below_alloc | apply pw_below_drewN | apply below_drew1 | refine below_set ?_ GE153.out) | exact HB.out)⟩⟩
              case rest =>
                clear HC10
                try clear c1
                try clear p1
                try clear q1
                try clear hx1
                try clear p2
                try clear c3
                try clear c4
                try clear c4b0
                try clear c4b1
                try clear p6
                try clear c8
                try clear c8b0
                try clear c9
                try clear c9b0
                try clear c10
                try clear c11
                try clear q11
                try clear c12
                try clear c13
                try clear c13b0
                try clear c14
                try clear c14b0
                try clear c15
                try clear p15
                try clear q15
                try clear hx15
                try clear p16
                try clear q16
                try clear hx16
                try clear hcz25_0
                try clear hcz25_1
                try clear hcz27_0
                try clear hcz27_1
                try clear hfz25_0
                try clear hfz25_1
                try clear hfz27_0
                try clear hfz27_1
                try clear hx154_0
                try clear hx154_1
                try clear hx154_2
                try clear hx155_0
                try clear hx155_1
                try clear hx155_2
                try clear hx156_0
                try clear hx156_1
                try clear hx156_2
                try clear hx161_0
                try clear hx161_1
                try clear hx161_2
                try clear p154
                try clear p155
                try clear p156
                try clear p161
                try clear p2
                try clear q154
                try clear q155
                try clear q156
                try clear q161
                obtain ⟨kq, x5_9, x6_9, x9_9, x10_9, x154000_9, x154001_9, rfl, rfl, rfl, rfl, HA, HJ9, BK153, HB⟩ := hcut
                cases kq with
                | zero => exact absurd HA.out (by simp [waypointlaw34_HelloScript.j1])
                | succ kj9 =>
                  have H := HA.out
                  clear HA
                  simp only [waypointlaw34_HelloScript.j1] at H
                  have HC28 := Aside0.mk H
                  clear H
                  go_upto_region 19 with (fail)
                  go_cut [11] (fun v11 wc => ∃ (kq : Nat) (x11_27 : Bool), v11 = .bool x11_27 ∧ Aside0 (waypointlaw34_HelloScript.j2 kq l0 x4_1 x5_9 x6_9 x7_1 x9_9 x10_9 x11_27 x154000_9 x154001_9 = some r) ∧ Aside0 (kq ≤ kj9) ∧ Aside0 (wc.heap[gb153]? = some (.cells #[.int .i64 x154000_9, .int .i64 x154001_9] 25 (0, 0))) ∧ Aside0 (Below w.heap.size w wc))
                  case first =>
                    have H := HC28.out
                    clear HC28
                    by_cases c29 : x5_9 > 0
                    · rw [if_pos c29] at H
                      have c29b0 : decide (0 < x5_9) = true := decide_eq_true c29
                      clear c29
                      (first | rw [c29b0] | (simp only [i64_w, i32_w]; rw [c29b0]) | skip)
                      have H' := Aside0.mk H
                      clear H
                      go_wp2
                      go_meet
                      case rel => exact ⟨_, (x6_9), (by first | rfl | (simp; done) | (simp [*]; done)), H', ⟨by have := HK1.out; have := HJ9.out; first | omega | exact Nat.le_refl _⟩, ⟨by (with_reducible repeat (first | refine blk_drewN ?_ _ | refine blk_drew ?_ | refine blk_alloc ?_ _)); exact BK153.out⟩, ⟨by repeat (first | (with_reducible first | exact HB.out | apply below_alloc | apply pw_below_drewN | apply below_drew1 | refine below_set ?_ GE153.out) | exact HB.out)⟩⟩
                    · rw [if_neg c29] at H
                      have c29b0 : decide (0 < x5_9) = false := decide_eq_false c29
                      clear c29
                      (first | rw [c29b0] | (simp only [i64_w, i32_w]; rw [c29b0]) | skip)
                      have H' := Aside0.mk H
                      clear H
                      go_wp2
                      go_meet
                      case rel => exact ⟨_, (false), (by first | rfl | (simp; done) | (simp [*]; done)), H', ⟨by have := HK1.out; have := HJ9.out; first | omega | exact Nat.le_refl _⟩, ⟨by (with_reducible repeat (first | refine blk_drewN ?_ _ | refine blk_drew ?_ | refine blk_alloc ?_ _)); exact BK153.out⟩, ⟨by repeat (first | (with_reducible first | exact HB.out | apply below_alloc | apply pw_below_drewN | apply below_drew1 | refine below_set ?_ GE153.out) | exact HB.out)⟩⟩
                  case rest =>
                    clear HC28
                    try clear c1
                    try clear p1
                    try clear q1
                    try clear hx1
                    try clear c2
                    try clear p2
                    try clear c3
                    try clear c4
                    try clear c4b0
                    try clear c4b1
                    try clear p6
                    try clear c8
                    try clear c8b0
                    try clear c9
                    try clear c9b0
                    try clear c10
                    try clear c11
                    try clear q11
                    try clear c12
                    try clear c13
                    try clear c13b0
                    try clear c14
                    try clear c14b0
                    try clear c15
                    try clear p15
                    try clear q15
                    try clear hx15
                    try clear p16
                    try clear q16
                    try clear hx16
                    try clear c29
                    try clear c29b0
                    try clear hcz25_0
                    try clear hcz25_1
                    try clear hcz27_0
                    try clear hcz27_1
                    try clear hfz25_0
                    try clear hfz25_1
                    try clear hfz27_0
                    try clear hfz27_1
                    try clear hx154_0
                    try clear hx154_1
                    try clear hx154_2
                    try clear hx155_0
                    try clear hx155_1
                    try clear hx155_2
                    try clear hx156_0
                    try clear hx156_1
                    try clear hx156_2
                    try clear hx161_0
                    try clear hx161_1
                    try clear hx161_2
                    try clear p1
                    try clear p15
                    try clear p154
                    try clear p155
                    try clear p156
                    try clear p16
                    try clear p161
                    try clear p2
                    try clear p6
                    try clear q1
                    try clear q11
                    try clear q15
                    try clear q154
                    try clear q155
                    try clear q156
                    try clear q16
                    try clear q161
                    obtain ⟨kq, x11_27, rfl, HA, HJ27, BK153, HB⟩ := hcut
                    cases kq with
                    | zero => exact absurd HA.out (by simp [waypointlaw34_HelloScript.j2])
                    | succ kj27 =>
                      have H := HA.out
                      clear HA
                      simp only [waypointlaw34_HelloScript.j2] at H
                      have HC30 := Aside0.mk H
                      clear H
                      go_upto_region 21 with (fail)
                      go_cut [80] (fun v80 wc => ∃ (kq : Nat) (x80_29 : Bool), v80 = .bool x80_29 ∧ Aside0 (waypointlaw34_HelloScript.j3 kq l0 x4_1 x5_9 x6_9 x7_1 x9_9 x10_9 x11_27 0 x80_29 x154000_9 x154001_9 = some r) ∧ Aside0 (kq ≤ kj27) ∧ Aside0 (wc.heap[gb153]? = some (.cells #[.int .i64 x154000_9, .int .i64 x154001_9] 25 (0, 0))) ∧ Aside0 (Below w.heap.size w wc))
                      case first =>
                        have H := HC30.out
                        clear HC30
                        by_cases c31 : x11_27 = true
                        · subst c31
                          have H1 : (waypointlaw34_HelloScript.j3 kj27 l0 x4_1 x5_9 x6_9 x7_1 x9_9 x10_9 true 0 (!x4_1) x154000_9 x154001_9) = some r := by rw [if_pos rfl] at H; exact H
                          clear H
                          have H := H1
                          clear H1
                          have H' := Aside0.mk H
                          clear H
                          go_wp2
                          go_meet
                          case rel => exact ⟨_, (!x4_1), (by first | rfl | (simp; done) | (simp [*]; done)), H', ⟨by have := HK1.out; have := HJ9.out; have := HJ27.out; first | omega | exact Nat.le_refl _⟩, ⟨by (with_reducible repeat (first | refine blk_drewN ?_ _ | refine blk_drew ?_ | refine blk_alloc ?_ _)); exact BK153.out⟩, ⟨by repeat (first | (with_reducible first | exact HB.out | apply below_alloc | apply pw_below_drewN | apply below_drew1 | refine below_set ?_ GE153.out) | exact HB.out)⟩⟩
                        · replace c31 := Bool.eq_false_iff.mpr c31
                          subst c31
                          have H1 : (waypointlaw34_HelloScript.j3 kj27 l0 x4_1 x5_9 x6_9 x7_1 x9_9 x10_9 false 0 false x154000_9 x154001_9) = some r := by rw [if_neg (show ¬ (false = true) by decide)] at H; exact H
                          clear H
                          have H := H1
                          clear H1
                          have H' := Aside0.mk H
                          clear H
                          go_wp2
                          go_meet
                          case rel => exact ⟨_, (false), (by first | rfl | (simp; done) | (simp [*]; done)), H', ⟨by have := HK1.out; have := HJ9.out; have := HJ27.out; first | omega | exact Nat.le_refl _⟩, ⟨by (with_reducible repeat (first | refine blk_drewN ?_ _ | refine blk_drew ?_ | refine blk_alloc ?_ _)); exact BK153.out⟩, ⟨by repeat (first | (with_reducible first | exact HB.out | apply below_alloc | apply pw_below_drewN | apply below_drew1 | refine below_set ?_ GE153.out) | exact HB.out)⟩⟩
                      case rest =>
                        clear HC30
                        try clear c1
                        try clear p1
                        try clear q1
                        try clear hx1
                        try clear c2
                        try clear p2
                        try clear c3
                        try clear c4
                        try clear c4b0
                        try clear c4b1
                        try clear p6
                        try clear c8
                        try clear c8b0
                        try clear c9
                        try clear c9b0
                        try clear c10
                        try clear c11
                        try clear q11
                        try clear c12
                        try clear c13
                        try clear c13b0
                        try clear c14
                        try clear c14b0
                        try clear c15
                        try clear p15
                        try clear q15
                        try clear hx15
                        try clear p16
                        try clear q16
                        try clear hx16
                        try clear c29
                        try clear c29b0
                        try clear c31
                        try clear hcz25_0
                        try clear hcz25_1
                        try clear hcz27_0
                        try clear hcz27_1
                        try clear hfz25_0
                        try clear hfz25_1
                        try clear hfz27_0
                        try clear hfz27_1
                        try clear hx154_0
                        try clear hx154_1
                        try clear hx154_2
                        try clear hx155_0
                        try clear hx155_1
                        try clear hx155_2
                        try clear hx156_0
                        try clear hx156_1
                        try clear hx156_2
                        try clear hx161_0
                        try clear hx161_1
                        try clear hx161_2
                        try clear p1
                        try clear p15
                        try clear p154
                        try clear p155
                        try clear p156
                        try clear p16
                        try clear p161
                        try clear p2
                        try clear p6
                        try clear q1
                        try clear q11
                        try clear q15
                        try clear q154
                        try clear q155
                        try clear q156
                        try clear q16
                        try clear q161
                        obtain ⟨kq, x80_29, rfl, HA, HJ29, BK153, HB⟩ := hcut
                        cases kq with
                        | zero => exact absurd HA.out (by simp [waypointlaw34_HelloScript.j3])
                        | succ kj29 =>
                          have H := HA.out
                          clear HA
                          simp only [waypointlaw34_HelloScript.j3] at H
                          have HC32 := Aside0.mk H
                          clear H
                          go_upto_if 80 with (fail)
                          go_cut [12] (fun v12 wc => ∃ (kq : Nat) (x12_31 : Int), v12 = .int .i64 x12_31 ∧ Aside0 (waypointlaw34_HelloScript.j4 kq l0 x4_1 x5_9 x6_9 x7_1 x9_9 x10_9 x11_27 x12_31 x154000_9 x154001_9 = some r) ∧ Aside0 (kq ≤ kj29) ∧ Aside0 (wc.heap[gb153]? = some (.cells #[.int .i64 x154000_9, .int .i64 x154001_9] 25 (0, 0))) ∧ Aside0 (Below w.heap.size w wc))
                          case first =>
                            have H := HC32.out
                            clear HC32
                            by_cases c33 : x80_29 = true
                            · subst c33
                              have H1 : (waypointlaw34_HelloScript.j4 kj29 l0 x4_1 x5_9 x6_9 x7_1 x9_9 x10_9 x11_27 1 x154000_9 x154001_9) = some r := by rw [if_pos rfl] at H; exact H
                              clear H
                              have H := H1
                              clear H1
                              have H' := Aside0.mk H
                              clear H
                              go_wp2
                              go_meet
                              case rel => exact ⟨_, (1), (by first | rfl | (simp; done) | (simp [*]; done)), H', ⟨by have := HK1.out; have := HJ9.out; have := HJ27.out; have := HJ29.out; first | omega | exact Nat.le_refl _⟩, ⟨by (with_reducible repeat (first | refine blk_drewN ?_ _ | refine blk_drew ?_ | refine blk_alloc ?_ _)); exact BK153.out⟩, ⟨by repeat (first | (with_reducible first | exact HB.out | apply below_alloc | apply pw_below_drewN | apply below_drew1 | refine below_set ?_ GE153.out) | exact HB.out)⟩⟩
                            · replace c33 := Bool.eq_false_iff.mpr c33
                              subst c33
                              have H1 : (waypointlaw34_HelloScript.j4 kj29 l0 x4_1 x5_9 x6_9 x7_1 x9_9 x10_9 x11_27 0 x154000_9 x154001_9) = some r := by rw [if_neg (show ¬ (false = true) by decide)] at H; exact H
                              clear H
                              have H := H1
                              clear H1
                              have H' := Aside0.mk H
                              clear H
                              go_wp2
                              go_meet
                              case rel => exact ⟨_, (0), (by first | rfl | (simp; done) | (simp [*]; done)), H', ⟨by have := HK1.out; have := HJ9.out; have := HJ27.out; have := HJ29.out; first | omega | exact Nat.le_refl _⟩, ⟨by (with_reducible repeat (first | refine blk_drewN ?_ _ | refine blk_drew ?_ | refine blk_alloc ?_ _)); exact BK153.out⟩, ⟨by repeat (first | (with_reducible first | exact HB.out | apply below_alloc | apply pw_below_drewN | apply below_drew1 | refine below_set ?_ GE153.out) | exact HB.out)⟩⟩
                          case rest =>
                            clear HC32
                            try clear c1
                            try clear p1
                            try clear q1
                            try clear hx1
                            try clear c2
                            try clear p2
                            try clear c3
                            try clear c4
                            try clear c4b0
                            try clear c4b1
                            try clear p6
                            try clear c8
                            try clear c8b0
                            try clear c9
                            try clear c9b0
                            try clear c10
                            try clear c11
                            try clear q11
                            try clear c12
                            try clear c13
                            try clear c13b0
                            try clear c14
                            try clear c14b0
                            try clear c15
                            try clear p15
                            try clear q15
                            try clear hx15
                            try clear p16
                            try clear q16
                            try clear hx16
                            try clear c29
                            try clear c29b0
                            try clear c31
                            try clear c33
                            try clear hcz25_0
                            try clear hcz25_1
                            try clear hcz27_0
                            try clear hcz27_1
                            try clear hfz25_0
                            try clear hfz25_1
                            try clear hfz27_0
                            try clear hfz27_1
                            try clear hx154_0
                            try clear hx154_1
                            try clear hx154_2
                            try clear hx155_0
                            try clear hx155_1
                            try clear hx155_2
                            try clear hx156_0
                            try clear hx156_1
                            try clear hx156_2
                            try clear hx161_0
                            try clear hx161_1
                            try clear hx161_2
                            try clear p1
                            try clear p15
                            try clear p154
                            try clear p155
                            try clear p156
                            try clear p16
                            try clear p161
                            try clear p2
                            try clear p6
                            try clear q1
                            try clear q11
                            try clear q15
                            try clear q154
                            try clear q155
                            try clear q156
                            try clear q16
                            try clear q161
                            obtain ⟨kq, x12_31, rfl, HA, HJ31, BK153, HB⟩ := hcut
                            cases kq with
                            | zero => exact absurd HA.out (by simp [waypointlaw34_HelloScript.j4])
                            | succ kj31 =>
                              have H := HA.out
                              clear HA
                              simp only [waypointlaw34_HelloScript.j4] at H
                              have HC34 := Aside0.mk H
                              clear H
                              go_upto_region 23 with (fail)
                              go_cut [85] (fun v85 wc => ∃ (kq : Nat) (x85_33 : Bool), v85 = .bool x85_33 ∧ Aside0 (waypointlaw34_HelloScript.j5 kq l0 x5_9 x6_9 x7_1 x9_9 x10_9 x11_27 x12_31 x85_33 x154000_9 x154001_9 = some r) ∧ Aside0 (kq ≤ kj31) ∧ Aside0 (wc.heap[gb153]? = some (.cells #[.int .i64 x154000_9, .int .i64 x154001_9] 25 (0, 0))) ∧ Aside0 (Below w.heap.size w wc))
                              case first =>
                                have H := HC34.out
                                clear HC34
                                by_cases c35 : x4_1 = true
                                · subst c35
                                  have H1 : (waypointlaw34_HelloScript.j5 kj31 l0 x5_9 x6_9 x7_1 x9_9 x10_9 x11_27 x12_31 (!x11_27) x154000_9 x154001_9) = some r := by rw [if_pos rfl] at H; exact H
                                  clear H
                                  have H := H1
                                  clear H1
                                  have H' := Aside0.mk H
                                  clear H
                                  go_wp2
                                  go_meet
                                  case rel => exact ⟨_, (!x11_27), (by first | rfl | (simp; done) | (simp [*]; done)), H', ⟨by have := HK1.out; have := HJ9.out; have := HJ27.out; have := HJ29.out; have := HJ31.out; first | omega | exact Nat.le_refl _⟩, ⟨by (with_reducible repeat (first | refine blk_drewN ?_ _ | refine blk_drew ?_ | refine blk_alloc ?_ _)); exact BK153.out⟩, ⟨by repeat (first | (with_reducible first | exact HB.out | apply below_alloc | apply pw_below_drewN | apply below_drew1 | refine below_set ?_ GE153.out) | exact HB.out)⟩⟩
                                · replace c35 := Bool.eq_false_iff.mpr c35
                                  subst c35
                                  have H1 : (waypointlaw34_HelloScript.j5 kj31 l0 x5_9 x6_9 x7_1 x9_9 x10_9 x11_27 x12_31 false x154000_9 x154001_9) = some r := by rw [if_neg (show ¬ (false = true) by decide)] at H; exact H
                                  clear H
                                  have H := H1
                                  clear H1
                                  have H' := Aside0.mk H
                                  clear H
                                  go_wp2
                                  go_meet
                                  case rel => exact ⟨_, (false), (by first | rfl | (simp; done) | (simp [*]; done)), H', ⟨by have := HK1.out; have := HJ9.out; have := HJ27.out; have := HJ29.out; have := HJ31.out; first | omega | exact Nat.le_refl _⟩, ⟨by (with_reducible repeat (first | refine blk_drewN ?_ _ | refine blk_drew ?_ | refine blk_alloc ?_ _)); exact BK153.out⟩, ⟨by repeat (first | (with_reducible first | exact HB.out | apply below_alloc | apply pw_below_drewN | apply below_drew1 | refine below_set ?_ GE153.out) | exact HB.out)⟩⟩
                              case rest =>
                                clear HC34
                                try clear c1
                                try clear p1
                                try clear q1
                                try clear hx1
                                try clear c2
                                try clear p2
                                try clear c3
                                try clear c4
                                try clear c4b0
                                try clear c4b1
                                try clear p6
                                try clear c8
                                try clear c8b0
                                try clear c9
                                try clear c9b0
                                try clear c10
                                try clear c11
                                try clear q11
                                try clear c12
                                try clear c13
                                try clear c13b0
                                try clear c14
                                try clear c14b0
                                try clear c15
                                try clear p15
                                try clear q15
                                try clear hx15
                                try clear p16
                                try clear q16
                                try clear hx16
                                try clear c29
                                try clear c29b0
                                try clear c31
                                try clear c33
                                try clear c35
                                try clear hcz25_0
                                try clear hcz25_1
                                try clear hcz27_0
                                try clear hcz27_1
                                try clear hfz25_0
                                try clear hfz25_1
                                try clear hfz27_0
                                try clear hfz27_1
                                try clear hx154_0
                                try clear hx154_1
                                try clear hx154_2
                                try clear hx155_0
                                try clear hx155_1
                                try clear hx155_2
                                try clear hx156_0
                                try clear hx156_1
                                try clear hx156_2
                                try clear hx161_0
                                try clear hx161_1
                                try clear hx161_2
                                try clear p1
                                try clear p15
                                try clear p154
                                try clear p155
                                try clear p156
                                try clear p16
                                try clear p161
                                try clear p2
                                try clear p6
                                try clear q1
                                try clear q11
                                try clear q15
                                try clear q154
                                try clear q155
                                try clear q156
                                try clear q16
                                try clear q161
                                obtain ⟨kq, x85_33, rfl, HA, HJ33, BK153, HB⟩ := hcut
                                cases kq with
                                | zero => exact absurd HA.out (by simp [waypointlaw34_HelloScript.j5])
                                | succ kj33 =>
                                  have H := HA.out
                                  clear HA
                                  simp only [waypointlaw34_HelloScript.j5] at H
                                  by_cases c36 : x85_33 = true
                                  · subst c36
                                    have H1 : (if x10_9 = 0 then (if x9_9 = 2 then (if ((x154000_9 == 2) != x11_27) = true then (some false) else (if ((x154000_9 == 0) != (x5_9 == 0)) = true then (some false) else (if x154001_9 = x5_9 then (waypointlaw34_HelloScript.l0 kj33 l0 x11_27 x5_9 x6_9 (wrap64 (x7_1 + 1)) x154000_9 x154001_9) else (some false)))) else (some false)) else (some false)) = some r := by rw [if_pos rfl] at H; exact H
                                    clear H
                                    have H := H1
                                    clear H1
                                    by_cases c37 : x10_9 = 0
                                    · rw [if_pos c37] at H
                                      have c37b0 : (x10_9 == 0) = true := beq_iff_eq.mpr c37
                                      have c37b1 : (x10_9 != 0) = false := bne_eq_false_iff_eq.mpr c37
                                      clear c37
                                      by_cases c38 : x9_9 = 2
                                      · rw [if_pos c38] at H
                                        have c38b0 : (x9_9 == 2) = true := beq_iff_eq.mpr c38
                                        have c38b1 : (x9_9 != 2) = false := bne_eq_false_iff_eq.mpr c38
                                        clear c38
                                        by_cases c39 : ((x154000_9 == 2) != x11_27) = true
                                        · rw [if_pos c39] at H
                                          have c39b0 : ((x154000_9 == 2) != x11_27) = true := c39
                                          (try (have c39b1 : decide ((x154000_9 == 2) = x11_27) = false := by simpa using c39))
                                          (try (have c39b2 : ((x154000_9 == 2) == x11_27) = false := by simpa using c39))
                                          (try (have c39b3 : ¬ ((x154000_9 == 2) = x11_27) := by simpa using c39))
                                          clear c39
                                          obtain rfl := Option.some.inj H
                                          have hcz40_0 : wc.cell? ⟨gb153, 0, none⟩ = some (.int .i64 x154000_9) := (blk_cell BK153.out 0).trans rfl
                                          have hcz40_1 : wc.cell? ⟨gb153, 1, none⟩ = some (.int .i64 x154001_9) := (blk_cell BK153.out 1).trans rfl
                                          have hfz40_0 := blk_frozen BK153.out 0
                                          have hfz40_1 := blk_frozen BK153.out 1
                                          go_wp2
                                          go_ret
                                          exact ⟨by first | rfl | (simp [errW_none, errW_some] <;> rfl) | (simp [*, errW_none, errW_some] <;> rfl), by repeat (first | (with_reducible first | exact HB.out | apply below_alloc | apply pw_below_drewN | apply below_drew1 | refine below_set ?_ GE153.out) | exact HB.out)⟩
                                        · rw [if_neg c39] at H
                                          have c39b0 : ((x154000_9 == 2) != x11_27) = false := by simpa using c39
                                          (try (have c39b1 : decide ((x154000_9 == 2) = x11_27) = true := by simpa using c39))
                                          (try (have c39b2 : ((x154000_9 == 2) == x11_27) = true := by simpa using c39))
                                          clear c39
                                          by_cases c41 : ((x154000_9 == 0) != (x5_9 == 0)) = true
                                          · rw [if_pos c41] at H
                                            have c41b0 : ((x154000_9 == 0) != (x5_9 == 0)) = true := c41
                                            (try (have c41b1 : decide ((x154000_9 == 0) = (x5_9 == 0)) = false := by simpa using c41))
                                            (try (have c41b2 : ((x154000_9 == 0) == (x5_9 == 0)) = false := by simpa using c41))
                                            (try (have c41b3 : ¬ ((x154000_9 == 0) = (x5_9 == 0)) := by simpa using c41))
                                            clear c41
                                            obtain rfl := Option.some.inj H
                                            have hcz42_0 : wc.cell? ⟨gb153, 0, none⟩ = some (.int .i64 x154000_9) := (blk_cell BK153.out 0).trans rfl
                                            have hcz42_1 : wc.cell? ⟨gb153, 1, none⟩ = some (.int .i64 x154001_9) := (blk_cell BK153.out 1).trans rfl
                                            have hfz42_0 := blk_frozen BK153.out 0
                                            have hfz42_1 := blk_frozen BK153.out 1
                                            go_wp2
                                            go_ret
                                            exact ⟨by first | rfl | (simp [errW_none, errW_some] <;> rfl) | (simp [*, errW_none, errW_some] <;> rfl), by repeat (first | (with_reducible first | exact HB.out | apply below_alloc | apply pw_below_drewN | apply below_drew1 | refine below_set ?_ GE153.out) | exact HB.out)⟩
                                          · rw [if_neg c41] at H
                                            have c41b0 : ((x154000_9 == 0) != (x5_9 == 0)) = false := by simpa using c41
                                            (try (have c41b1 : decide ((x154000_9 == 0) = (x5_9 == 0)) = true := by simpa using c41))
                                            (try (have c41b2 : ((x154000_9 == 0) == (x5_9 == 0)) = true := by simpa using c41))
                                            clear c41
                                            by_cases c43 : x154001_9 = x5_9
                                            · rw [if_pos c43] at H
                                              have c43b0 : (x154001_9 == x5_9) = true := beq_iff_eq.mpr c43
                                              have c43b1 : (x154001_9 != x5_9) = false := bne_eq_false_iff_eq.mpr c43
                                              clear c43
                                              have H' := Aside0.mk H
                                              clear H
                                              have hcz44_0 : wc.cell? ⟨gb153, 0, none⟩ = some (.int .i64 x154000_9) := (blk_cell BK153.out 0).trans rfl
                                              have hcz44_1 : wc.cell? ⟨gb153, 1, none⟩ = some (.int .i64 x154001_9) := (blk_cell BK153.out 1).trans rfl
                                              have hfz44_0 := blk_frozen BK153.out 0
                                              have hfz44_1 := blk_frozen BK153.out 1
                                              go_wp2
                                              go_roundg kj33
                                              case measure => have := HK1.out; have := HJ9.out; have := HJ27.out; have := HJ29.out; have := HJ31.out; have := HJ33.out; omega
                                              case rel => exact ⟨(x11_27), (x5_9), (x6_9), (wrap64 (x7_1 + 1)), (x154000_9), (x154001_9), (by first | rfl | (simp; done) | (simp [*]; done)), (by first | rfl | (simp; done) | (simp [*]; done)), (by first | rfl | (simp; done) | (simp [*]; done)), (by first | rfl | (simp; done) | (simp [*]; done)), H', ⟨by have := HK1.out; have := HJ9.out; have := HJ27.out; have := HJ29.out; have := HJ31.out; have := HJ33.out; omega⟩, ⟨by (with_reducible repeat (first | refine blk_drewN ?_ _ | refine blk_drew ?_ | refine blk_alloc ?_ _)); exact BK153.out⟩, ⟨by repeat (first | (with_reducible first | exact HB.out | apply below_alloc | apply pw_below_drewN | apply below_drew1 | refine below_set ?_ GE153.out) | exact HB.out)⟩⟩
                                            · rw [if_neg c43] at H
                                              have c43b0 : (x154001_9 == x5_9) = false := beq_eq_false_iff_ne.mpr c43
                                              have c43b1 : (x154001_9 != x5_9) = true := bne_iff_ne.mpr c43
                                              obtain rfl := Option.some.inj H
                                              have hcz45_0 : wc.cell? ⟨gb153, 0, none⟩ = some (.int .i64 x154000_9) := (blk_cell BK153.out 0).trans rfl
                                              have hcz45_1 : wc.cell? ⟨gb153, 1, none⟩ = some (.int .i64 x154001_9) := (blk_cell BK153.out 1).trans rfl
                                              have hfz45_0 := blk_frozen BK153.out 0
                                              have hfz45_1 := blk_frozen BK153.out 1
                                              go_wp2
                                              go_ret
                                              exact ⟨by first | rfl | (simp [errW_none, errW_some] <;> rfl) | (simp [*, errW_none, errW_some] <;> rfl), by repeat (first | (with_reducible first | exact HB.out | apply below_alloc | apply pw_below_drewN | apply below_drew1 | refine below_set ?_ GE153.out) | exact HB.out)⟩
                                      · rw [if_neg c38] at H
                                        have c38b0 : (x9_9 == 2) = false := beq_eq_false_iff_ne.mpr c38
                                        have c38b1 : (x9_9 != 2) = true := bne_iff_ne.mpr c38
                                        obtain rfl := Option.some.inj H
                                        go_wp2
                                        go_ret
                                        exact ⟨by first | rfl | (simp [errW_none, errW_some] <;> rfl) | (simp [*, errW_none, errW_some] <;> rfl), by repeat (first | (with_reducible first | exact HB.out | apply below_alloc | apply pw_below_drewN | apply below_drew1 | refine below_set ?_ GE153.out) | exact HB.out)⟩
                                    · rw [if_neg c37] at H
                                      have c37b0 : (x10_9 == 0) = false := beq_eq_false_iff_ne.mpr c37
                                      have c37b1 : (x10_9 != 0) = true := bne_iff_ne.mpr c37
                                      obtain rfl := Option.some.inj H
                                      go_wp2
                                      go_ret
                                      exact ⟨by first | rfl | (simp [errW_none, errW_some] <;> rfl) | (simp [*, errW_none, errW_some] <;> rfl), by repeat (first | (with_reducible first | exact HB.out | apply below_alloc | apply pw_below_drewN | apply below_drew1 | refine below_set ?_ GE153.out) | exact HB.out)⟩
                                  · replace c36 := Bool.eq_false_iff.mpr c36
                                    subst c36
                                    have H1 : (if x10_9 = 0 then (if x9_9 = x12_31 then (if ((x154000_9 == 2) != x11_27) = true then (some false) else (if ((x154000_9 == 0) != (x5_9 == 0)) = true then (some false) else (if x154001_9 = x5_9 then (waypointlaw34_HelloScript.l0 kj33 l0 x11_27 x5_9 x6_9 (wrap64 (x7_1 + 1)) x154000_9 x154001_9) else (some false)))) else (some false)) else (some false)) = some r := by rw [if_neg (show ¬ (false = true) by decide)] at H; exact H
                                    clear H
                                    have H := H1
                                    clear H1
                                    by_cases c46 : x10_9 = 0
                                    · rw [if_pos c46] at H
                                      have c46b0 : (x10_9 == 0) = true := beq_iff_eq.mpr c46
                                      have c46b1 : (x10_9 != 0) = false := bne_eq_false_iff_eq.mpr c46
                                      clear c46
                                      by_cases c47 : x9_9 = x12_31
                                      · rw [if_pos c47] at H
                                        have c47b0 : (x9_9 == x12_31) = true := beq_iff_eq.mpr c47
                                        have c47b1 : (x9_9 != x12_31) = false := bne_eq_false_iff_eq.mpr c47
                                        clear c47
                                        by_cases c48 : ((x154000_9 == 2) != x11_27) = true
                                        · rw [if_pos c48] at H
                                          have c48b0 : ((x154000_9 == 2) != x11_27) = true := c48
                                          (try (have c48b1 : decide ((x154000_9 == 2) = x11_27) = false := by simpa using c48))
                                          (try (have c48b2 : ((x154000_9 == 2) == x11_27) = false := by simpa using c48))
                                          (try (have c48b3 : ¬ ((x154000_9 == 2) = x11_27) := by simpa using c48))
                                          clear c48
                                          obtain rfl := Option.some.inj H
                                          have hcz49_0 : wc.cell? ⟨gb153, 0, none⟩ = some (.int .i64 x154000_9) := (blk_cell BK153.out 0).trans rfl
                                          have hcz49_1 : wc.cell? ⟨gb153, 1, none⟩ = some (.int .i64 x154001_9) := (blk_cell BK153.out 1).trans rfl
                                          have hfz49_0 := blk_frozen BK153.out 0
                                          have hfz49_1 := blk_frozen BK153.out 1
                                          go_wp2
                                          go_ret
                                          exact ⟨by first | rfl | (simp [errW_none, errW_some] <;> rfl) | (simp [*, errW_none, errW_some] <;> rfl), by repeat (first | (with_reducible first | exact HB.out | apply below_alloc | apply pw_below_drewN | apply below_drew1 | refine below_set ?_ GE153.out) | exact HB.out)⟩
                                        · rw [if_neg c48] at H
                                          have c48b0 : ((x154000_9 == 2) != x11_27) = false := by simpa using c48
                                          (try (have c48b1 : decide ((x154000_9 == 2) = x11_27) = true := by simpa using c48))
                                          (try (have c48b2 : ((x154000_9 == 2) == x11_27) = true := by simpa using c48))
                                          clear c48
                                          by_cases c50 : ((x154000_9 == 0) != (x5_9 == 0)) = true
                                          · rw [if_pos c50] at H
                                            have c50b0 : ((x154000_9 == 0) != (x5_9 == 0)) = true := c50
                                            (try (have c50b1 : decide ((x154000_9 == 0) = (x5_9 == 0)) = false := by simpa using c50))
                                            (try (have c50b2 : ((x154000_9 == 0) == (x5_9 == 0)) = false := by simpa using c50))
                                            (try (have c50b3 : ¬ ((x154000_9 == 0) = (x5_9 == 0)) := by simpa using c50))
                                            clear c50
                                            obtain rfl := Option.some.inj H
                                            have hcz51_0 : wc.cell? ⟨gb153, 0, none⟩ = some (.int .i64 x154000_9) := (blk_cell BK153.out 0).trans rfl
                                            have hcz51_1 : wc.cell? ⟨gb153, 1, none⟩ = some (.int .i64 x154001_9) := (blk_cell BK153.out 1).trans rfl
                                            have hfz51_0 := blk_frozen BK153.out 0
                                            have hfz51_1 := blk_frozen BK153.out 1
                                            go_wp2
                                            go_ret
                                            exact ⟨by first | rfl | (simp [errW_none, errW_some] <;> rfl) | (simp [*, errW_none, errW_some] <;> rfl), by repeat (first | (with_reducible first | exact HB.out | apply below_alloc | apply pw_below_drewN | apply below_drew1 | refine below_set ?_ GE153.out) | exact HB.out)⟩
                                          · rw [if_neg c50] at H
                                            have c50b0 : ((x154000_9 == 0) != (x5_9 == 0)) = false := by simpa using c50
                                            (try (have c50b1 : decide ((x154000_9 == 0) = (x5_9 == 0)) = true := by simpa using c50))
                                            (try (have c50b2 : ((x154000_9 == 0) == (x5_9 == 0)) = true := by simpa using c50))
                                            clear c50
                                            by_cases c52 : x154001_9 = x5_9
                                            · rw [if_pos c52] at H
                                              have c52b0 : (x154001_9 == x5_9) = true := beq_iff_eq.mpr c52
                                              have c52b1 : (x154001_9 != x5_9) = false := bne_eq_false_iff_eq.mpr c52
                                              clear c52
                                              have H' := Aside0.mk H
                                              clear H
                                              have hcz53_0 : wc.cell? ⟨gb153, 0, none⟩ = some (.int .i64 x154000_9) := (blk_cell BK153.out 0).trans rfl
                                              have hcz53_1 : wc.cell? ⟨gb153, 1, none⟩ = some (.int .i64 x154001_9) := (blk_cell BK153.out 1).trans rfl
                                              have hfz53_0 := blk_frozen BK153.out 0
                                              have hfz53_1 := blk_frozen BK153.out 1
                                              go_wp2
                                              go_roundg kj33
                                              case measure => have := HK1.out; have := HJ9.out; have := HJ27.out; have := HJ29.out; have := HJ31.out; have := HJ33.out; omega
                                              case rel => exact ⟨(x11_27), (x5_9), (x6_9), (wrap64 (x7_1 + 1)), (x154000_9), (x154001_9), (by first | rfl | (simp; done) | (simp [*]; done)), (by first | rfl | (simp; done) | (simp [*]; done)), (by first | rfl | (simp; done) | (simp [*]; done)), (by first | rfl | (simp; done) | (simp [*]; done)), H', ⟨by have := HK1.out; have := HJ9.out; have := HJ27.out; have := HJ29.out; have := HJ31.out; have := HJ33.out; omega⟩, ⟨by (with_reducible repeat (first | refine blk_drewN ?_ _ | refine blk_drew ?_ | refine blk_alloc ?_ _)); exact BK153.out⟩, ⟨by repeat (first | (with_reducible first | exact HB.out | apply below_alloc | apply pw_below_drewN | apply below_drew1 | refine below_set ?_ GE153.out) | exact HB.out)⟩⟩
                                            · rw [if_neg c52] at H
                                              have c52b0 : (x154001_9 == x5_9) = false := beq_eq_false_iff_ne.mpr c52
                                              have c52b1 : (x154001_9 != x5_9) = true := bne_iff_ne.mpr c52
                                              obtain rfl := Option.some.inj H
                                              have hcz54_0 : wc.cell? ⟨gb153, 0, none⟩ = some (.int .i64 x154000_9) := (blk_cell BK153.out 0).trans rfl
                                              have hcz54_1 : wc.cell? ⟨gb153, 1, none⟩ = some (.int .i64 x154001_9) := (blk_cell BK153.out 1).trans rfl
                                              have hfz54_0 := blk_frozen BK153.out 0
                                              have hfz54_1 := blk_frozen BK153.out 1
                                              go_wp2
                                              go_ret
                                              exact ⟨by first | rfl | (simp [errW_none, errW_some] <;> rfl) | (simp [*, errW_none, errW_some] <;> rfl), by repeat (first | (with_reducible first | exact HB.out | apply below_alloc | apply pw_below_drewN | apply below_drew1 | refine below_set ?_ GE153.out) | exact HB.out)⟩
                                      · rw [if_neg c47] at H
                                        have c47b0 : (x9_9 == x12_31) = false := beq_eq_false_iff_ne.mpr c47
                                        have c47b1 : (x9_9 != x12_31) = true := bne_iff_ne.mpr c47
                                        obtain rfl := Option.some.inj H
                                        go_wp2
                                        go_ret
                                        exact ⟨by first | rfl | (simp [errW_none, errW_some] <;> rfl) | (simp [*, errW_none, errW_some] <;> rfl), by repeat (first | (with_reducible first | exact HB.out | apply below_alloc | apply pw_below_drewN | apply below_drew1 | refine below_set ?_ GE153.out) | exact HB.out)⟩
                                    · rw [if_neg c46] at H
                                      have c46b0 : (x10_9 == 0) = false := beq_eq_false_iff_ne.mpr c46
                                      have c46b1 : (x10_9 != 0) = true := bne_iff_ne.mpr c46
                                      obtain rfl := Option.some.inj H
                                      go_wp2
                                      go_ret
                                      exact ⟨by first | rfl | (simp [errW_none, errW_some] <;> rfl) | (simp [*, errW_none, errW_some] <;> rfl), by repeat (first | (with_reducible first | exact HB.out | apply below_alloc | apply pw_below_drewN | apply below_drew1 | refine below_set ?_ GE153.out) | exact HB.out)⟩
            · rw [if_neg c9] at H
              exact absurd H (by simp)
          · rw [if_neg c8] at H
            have c8b0 : decide (x7_1 < (l0.length : Int)) = false := decide_eq_false c8
            clear c8
            obtain rfl := Option.some.inj H
            go_wp2
            go_ret
            exact ⟨by first | rfl | (simp [errW_none, errW_some] <;> rfl) | (simp [*, errW_none, errW_some] <;> rfl), by repeat (first | (with_reducible first | exact HB.out | apply below_alloc | apply pw_below_drewN | apply below_drew1 | refine below_set ?_ GE153.out) | exact HB.out)⟩
  · replace c3 := Bool.eq_false_iff.mpr c3
    subst c3
    have H1 : (some false) = some r := by rw [if_neg (show ¬ (false = true) by decide)] at H; exact H
    clear H
    have H := H1
    clear H1
    obtain rfl := Option.some.inj H
    go_enter Try.func4, Try.ntmps4
    go_wp2_with (first | ((with_reducible refine gate_callee (f := 10) rfl ?_); refine goesL_ (some 13) rfl rfl Try.func10 (by kernel_rfl) rfl #[] rfl (by (try simp only [List.map_toArray, List.map_cons, List.map_nil]); first | done | rfl | (simp only [List.length_drop, List.length_take]; rfl)) ?_; (with_reducible refine (waypointlaw34_awake.calls k  false _ A2.out).mono ?_); rintro e w55 ⟨rfl, hb⟩; refine ⟨_, rfl, ?_⟩; have n0_ := Aside0.mk (below_step (by repeat (first | (with_reducible first | exact HB.out | apply below_alloc | apply pw_below_drewN | apply below_drew1) | exact HB.out)) hb); clear HB; have HB := n0_; clear n0_; (try clear hb); (try clear hb2); (try clear hk); (try clear hi)))
    go_ret
    exact ⟨by first | rfl | (simp [errW_none, errW_some] <;> rfl) | (simp [*, errW_none, errW_some] <;> rfl), by repeat (first | (with_reducible first | exact HB.out | apply below_alloc | apply pw_below_drewN | apply below_drew1) | exact HB.out)⟩

end Go.Proofs.Ytopdnkihecomnaa.PT34

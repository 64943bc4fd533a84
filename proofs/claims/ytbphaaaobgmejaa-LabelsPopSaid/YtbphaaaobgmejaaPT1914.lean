-- WRITTEN BY mygen.py, a program of mine over the kit's print; Lean checks every row
import Derived.Test.YtbphaaaobgmejaaPT190
import Derived.Test.YtbphaaaobgmejaaPT1910
namespace Go.Proofs.Ytbphaaaobgmejaa.PT19
open Go.RowKit Go.Proofs.YtbphaaaobgmejaaW.PrintWords Go.Proofs.YtbphaaaobgmejaaW.PrintLast Go.Proofs.YtbphaaaobgmejaaW.PrintMore
attribute [local go_sem] max2_int min2_int max_two min_two max_three min_three max_four min_four   -- for this text's walks alone
set_option linter.unusedVariables false
set_option linter.unusedSimpArgs false

/-! ### labels_Unpack: function 17 -/
mutual
def labels_Unpack.j0 : Nat → List Int → Bool → Option ((List (S30)) × Int × Int × Int)
  | 0, _, _ => none
  | k + 1, x0, x24 => if x24 = true then (some (([] : List (S30)), 0, 0, 4)) else (labels_Unpack.l0 k x0 ([] : List (S30)) 0 0 0)
def labels_Unpack.l0 : Nat → List Int → List (S30) → Int → Int → Int → Option ((List (S30)) × Int × Int × Int)
  | 0, _, _, _, _, _ => none
  | k + 1, x0, x6, x7, x8, x9 => if x9 < (x0.length : Int) then (if 0 ≤ x9 then (if 0 ≤ (wrap64 (x9 + 1)) then (if (wrap64 (x9 + 1)) < (x0.length : Int) then (if 0 ≤ (wrap64 (x9 + 2)) then (if (wrap64 (x9 + 2)) < (x0.length : Int) then (if 0 ≤ (wrap64 (x9 + 3)) then (if (wrap64 (x9 + 3)) < (x0.length : Int) then ((labels_Decode.f (wrap64 ((Go.bits .or .u32 (Go.bits .or .u32 (Go.bits .or .u32 ((((rd x0 x9) % 4294967296) * 16777216) % 4294967296) ((((rd x0 (wrap64 (x9 + 1))) % 4294967296) * 65536) % 4294967296)) ((((rd x0 (wrap64 (x9 + 2))) % 4294967296) * 256) % 4294967296)) ((rd x0 (wrap64 (x9 + 3))) % 4294967296)) / 4096))).bind fun bt183 => (if bt183.2.2 = 0 then (labels_Unpack.j2 k x0 x6 x7 x8 x9 (Go.bits .or .u32 (Go.bits .or .u32 (Go.bits .or .u32 ((((rd x0 x9) % 4294967296) * 16777216) % 4294967296) ((((rd x0 (wrap64 (x9 + 1))) % 4294967296) * 65536) % 4294967296)) ((((rd x0 (wrap64 (x9 + 2))) % 4294967296) * 256) % 4294967296)) ((rd x0 (wrap64 (x9 + 3))) % 4294967296)) (((Go.bits .and .u32 ((Go.bits .or .u32 (Go.bits .or .u32 (Go.bits .or .u32 ((((rd x0 x9) % 4294967296) * 16777216) % 4294967296) ((((rd x0 (wrap64 (x9 + 1))) % 4294967296) * 65536) % 4294967296)) ((((rd x0 (wrap64 (x9 + 2))) % 4294967296) * 256) % 4294967296)) ((rd x0 (wrap64 (x9 + 3))) % 4294967296)) / 256) 1) == 1) != ((wrap64 (x9 + 4)) == (x0.length : Int))) bt183.1 bt183.2.1) else (labels_Unpack.j2 k x0 x6 x7 x8 x9 (Go.bits .or .u32 (Go.bits .or .u32 (Go.bits .or .u32 ((((rd x0 x9) % 4294967296) * 16777216) % 4294967296) ((((rd x0 (wrap64 (x9 + 1))) % 4294967296) * 65536) % 4294967296)) ((((rd x0 (wrap64 (x9 + 2))) % 4294967296) * 256) % 4294967296)) ((rd x0 (wrap64 (x9 + 3))) % 4294967296)) true bt183.1 bt183.2.1))) else (none)) else (none)) else (none)) else (none)) else (none)) else (none)) else (none)) else (some (x6, x7, x8, 0))
def labels_Unpack.j2 : Nat → List Int → List (S30) → Int → Int → Int → Int → Bool → Int → Int → Option ((List (S30)) × Int × Int × Int)
  | 0, _, _, _, _, _, _, _, _, _ => none
  | k + 1, x0, x6, x7, x8, x9, x10, x81, x187000, x187001 => if x81 = true then (some (([] : List (S30)), 0, 0, 4)) else (if x9 > 0 then (if (wrap64 (Go.bits .and .u32 (x10 / 512) 7)) = x7 then (if (wrap64 (Go.bits .and .u32 x10 255)) = x8 then (if x6.length < 8796093022208 then (labels_Unpack.l0 k x0 (x6 ++ [(⟨x187000, x187001⟩ : S30)]) (wrap64 (Go.bits .and .u32 (x10 / 512) 7)) (wrap64 (Go.bits .and .u32 x10 255)) (wrap64 (x9 + 4))) else (none)) else (some (([] : List (S30)), 0, 0, 4))) else (some (([] : List (S30)), 0, 0, 4))) else (if x6.length < 8796093022208 then (labels_Unpack.l0 k x0 (x6 ++ [(⟨x187000, x187001⟩ : S30)]) (wrap64 (Go.bits .and .u32 (x10 / 512) 7)) (wrap64 (Go.bits .and .u32 x10 255)) (wrap64 (x9 + 4))) else (none)))
end
def labels_Unpack.f (k : Nat) (l0 : List Int) : Option ((List (S30)) × Int × Int × Int) := if ((l0.length : Int) % 4) = 0 then (labels_Unpack.j0 k l0 (decide ((l0.length : Int) > 128))) else (labels_Unpack.j0 k l0 true)
theorem labels_Unpack.mono_l : ∀ k, (∀ y0 y1, LeO (labels_Unpack.j0 k y0 y1) (labels_Unpack.j0 (k + 1) y0 y1)) ∧ (∀ y0 y1 y2 y3 y4, LeO (labels_Unpack.l0 k y0 y1 y2 y3 y4) (labels_Unpack.l0 (k + 1) y0 y1 y2 y3 y4)) ∧ (∀ y0 y1 y2 y3 y4 y5 y6 y7 y8, LeO (labels_Unpack.j2 k y0 y1 y2 y3 y4 y5 y6 y7 y8) (labels_Unpack.j2 (k + 1) y0 y1 y2 y3 y4 y5 y6 y7 y8))
  | 0 => ⟨fun _ _ r h => by simp [labels_Unpack.j0] at h, fun _ _ _ _ _ r h => by simp [labels_Unpack.l0] at h, fun _ _ _ _ _ _ _ _ _ r h => by simp [labels_Unpack.j2] at h⟩
  | k + 1 => by
    obtain ⟨ih0, ih1, ih2⟩ := labels_Unpack.mono_l k
    refine ⟨?_, ?_, ?_⟩
    · intro y0 y1
      unfold labels_Unpack.j0
      repeat' first
      | (with_reducible exact ih0 _ _)
      | (with_reducible exact ih1 _ _ _ _ _)
      | (with_reducible exact ih2 _ _ _ _ _ _ _ _ _)
      | (with_reducible exact LeO.refl _)
      | (with_reducible exact LeO.none _)
      | (with_reducible refine LeO.ite ?_ ?_)
      | (with_reducible refine LeO.bind ?_ (fun _ => ?_))
      | exact ih0 _ _
      | exact ih1 _ _ _ _ _
      | exact ih2 _ _ _ _ _ _ _ _ _
      | exact LeO.none _
      | refine LeO.ite ?_ ?_
      | refine LeO.bind ?_ (fun _ => ?_)
    · intro y0 y1 y2 y3 y4
      unfold labels_Unpack.l0
      repeat' first
      | (with_reducible exact ih0 _ _)
      | (with_reducible exact ih1 _ _ _ _ _)
      | (with_reducible exact ih2 _ _ _ _ _ _ _ _ _)
      | (with_reducible exact LeO.refl _)
      | (with_reducible exact LeO.none _)
      | (with_reducible refine LeO.ite ?_ ?_)
      | (with_reducible refine LeO.bind ?_ (fun _ => ?_))
      | exact ih0 _ _
      | exact ih1 _ _ _ _ _
      | exact ih2 _ _ _ _ _ _ _ _ _
      | exact LeO.none _
      | refine LeO.ite ?_ ?_
      | refine LeO.bind ?_ (fun _ => ?_)
    · intro y0 y1 y2 y3 y4 y5 y6 y7 y8
      unfold labels_Unpack.j2
      repeat' first
      | (with_reducible exact ih0 _ _)
      | (with_reducible exact ih1 _ _ _ _ _)
      | (with_reducible exact ih2 _ _ _ _ _ _ _ _ _)
      | (with_reducible exact LeO.refl _)
      | (with_reducible exact LeO.none _)
      | (with_reducible refine LeO.ite ?_ ?_)
      | (with_reducible refine LeO.bind ?_ (fun _ => ?_))
      | exact ih0 _ _
      | exact ih1 _ _ _ _ _
      | exact ih2 _ _ _ _ _ _ _ _ _
      | exact LeO.none _
      | refine LeO.ite ?_ ?_
      | refine LeO.bind ?_ (fun _ => ?_)
theorem labels_Unpack.mono : ∀ a0 k, LeO (labels_Unpack.f k a0) (labels_Unpack.f (k + 1) a0) := by
  intro a0 k
  obtain ⟨ih0, ih1, ih2⟩ := labels_Unpack.mono_l k
  unfold labels_Unpack.f
  repeat' first
      | (with_reducible exact ih0 _ _)
      | (with_reducible exact ih1 _ _ _ _ _)
      | (with_reducible exact ih2 _ _ _ _ _ _ _ _ _)
      | (with_reducible exact LeO.refl _)
      | (with_reducible exact LeO.none _)
      | (with_reducible refine LeO.ite ?_ ?_)
      | (with_reducible refine LeO.bind ?_ (fun _ => ?_))
      | exact ih0 _ _
      | exact ih1 _ _ _ _ _
      | exact ih2 _ _ _ _ _ _ _ _ _
      | exact LeO.none _
      | refine LeO.ite ?_ ?_
      | refine LeO.bind ?_ (fun _ => ?_)
set_option maxHeartbeats 8000000 in
set_option maxRecDepth 100000 in
theorem labels_Unpack.calls (k : Nat) (A0 : Option Addr) (c0 : Nat) (l0 : List Int) (r1 : List (S30)) (r2 : Int) (r3 : Int) (r4 : Int) (w : World) (hr0 : Kd.C (Kd.int .u8) w A0 l0.length l0) (hc0 : l0.length ≤ c0) (h : labels_Unpack.f k l0 = some (r1, r2, r3, r4)) :
    Calls Try.prog 17 #[.slice A0 l0.length c0] w fun e w' => ∃ v0_ : Value, e = .returned (.tuple #[v0_, .int .i64 r2, .int .i64 r3, .int .i64 r4]) ∧ Kd.R k30 30 w' w.heap.size (fun _ => True) v0_ r1 ∧ Below w.heap.size w w' := by
  have hu30 := Try.underlying30
  have HR0 := Aside0.mk hr0
  have HC0 := Aside0.mk hc0
  clear hr0 hc0
  have HB := Aside0.mk (Below.refl w.heap.size w)
  have H : (if ((l0.length : Int) % 4) = 0 then (labels_Unpack.j0 k l0 (decide ((l0.length : Int) > 128))) else (labels_Unpack.j0 k l0 true)) = some (r1, r2, r3, r4) := h
  clear h
  have HC2 := Aside0.mk H
  clear H
  go_enter Try.func17, Try.ntmps17
  go_upto_region 1 with (fail)
  repeat (go_quiet (fail); go_upto_region 1 with (fail))
  go_cut [24] (fun v24 wc => ∃ (kq : Nat) (x24_1 : Bool), v24 = .bool x24_1 ∧ Aside0 (labels_Unpack.j0 kq l0 x24_1 = some (r1, r2, r3, r4)) ∧ Aside0 (kq ≤ k) ∧ Aside0 (Below w.heap.size w wc))
  case first =>
    have H := HC2.out
    clear HC2
    by_cases c3 : ((l0.length : Int) % 4) = 0
    · rw [if_pos c3] at H
      have c3b0 : (((l0.length : Int) % 4) == 0) = true := beq_iff_eq.mpr c3
      have c3b1 : (((l0.length : Int) % 4) != 0) = false := bne_eq_false_iff_eq.mpr c3
      clear c3
      (first | rw [c3b0] | (simp only [i64_w, i32_w]; rw [c3b0]) | skip)
      have H' := Aside0.mk H
      clear H
      go_wp2
      repeat (go_quiet (fail); try go_wp2)
      go_meet
      case rel => exact ⟨_, (decide ((l0.length : Int) > 128)), (by first | rfl | (simp; done) | (simp [*]; done)), H', ⟨by first | omega | exact Nat.le_refl _⟩, ⟨by repeat (first | (with_reducible first | exact HB.out | apply below_alloc | apply pw_below_drewN | apply below_drew1) | exact HB.out)⟩⟩
    · rw [if_neg c3] at H
      have c3b0 : (((l0.length : Int) % 4) == 0) = false := beq_eq_false_iff_ne.mpr c3
      have c3b1 : (((l0.length : Int) % 4) != 0) = true := bne_iff_ne.mpr c3
      (first | rw [c3b0] | (simp only [i64_w, i32_w]; rw [c3b0]) | skip)
      have H' := Aside0.mk H
      clear H
      go_wp2
      repeat (go_quiet (fail); try go_wp2)
      go_meet
      case rel => exact ⟨_, (true), (by first | rfl | (simp; done) | (simp [*]; done)), H', ⟨by first | omega | exact Nat.le_refl _⟩, ⟨by repeat (first | (with_reducible first | exact HB.out | apply below_alloc | apply pw_below_drewN | apply below_drew1) | exact HB.out)⟩⟩
  case rest =>
    clear HC2
    try clear c1
    try clear p2
    try clear c3
    try clear c3b0
    try clear c3b1
    obtain ⟨kq, x24_1, rfl, HA, HJ1, HB⟩ := hcut
    cases kq with
    | zero => exact absurd HA.out (by simp [labels_Unpack.j0])
    | succ kj1 =>
      have H := HA.out
      clear HA
      simp only [labels_Unpack.j0] at H
      by_cases c4 : x24_1 = true
      · subst c4
        have H1 : (some (([] : List (S30)), 0, 0, 4)) = some (r1, r2, r3, r4) := by rw [if_pos rfl] at H; exact H
        clear H
        have H := H1
        clear H1
        simp only [Option.some.injEq, Prod.mk.injEq] at H
        obtain ⟨rfl, rfl, rfl, rfl⟩ := H
        go_wp2
        repeat (go_quiet (fail); try go_wp2)
        refine bodyPost_ret (results_list (rs := [.tmp 2, .tmp 3, .tmp 4, .tmp 5]) rfl (by simp) (.tmp (.tmp (.tmp (.tmp .nil))))) rfl ?_
        exact ⟨_, by first | rfl | (simp [errW_none, errW_some] <;> rfl) | (simp [*, errW_none, errW_some] <;> rfl), by first | exact Kd.R_nil _ _ _ _ _ | exact Kd.N_nil _ _ _ _ _ | exact Kd.V_nil _ _ _ _ _ | exact Kd.Q_nil _ _ _ _ _ | exact Kd.S_nil _ _ _ _ _, by repeat (first | (with_reducible first | exact HB.out | apply below_alloc | apply pw_below_drewN | apply below_drew1) | exact HB.out)⟩
      · replace c4 := Bool.eq_false_iff.mpr c4
        subst c4
        have H1 : (labels_Unpack.l0 kj1 l0 ([] : List (S30)) 0 0 0) = some (r1, r2, r3, r4) := by rw [if_neg (show ¬ (false = true) by decide)] at H; exact H
        clear H
        have H := H1
        clear H1
        have H' := Aside0.mk H
        clear H
        go_wp2
        repeat (go_quiet (fail); try go_wp2)
        go_loopg [6, 7, 8, 9] kj1 (fun kq v6 v7 v8 v9 w' => ∃ (x6_2 : List (S30)) (x7_2 : Int) (x8_2 : Int) (x9_2 : Int), v7 = .int .i64 x7_2 ∧ v8 = .int .i64 x8_2 ∧ v9 = .int .i64 x9_2 ∧ Aside0 (labels_Unpack.l0 kq l0 x6_2 x7_2 x8_2 x9_2 = some (r1, r2, r3, r4)) ∧ Aside0 (kq ≤ kj1) ∧ Aside0 (Kd.R k30 30 w' w.heap.size (fun _ => True) v6 x6_2) ∧ Aside0 (Below w.heap.size w w'))
        case atStart => exact ⟨(([] : List (S30))), (0), (0), (0), (by first | rfl | (simp; done) | (simp [*]; done)), (by first | rfl | (simp; done) | (simp [*]; done)), (by first | rfl | (simp; done) | (simp [*]; done)), H', ⟨Nat.le_refl _⟩, ⟨by first | exact Kd.R_nil _ _ _ _ _ | exact Kd.N_nil _ _ _ _ _ | exact Kd.V_nil _ _ _ _ _ | exact Kd.Q_nil _ _ _ _ _ | exact Kd.S_nil _ _ _ _ _⟩, ⟨by repeat (first | (with_reducible first | exact HB.out | apply below_alloc | apply pw_below_drewN | apply below_drew1) | exact HB.out)⟩⟩
        case round =>
          clear H'
          try clear c1
          try clear p2
          try clear c3
          try clear c3b0
          try clear c3b1
          try clear c4
          try clear p2
          obtain ⟨x6_2, x7_2, x8_2, x9_2, rfl, rfl, rfl, HA, HK2, HO_6, HB⟩ := hrel
          cases gk with
          | zero => exact absurd HA.out (by simp [labels_Unpack.l0])
          | succ k2 =>
            have H := HA.out
            clear HA
            simp only [labels_Unpack.l0] at H
            by_cases c5 : x9_2 < (l0.length : Int)
            · rw [if_pos c5] at H
              have c5b0 : decide (x9_2 < (l0.length : Int)) = true := decide_eq_true c5
              clear c5
              by_cases c6 : 0 ≤ x9_2
              · rw [if_pos c6] at H
                have c6b0 : decide (0 ≤ x9_2) = true := decide_eq_true c6
                clear c6
                obtain ⟨ji7, hji7⟩ : ∃ j_ : Int, (wrap64 (x9_2 + 1)) = j_ := ⟨_, rfl⟩
                replace H : (if 0 ≤ (ji7) then (if (ji7) < (l0.length : Int) then (if 0 ≤ (wrap64 (x9_2 + 2)) then (if (wrap64 (x9_2 + 2)) < (l0.length : Int) then (if 0 ≤ (wrap64 (x9_2 + 3)) then (if (wrap64 (x9_2 + 3)) < (l0.length : Int) then ((labels_Decode.f (wrap64 ((Go.bits .or .u32 (Go.bits .or .u32 (Go.bits .or .u32 ((((rd l0 x9_2) % 4294967296) * 16777216) % 4294967296) ((((rd l0 (ji7)) % 4294967296) * 65536) % 4294967296)) ((((rd l0 (wrap64 (x9_2 + 2))) % 4294967296) * 256) % 4294967296)) ((rd l0 (wrap64 (x9_2 + 3))) % 4294967296)) / 4096))).bind fun bt183 => (if bt183.2.2 = 0 then (labels_Unpack.j2 k2 l0 x6_2 x7_2 x8_2 x9_2 (Go.bits .or .u32 (Go.bits .or .u32 (Go.bits .or .u32 ((((rd l0 x9_2) % 4294967296) * 16777216) % 4294967296) ((((rd l0 (ji7)) % 4294967296) * 65536) % 4294967296)) ((((rd l0 (wrap64 (x9_2 + 2))) % 4294967296) * 256) % 4294967296)) ((rd l0 (wrap64 (x9_2 + 3))) % 4294967296)) (((Go.bits .and .u32 ((Go.bits .or .u32 (Go.bits .or .u32 (Go.bits .or .u32 ((((rd l0 x9_2) % 4294967296) * 16777216) % 4294967296) ((((rd l0 (ji7)) % 4294967296) * 65536) % 4294967296)) ((((rd l0 (wrap64 (x9_2 + 2))) % 4294967296) * 256) % 4294967296)) ((rd l0 (wrap64 (x9_2 + 3))) % 4294967296)) / 256) 1) == 1) != ((wrap64 (x9_2 + 4)) == (l0.length : Int))) bt183.1 bt183.2.1) else (labels_Unpack.j2 k2 l0 x6_2 x7_2 x8_2 x9_2 (Go.bits .or .u32 (Go.bits .or .u32 (Go.bits .or .u32 ((((rd l0 x9_2) % 4294967296) * 16777216) % 4294967296) ((((rd l0 (ji7)) % 4294967296) * 65536) % 4294967296)) ((((rd l0 (wrap64 (x9_2 + 2))) % 4294967296) * 256) % 4294967296)) ((rd l0 (wrap64 (x9_2 + 3))) % 4294967296)) true bt183.1 bt183.2.1))) else (none)) else (none)) else (none)) else (none)) else (none)) else (none)) = some (r1, r2, r3, r4) := by first | (rw [hji7] at H; exact H) | (simp only [hji7] at H ⊢; exact H)
                have hji7w : (IntKind.i64.wrap (x9_2 + 1)) = ji7 := (i64_w _).trans hji7
                by_cases c8 : 0 ≤ (ji7)
                · rw [if_pos c8] at H
                  have c8b0 : decide (0 ≤ (ji7)) = true := decide_eq_true c8
                  clear c8
                  by_cases c9 : (ji7) < (l0.length : Int)
                  · rw [if_pos c9] at H
                    have c9b0 : decide ((ji7) < (l0.length : Int)) = true := decide_eq_true c9
                    clear c9
                    obtain ⟨ji10, hji10⟩ : ∃ j_ : Int, (wrap64 (x9_2 + 2)) = j_ := ⟨_, rfl⟩
                    replace H : (if 0 ≤ (ji10) then (if (ji10) < (l0.length : Int) then (if 0 ≤ (wrap64 (x9_2 + 3)) then (if (wrap64 (x9_2 + 3)) < (l0.length : Int) then ((labels_Decode.f (wrap64 ((Go.bits .or .u32 (Go.bits .or .u32 (Go.bits .or .u32 ((((rd l0 x9_2) % 4294967296) * 16777216) % 4294967296) ((((rd l0 (ji7)) % 4294967296) * 65536) % 4294967296)) ((((rd l0 (ji10)) % 4294967296) * 256) % 4294967296)) ((rd l0 (wrap64 (x9_2 + 3))) % 4294967296)) / 4096))).bind fun bt183 => (if bt183.2.2 = 0 then (labels_Unpack.j2 k2 l0 x6_2 x7_2 x8_2 x9_2 (Go.bits .or .u32 (Go.bits .or .u32 (Go.bits .or .u32 ((((rd l0 x9_2) % 4294967296) * 16777216) % 4294967296) ((((rd l0 (ji7)) % 4294967296) * 65536) % 4294967296)) ((((rd l0 (ji10)) % 4294967296) * 256) % 4294967296)) ((rd l0 (wrap64 (x9_2 + 3))) % 4294967296)) (((Go.bits .and .u32 ((Go.bits .or .u32 (Go.bits .or .u32 (Go.bits .or .u32 ((((rd l0 x9_2) % 4294967296) * 16777216) % 4294967296) ((((rd l0 (ji7)) % 4294967296) * 65536) % 4294967296)) ((((rd l0 (ji10)) % 4294967296) * 256) % 4294967296)) ((rd l0 (wrap64 (x9_2 + 3))) % 4294967296)) / 256) 1) == 1) != ((wrap64 (x9_2 + 4)) == (l0.length : Int))) bt183.1 bt183.2.1) else (labels_Unpack.j2 k2 l0 x6_2 x7_2 x8_2 x9_2 (Go.bits .or .u32 (Go.bits .or .u32 (Go.bits .or .u32 ((((rd l0 x9_2) % 4294967296) * 16777216) % 4294967296) ((((rd l0 (ji7)) % 4294967296) * 65536) % 4294967296)) ((((rd l0 (ji10)) % 4294967296) * 256) % 4294967296)) ((rd l0 (wrap64 (x9_2 + 3))) % 4294967296)) true bt183.1 bt183.2.1))) else (none)) else (none)) else (none)) else (none)) = some (r1, r2, r3, r4) := by first | (rw [hji10] at H; exact H) | (simp only [hji10] at H ⊢; exact H)
                    have hji10w : (IntKind.i64.wrap (x9_2 + 2)) = ji10 := (i64_w _).trans hji10
                    by_cases c11 : 0 ≤ (ji10)
                    · rw [if_pos c11] at H
                      have c11b0 : decide (0 ≤ (ji10)) = true := decide_eq_true c11
                      clear c11
                      by_cases c12 : (ji10) < (l0.length : Int)
                      · rw [if_pos c12] at H
                        have c12b0 : decide ((ji10) < (l0.length : Int)) = true := decide_eq_true c12
                        clear c12
                        obtain ⟨ji13, hji13⟩ : ∃ j_ : Int, (wrap64 (x9_2 + 3)) = j_ := ⟨_, rfl⟩
                        replace H : (if 0 ≤ (ji13) then (if (ji13) < (l0.length : Int) then ((labels_Decode.f (wrap64 ((Go.bits .or .u32 (Go.bits .or .u32 (Go.bits .or .u32 ((((rd l0 x9_2) % 4294967296) * 16777216) % 4294967296) ((((rd l0 (ji7)) % 4294967296) * 65536) % 4294967296)) ((((rd l0 (ji10)) % 4294967296) * 256) % 4294967296)) ((rd l0 (ji13)) % 4294967296)) / 4096))).bind fun bt183 => (if bt183.2.2 = 0 then (labels_Unpack.j2 k2 l0 x6_2 x7_2 x8_2 x9_2 (Go.bits .or .u32 (Go.bits .or .u32 (Go.bits .or .u32 ((((rd l0 x9_2) % 4294967296) * 16777216) % 4294967296) ((((rd l0 (ji7)) % 4294967296) * 65536) % 4294967296)) ((((rd l0 (ji10)) % 4294967296) * 256) % 4294967296)) ((rd l0 (ji13)) % 4294967296)) (((Go.bits .and .u32 ((Go.bits .or .u32 (Go.bits .or .u32 (Go.bits .or .u32 ((((rd l0 x9_2) % 4294967296) * 16777216) % 4294967296) ((((rd l0 (ji7)) % 4294967296) * 65536) % 4294967296)) ((((rd l0 (ji10)) % 4294967296) * 256) % 4294967296)) ((rd l0 (ji13)) % 4294967296)) / 256) 1) == 1) != ((wrap64 (x9_2 + 4)) == (l0.length : Int))) bt183.1 bt183.2.1) else (labels_Unpack.j2 k2 l0 x6_2 x7_2 x8_2 x9_2 (Go.bits .or .u32 (Go.bits .or .u32 (Go.bits .or .u32 ((((rd l0 x9_2) % 4294967296) * 16777216) % 4294967296) ((((rd l0 (ji7)) % 4294967296) * 65536) % 4294967296)) ((((rd l0 (ji10)) % 4294967296) * 256) % 4294967296)) ((rd l0 (ji13)) % 4294967296)) true bt183.1 bt183.2.1))) else (none)) else (none)) = some (r1, r2, r3, r4) := by first | (rw [hji13] at H; exact H) | (simp only [hji13] at H ⊢; exact H)
                        have hji13w : (IntKind.i64.wrap (x9_2 + 3)) = ji13 := (i64_w _).trans hji13
                        by_cases c14 : 0 ≤ (ji13)
                        · rw [if_pos c14] at H
                          have c14b0 : decide (0 ≤ (ji13)) = true := decide_eq_true c14
                          clear c14
                          by_cases c15 : (ji13) < (l0.length : Int)
                          · rw [if_pos c15] at H
                            have c15b0 : decide ((ji13) < (l0.length : Int)) = true := decide_eq_true c15
                            clear c15
                            replace H := Option.bind_eq_some_iff.mp H
                            obtain ⟨⟨t183, t184, t185⟩, A160, H⟩ := H
                            replace H : (if t185 = 0 then (labels_Unpack.j2 k2 l0 x6_2 x7_2 x8_2 x9_2 (Go.bits .or .u32 (Go.bits .or .u32 (Go.bits .or .u32 ((((rd l0 x9_2) % 4294967296) * 16777216) % 4294967296) ((((rd l0 (ji7)) % 4294967296) * 65536) % 4294967296)) ((((rd l0 (ji10)) % 4294967296) * 256) % 4294967296)) ((rd l0 (ji13)) % 4294967296)) (((Go.bits .and .u32 ((Go.bits .or .u32 (Go.bits .or .u32 (Go.bits .or .u32 ((((rd l0 x9_2) % 4294967296) * 16777216) % 4294967296) ((((rd l0 (ji7)) % 4294967296) * 65536) % 4294967296)) ((((rd l0 (ji10)) % 4294967296) * 256) % 4294967296)) ((rd l0 (ji13)) % 4294967296)) / 256) 1) == 1) != ((wrap64 (x9_2 + 4)) == (l0.length : Int))) t183 t184) else (labels_Unpack.j2 k2 l0 x6_2 x7_2 x8_2 x9_2 (Go.bits .or .u32 (Go.bits .or .u32 (Go.bits .or .u32 ((((rd l0 x9_2) % 4294967296) * 16777216) % 4294967296) ((((rd l0 (ji7)) % 4294967296) * 65536) % 4294967296)) ((((rd l0 (ji10)) % 4294967296) * 256) % 4294967296)) ((rd l0 (ji13)) % 4294967296)) true t183 t184)) = some (r1, r2, r3, r4) := H
                            have A16 := Aside0.mk A160
                            clear A160
                            have HC17 := Aside0.mk H
                            clear H
                            have p179 : 0 ≤ (x9_2 : Int) := of_decide_eq_true (by first | (with_reducible assumption) | assumption)
                            have q179 : x9_2 < (l0.length : Int) := of_decide_eq_true (by first | (with_reducible assumption) | assumption)
                            obtain ⟨ad179, e179, hx179_0⟩ := Kd.at_int HR0.out x9_2 p179 q179
                            cases e179
                            replace hx179_0 := (HB.out.cell (World.block_lt_of_cell? w _ hx179_0)).trans hx179_0
                            replace p179 := eq_true p179
                            replace q179 := eq_true q179
                            have p180 : 0 ≤ ((ji7) : Int) := of_decide_eq_true (by first | (with_reducible assumption) | assumption)
                            have q180 : (ji7) < (l0.length : Int) := of_decide_eq_true (by first | (with_reducible assumption) | assumption)
                            obtain ⟨ad180, e180, hx180_0⟩ := Kd.at_int HR0.out (ji7) p180 q180
                            obtain rfl : ad179 = ad180 := (by injection e180)
                            replace hx180_0 := (HB.out.cell (World.block_lt_of_cell? w _ hx180_0)).trans hx180_0
                            replace p180 := eq_true p180
                            replace q180 := eq_true q180
                            have p181 : 0 ≤ ((ji10) : Int) := of_decide_eq_true (by first | (with_reducible assumption) | assumption)
                            have q181 : (ji10) < (l0.length : Int) := of_decide_eq_true (by first | (with_reducible assumption) | assumption)
                            obtain ⟨ad181, e181, hx181_0⟩ := Kd.at_int HR0.out (ji10) p181 q181
                            obtain rfl : ad179 = ad181 := (by injection e181)
                            replace hx181_0 := (HB.out.cell (World.block_lt_of_cell? w _ hx181_0)).trans hx181_0
                            replace p181 := eq_true p181
                            replace q181 := eq_true q181
                            have p182 : 0 ≤ ((ji13) : Int) := of_decide_eq_true (by first | (with_reducible assumption) | assumption)
                            have q182 : (ji13) < (l0.length : Int) := of_decide_eq_true (by first | (with_reducible assumption) | assumption)
                            obtain ⟨ad182, e182, hx182_0⟩ := Kd.at_int HR0.out (ji13) p182 q182
                            obtain rfl : ad179 = ad182 := (by injection e182)
                            replace hx182_0 := (HB.out.cell (World.block_lt_of_cell? w _ hx182_0)).trans hx182_0
                            replace p182 := eq_true p182
                            replace q182 := eq_true q182
                            go_upto_region 11 with (first | (go_at_call 15; (with_reducible refine (labels_Decode.calls (wrap64 ((Go.bits .or .u32 (Go.bits .or .u32 (Go.bits .or .u32 ((((rd l0 x9_2) % 4294967296) * 16777216) % 4294967296) ((((rd l0 (ji7)) % 4294967296) * 65536) % 4294967296)) ((((rd l0 (ji10)) % 4294967296) * 256) % 4294967296)) ((rd l0 (ji13)) % 4294967296)) / 4096)) t183 t184 t185 _ A16.out).mono ?_); rintro e w18 ⟨rfl, hb⟩; have n0_ := Aside0.mk (Kd.R_below (by (with_reducible repeat (first | apply Kd.R_alloc | apply Kd.R_drewN | apply Kd.R_drew)); exact HO_6.out) hb); have n1_ := Aside0.mk (below_step (by repeat (first | (with_reducible first | exact HB.out | apply below_alloc | apply pw_below_drewN | apply below_drew1) | exact HB.out)) hb); clear HO_6; clear HB; have HO_6 := n0_; have HB := n1_; clear n0_ n1_; (try clear hb); (try clear hb2); (try clear hk); (try clear hi)) | ((with_reducible refine gate_dst (N := 11) rfl ?_); (try (refine gate_guard (by rfl) ?_; dsimp only)); refine box_event ?hg (N := 11) ?hd (cs := #[.int .i64 0, .int .i64 0]) (t := 30) ?hr ?_; (case hd => rfl); (case hg => rfl); (case hr => first | (go_simp; done) | (go_simp; rfl)); intro gb186 hg w19 hbox hb; have n0_ := Aside0.mk (Kd.R_below (Kd.R_elderB (by (with_reducible repeat (first | apply Kd.R_alloc | apply Kd.R_drewN | apply Kd.R_drew)); exact HO_6.out) gb186 (Nat.le_of_eq hg.symm)) hb); have n1_ := Aside0.mk (below_step (by repeat (first | (with_reducible first | exact HB.out | apply below_alloc | apply pw_below_drewN | apply below_drew1) | exact HB.out)) hb); have n2_ := Aside0.mk (hbox); have n3_ := Aside0.mk ((by rw [hg]; exact (below_size (by repeat (first | (with_reducible first | exact HB.out | apply below_alloc | apply pw_below_drewN | apply below_drew1) | exact HB.out))) : w.heap.size ≤ gb186)); have n4_ := Aside0.mk ((by rw [hg]; exact (below_size (by repeat (first | (with_reducible first | exact HB.out | apply below_alloc | apply pw_below_drewN | apply below_drew1) | exact HB.out))) : w.heap.size ≤ gb186)); clear HO_6; clear HB; have HO_6 := n0_; have HB := n1_; have BK186 := n2_; have GW186 := n3_; have GE186 := n4_; clear n0_ n1_ n2_ n3_ n4_; clear hb hbox hg; have hcz20_0 : w19.cell? ⟨gb186, 0, none⟩ = some (.int .i64 0) := (blk_cell BK186.out 0).trans rfl; have hcz20_1 : w19.cell? ⟨gb186, 1, none⟩ = some (.int .i64 0) := (blk_cell BK186.out 1).trans rfl; have hfz20_0 := blk_frozen BK186.out 0; have hfz20_1 := blk_frozen BK186.out 1))
                            repeat (go_quiet (first | (go_at_call 15; (with_reducible refine (labels_Decode.calls (wrap64 ((Go.bits .or .u32 (Go.bits .or .u32 (Go.bits .or .u32 ((((rd l0 x9_2) % 4294967296) * 16777216) % 4294967296) ((((rd l0 (ji7)) % 4294967296) * 65536) % 4294967296)) ((((rd l0 (ji10)) % 4294967296) * 256) % 4294967296)) ((rd l0 (ji13)) % 4294967296)) / 4096)) t183 t184 t185 _ A16.out).mono ?_); rintro e w18 ⟨rfl, hb⟩; have n0_ := Aside0.mk (Kd.R_below (by (with_reducible repeat (first | apply Kd.R_alloc | apply Kd.R_drewN | apply Kd.R_drew)); exact HO_6.out) hb); have n1_ := Aside0.mk (below_step (by repeat (first | (with_reducible first | exact HB.out | apply below_alloc | apply pw_below_drewN | apply below_drew1) | exact HB.out)) hb); clear HO_6; clear HB; have HO_6 := n0_; have HB := n1_; clear n0_ n1_; (try clear hb); (try clear hb2); (try clear hk); (try clear hi)) | ((with_reducible refine gate_dst (N := 11) rfl ?_); (try (refine gate_guard (by rfl) ?_; dsimp only)); refine box_event ?hg (N := 11) ?hd (cs := #[.int .i64 0, .int .i64 0]) (t := 30) ?hr ?_; (case hd => rfl); (case hg => rfl); (case hr => first | (go_simp; done) | (go_simp; rfl)); intro gb186 hg w19 hbox hb; have n0_ := Aside0.mk (Kd.R_below (Kd.R_elderB (by (with_reducible repeat (first | apply Kd.R_alloc | apply Kd.R_drewN | apply Kd.R_drew)); exact HO_6.out) gb186 (Nat.le_of_eq hg.symm)) hb); have n1_ := Aside0.mk (below_step (by repeat (first | (with_reducible first | exact HB.out | apply below_alloc | apply pw_below_drewN | apply below_drew1) | exact HB.out)) hb); have n2_ := Aside0.mk (hbox); have n3_ := Aside0.mk ((by rw [hg]; exact (below_size (by repeat (first | (with_reducible first | exact HB.out | apply below_alloc | apply pw_below_drewN | apply below_drew1) | exact HB.out))) : w.heap.size ≤ gb186)); have n4_ := Aside0.mk ((by rw [hg]; exact (below_size (by repeat (first | (with_reducible first | exact HB.out | apply below_alloc | apply pw_below_drewN | apply below_drew1) | exact HB.out))) : w.heap.size ≤ gb186)); clear HO_6; clear HB; have HO_6 := n0_; have HB := n1_; have BK186 := n2_; have GW186 := n3_; have GE186 := n4_; clear n0_ n1_ n2_ n3_ n4_; clear hb hbox hg; have hcz20_0 : w19.cell? ⟨gb186, 0, none⟩ = some (.int .i64 0) := (blk_cell BK186.out 0).trans rfl; have hcz20_1 : w19.cell? ⟨gb186, 1, none⟩ = some (.int .i64 0) := (blk_cell BK186.out 1).trans rfl; have hfz20_0 := blk_frozen BK186.out 0; have hfz20_1 := blk_frozen BK186.out 1)); go_upto_region 11 with (first | (go_at_call 15; (with_reducible refine (labels_Decode.calls (wrap64 ((Go.bits .or .u32 (Go.bits .or .u32 (Go.bits .or .u32 ((((rd l0 x9_2) % 4294967296) * 16777216) % 4294967296) ((((rd l0 (ji7)) % 4294967296) * 65536) % 4294967296)) ((((rd l0 (ji10)) % 4294967296) * 256) % 4294967296)) ((rd l0 (ji13)) % 4294967296)) / 4096)) t183 t184 t185 _ A16.out).mono ?_); rintro e w18 ⟨rfl, hb⟩; have n0_ := Aside0.mk (Kd.R_below (by (with_reducible repeat (first | apply Kd.R_alloc | apply Kd.R_drewN | apply Kd.R_drew)); exact HO_6.out) hb); have n1_ := Aside0.mk (below_step (by repeat (first | (with_reducible first | exact HB.out | apply below_alloc | apply pw_below_drewN | apply below_drew1) | exact HB.out)) hb); clear HO_6; clear HB; have HO_6 := n0_; have HB := n1_; clear n0_ n1_; (try clear hb); (try clear hb2); (try clear hk); (try clear hi)) | ((with_reducible refine gate_dst (N := 11) rfl ?_); (try (refine gate_guard (by rfl) ?_; dsimp only)); refine box_event ?hg (N := 11) ?hd (cs := #[.int .i64 0, .int .i64 0]) (t := 30) ?hr ?_; (case hd => rfl); (case hg => rfl); (case hr => first | (go_simp; done) | (go_simp; rfl)); intro gb186 hg w19 hbox hb; have n0_ := Aside0.mk (Kd.R_below (Kd.R_elderB (by (with_reducible repeat (first | apply Kd.R_alloc | apply Kd.R_drewN | apply Kd.R_drew)); exact HO_6.out) gb186 (Nat.le_of_eq hg.symm)) hb); have n1_ := Aside0.mk (below_step (by repeat (first | (with_reducible first | exact HB.out | apply below_alloc | apply pw_below_drewN | apply below_drew1) | exact HB.out)) hb); have n2_ := Aside0.mk (hbox); have n3_ := Aside0.mk ((by rw [hg]; exact (below_size (by repeat (first | (with_reducible first | exact HB.out | apply below_alloc | apply pw_below_drewN | apply below_drew1) | exact HB.out))) : w.heap.size ≤ gb186)); have n4_ := Aside0.mk ((by rw [hg]; exact (below_size (by repeat (first | (with_reducible first | exact HB.out | apply below_alloc | apply pw_below_drewN | apply below_drew1) | exact HB.out))) : w.heap.size ≤ gb186)); clear HO_6; clear HB; have HO_6 := n0_; have HB := n1_; have BK186 := n2_; have GW186 := n3_; have GE186 := n4_; clear n0_ n1_ n2_ n3_ n4_; clear hb hbox hg; have hcz20_0 : w19.cell? ⟨gb186, 0, none⟩ = some (.int .i64 0) := (blk_cell BK186.out 0).trans rfl; have hcz20_1 : w19.cell? ⟨gb186, 1, none⟩ = some (.int .i64 0) := (blk_cell BK186.out 1).trans rfl; have hfz20_0 := blk_frozen BK186.out 0; have hfz20_1 := blk_frozen BK186.out 1)))
                            (try simp only [Act.put, List.setIfInBounds_toArray, List.set_cons_zero, List.set_cons_succ])
                            go_cut [81] (fun v81 wc => ∃ (kq : Nat) (x81_16 : Bool), v81 = .bool x81_16 ∧ Aside0 (labels_Unpack.j2 kq l0 x6_2 x7_2 x8_2 x9_2 (Go.bits .or .u32 (Go.bits .or .u32 (Go.bits .or .u32 ((((rd l0 x9_2) % 4294967296) * 16777216) % 4294967296) ((((rd l0 (ji7)) % 4294967296) * 65536) % 4294967296)) ((((rd l0 (ji10)) % 4294967296) * 256) % 4294967296)) ((rd l0 (ji13)) % 4294967296)) x81_16 t183 t184 = some (r1, r2, r3, r4)) ∧ Aside0 (kq ≤ k2) ∧ Aside0 (Kd.R k30 30 wc w.heap.size (fun k_ => k_ ≠ gb186) u6 x6_2) ∧ Aside0 (wc.heap[gb186]? = some (.cells #[.int .i64 t183, .int .i64 t184] 30 (0, 0))) ∧ Aside0 (Below w.heap.size w wc))
                            case first =>
                              have H := HC17.out
                              clear HC17
                              by_cases c21 : t185 = 0
                              · rw [if_pos c21] at H
                                have c21b0 : (t185 == 0) = true := beq_iff_eq.mpr c21
                                have c21b1 : (t185 != 0) = false := bne_eq_false_iff_eq.mpr c21
                                clear c21
                                (first | rw [c21b0] | (simp only [i64_w, i32_w]; rw [c21b0]) | skip)
                                have H' := Aside0.mk H
                                clear H
                                go_wp2
                                repeat (go_quiet (fail); try go_wp2)
                                go_meet
                                case rel => exact ⟨_, ((((Go.bits .and .u32 ((Go.bits .or .u32 (Go.bits .or .u32 (Go.bits .or .u32 ((((rd l0 x9_2) % 4294967296) * 16777216) % 4294967296) ((((rd l0 (ji7)) % 4294967296) * 65536) % 4294967296)) ((((rd l0 (ji10)) % 4294967296) * 256) % 4294967296)) ((rd l0 (ji13)) % 4294967296)) / 256) 1) == 1) != ((wrap64 (x9_2 + 4)) == (l0.length : Int)))), (by first | rfl | (simp; done) | (simp only [← hji7, ← hji10, ← hji13] <;> (first | rfl | simp)) | (simp [*]; done)), H', ⟨by have := HJ1.out; have := HK2.out; first | omega | exact Nat.le_refl _⟩, ⟨by (with_reducible repeat (first | apply Kd.R_alloc | apply Kd.R_drewN | apply Kd.R_drew)); exact Kd.R_mono (Kd.R_far (p := ⟨gb186, 1, none⟩) (Kd.R_far (p := ⟨gb186, 0, none⟩) (Kd.R_mono HO_6.out (fun k_ hk => (⟨hk, hk.2⟩ : _ ∧ k_ ≠ gb186))) (fun _ hk => hk.2) (.int .i64 t183)) (fun _ hk => hk.2) (.int .i64 t184)) (fun _ hk => hk.1.2)⟩, ⟨by (with_reducible repeat (first | refine blk_drewN ?_ _ | refine blk_drew ?_ | refine blk_alloc ?_ _)); refine blk_put (cs := #[.int .i64 t183, .int .i64 0]) ?_ 1 _ rfl; (with_reducible repeat (first | refine blk_drewN ?_ _ | refine blk_drew ?_ | refine blk_alloc ?_ _)); refine blk_put (cs := #[.int .i64 0, .int .i64 0]) ?_ 0 _ rfl; (with_reducible repeat (first | refine blk_drewN ?_ _ | refine blk_drew ?_ | refine blk_alloc ?_ _)); exact BK186.out⟩, ⟨by repeat (first | (with_reducible first | exact HB.out | apply below_alloc | apply pw_below_drewN | apply below_drew1 | refine below_set ?_ GE186.out) | exact HB.out)⟩⟩
                              · rw [if_neg c21] at H
                                have c21b0 : (t185 == 0) = false := beq_eq_false_iff_ne.mpr c21
                                have c21b1 : (t185 != 0) = true := bne_iff_ne.mpr c21
                                (first | rw [c21b0] | (simp only [i64_w, i32_w]; rw [c21b0]) | skip)
                                have H' := Aside0.mk H
                                clear H
                                go_wp2
                                repeat (go_quiet (fail); try go_wp2)
                                go_meet
                                case rel => exact ⟨_, (true), (by first | rfl | (simp; done) | (simp [*]; done)), H', ⟨by have := HJ1.out; have := HK2.out; first | omega | exact Nat.le_refl _⟩, ⟨by (with_reducible repeat (first | apply Kd.R_alloc | apply Kd.R_drewN | apply Kd.R_drew)); exact Kd.R_mono (Kd.R_far (p := ⟨gb186, 1, none⟩) (Kd.R_far (p := ⟨gb186, 0, none⟩) (Kd.R_mono HO_6.out (fun k_ hk => (⟨hk, hk.2⟩ : _ ∧ k_ ≠ gb186))) (fun _ hk => hk.2) (.int .i64 t183)) (fun _ hk => hk.2) (.int .i64 t184)) (fun _ hk => hk.1.2)⟩, ⟨by (with_reducible repeat (first | refine blk_drewN ?_ _ | refine blk_drew ?_ | refine blk_alloc ?_ _)); refine blk_put (cs := #[.int .i64 t183, .int .i64 0]) ?_ 1 _ rfl; (with_reducible repeat (first | refine blk_drewN ?_ _ | refine blk_drew ?_ | refine blk_alloc ?_ _)); refine blk_put (cs := #[.int .i64 0, .int .i64 0]) ?_ 0 _ rfl; (with_reducible repeat (first | refine blk_drewN ?_ _ | refine blk_drew ?_ | refine blk_alloc ?_ _)); exact BK186.out⟩, ⟨by repeat (first | (with_reducible first | exact HB.out | apply below_alloc | apply pw_below_drewN | apply below_drew1 | refine below_set ?_ GE186.out) | exact HB.out)⟩⟩
                            case rest =>
                              clear HC17
                              try clear c1
                              try clear p1
                              try clear q1
                              try clear hx1
                              try clear c2
                              try clear p2
                              try clear c3
                              try clear c3b0
                              try clear c3b1
                              try clear c4
                              try clear c5
                              try clear c5b0
                              try clear c6
                              try clear c6b0
                              try clear p6
                              try clear c8
                              try clear c8b0
                              try clear c9
                              try clear c9b0
                              try clear c11
                              try clear c11b0
                              try clear c12
                              try clear c12b0
                              try clear c14
                              try clear c14b0
                              try clear c15
                              try clear c15b0
                              try clear c17
                              try clear p17
                              try clear q17
                              try clear hx17
                              try clear p18
                              try clear q18
                              try clear hx18
                              try clear c21
                              try clear c21b0
                              try clear c21b1
                              try clear hcz20_0
                              try clear hcz20_1
                              try clear hfz20_0
                              try clear hfz20_1
                              try clear hx179_0
                              try clear hx180_0
                              try clear hx181_0
                              try clear hx182_0
                              try clear p179
                              try clear p180
                              try clear p181
                              try clear p182
                              try clear p2
                              try clear q179
                              try clear q180
                              try clear q181
                              try clear q182
                              obtain ⟨kq, x81_16, rfl, HA, HJ16, HO_6, BK186, HB⟩ := hcut
                              cases kq with
                              | zero => exact absurd HA.out (by simp [labels_Unpack.j2])
                              | succ kj16 =>
                                have H := HA.out
                                clear HA
                                simp only [labels_Unpack.j2] at H
                                by_cases c22 : x81_16 = true
                                · subst c22
                                  have H1 : (some (([] : List (S30)), 0, 0, 4)) = some (r1, r2, r3, r4) := by rw [if_pos rfl] at H; exact H
                                  clear H
                                  have H := H1
                                  clear H1
                                  simp only [Option.some.injEq, Prod.mk.injEq] at H
                                  obtain ⟨rfl, rfl, rfl, rfl⟩ := H
                                  go_wp2
                                  repeat (go_quiet (fail); try go_wp2)
                                  refine bodyPost_ret (results_list (rs := [.tmp 2, .tmp 3, .tmp 4, .tmp 5]) rfl (by simp) (.tmp (.tmp (.tmp (.tmp .nil))))) rfl ?_
                                  exact ⟨_, by first | rfl | (simp [errW_none, errW_some] <;> rfl) | (simp only [← hji7, ← hji10, ← hji13]; first | rfl | (simp [errW_none, errW_some] <;> rfl)) | (simp [*, errW_none, errW_some] <;> rfl), by first | exact Kd.R_nil _ _ _ _ _ | exact Kd.N_nil _ _ _ _ _ | exact Kd.V_nil _ _ _ _ _ | exact Kd.Q_nil _ _ _ _ _ | exact Kd.S_nil _ _ _ _ _, by repeat (first | (with_reducible first | exact HB.out | apply below_alloc | apply pw_below_drewN | apply below_drew1 | refine below_set ?_ GE186.out) | exact HB.out)⟩
                                · replace c22 := Bool.eq_false_iff.mpr c22
                                  subst c22
                                  have H1 : (if x9_2 > 0 then (if (wrap64 (Go.bits .and .u32 ((Go.bits .or .u32 (Go.bits .or .u32 (Go.bits .or .u32 ((((rd l0 x9_2) % 4294967296) * 16777216) % 4294967296) ((((rd l0 (ji7)) % 4294967296) * 65536) % 4294967296)) ((((rd l0 (ji10)) % 4294967296) * 256) % 4294967296)) ((rd l0 (ji13)) % 4294967296)) / 512) 7)) = x7_2 then (if (wrap64 (Go.bits .and .u32 (Go.bits .or .u32 (Go.bits .or .u32 (Go.bits .or .u32 ((((rd l0 x9_2) % 4294967296) * 16777216) % 4294967296) ((((rd l0 (ji7)) % 4294967296) * 65536) % 4294967296)) ((((rd l0 (ji10)) % 4294967296) * 256) % 4294967296)) ((rd l0 (ji13)) % 4294967296)) 255)) = x8_2 then (if x6_2.length < 8796093022208 then (labels_Unpack.l0 kj16 l0 (x6_2 ++ [(⟨t183, t184⟩ : S30)]) (wrap64 (Go.bits .and .u32 ((Go.bits .or .u32 (Go.bits .or .u32 (Go.bits .or .u32 ((((rd l0 x9_2) % 4294967296) * 16777216) % 4294967296) ((((rd l0 (ji7)) % 4294967296) * 65536) % 4294967296)) ((((rd l0 (ji10)) % 4294967296) * 256) % 4294967296)) ((rd l0 (ji13)) % 4294967296)) / 512) 7)) (wrap64 (Go.bits .and .u32 (Go.bits .or .u32 (Go.bits .or .u32 (Go.bits .or .u32 ((((rd l0 x9_2) % 4294967296) * 16777216) % 4294967296) ((((rd l0 (ji7)) % 4294967296) * 65536) % 4294967296)) ((((rd l0 (ji10)) % 4294967296) * 256) % 4294967296)) ((rd l0 (ji13)) % 4294967296)) 255)) (wrap64 (x9_2 + 4))) else (none)) else (some (([] : List (S30)), 0, 0, 4))) else (some (([] : List (S30)), 0, 0, 4))) else (if x6_2.length < 8796093022208 then (labels_Unpack.l0 kj16 l0 (x6_2 ++ [(⟨t183, t184⟩ : S30)]) (wrap64 (Go.bits .and .u32 ((Go.bits .or .u32 (Go.bits .or .u32 (Go.bits .or .u32 ((((rd l0 x9_2) % 4294967296) * 16777216) % 4294967296) ((((rd l0 (ji7)) % 4294967296) * 65536) % 4294967296)) ((((rd l0 (ji10)) % 4294967296) * 256) % 4294967296)) ((rd l0 (ji13)) % 4294967296)) / 512) 7)) (wrap64 (Go.bits .and .u32 (Go.bits .or .u32 (Go.bits .or .u32 (Go.bits .or .u32 ((((rd l0 x9_2) % 4294967296) * 16777216) % 4294967296) ((((rd l0 (ji7)) % 4294967296) * 65536) % 4294967296)) ((((rd l0 (ji10)) % 4294967296) * 256) % 4294967296)) ((rd l0 (ji13)) % 4294967296)) 255)) (wrap64 (x9_2 + 4))) else (none))) = some (r1, r2, r3, r4) := by rw [if_neg (show ¬ (false = true) by decide)] at H; exact H
                                  clear H
                                  have H := H1
                                  clear H1
                                  by_cases c23 : x9_2 > 0
                                  · rw [if_pos c23] at H
                                    have c23b0 : decide (0 < x9_2) = true := decide_eq_true c23
                                    clear c23
                                    by_cases c24 : (wrap64 (Go.bits .and .u32 ((Go.bits .or .u32 (Go.bits .or .u32 (Go.bits .or .u32 ((((rd l0 x9_2) % 4294967296) * 16777216) % 4294967296) ((((rd l0 (ji7)) % 4294967296) * 65536) % 4294967296)) ((((rd l0 (ji10)) % 4294967296) * 256) % 4294967296)) ((rd l0 (ji13)) % 4294967296)) / 512) 7)) = x7_2
                                    · rw [if_pos c24] at H
                                      have c24b0 : ((wrap64 (Go.bits .and .u32 ((Go.bits .or .u32 (Go.bits .or .u32 (Go.bits .or .u32 ((((rd l0 x9_2) % 4294967296) * 16777216) % 4294967296) ((((rd l0 (ji7)) % 4294967296) * 65536) % 4294967296)) ((((rd l0 (ji10)) % 4294967296) * 256) % 4294967296)) ((rd l0 (ji13)) % 4294967296)) / 512) 7)) == x7_2) = true := beq_iff_eq.mpr c24
                                      have c24b1 : ((wrap64 (Go.bits .and .u32 ((Go.bits .or .u32 (Go.bits .or .u32 (Go.bits .or .u32 ((((rd l0 x9_2) % 4294967296) * 16777216) % 4294967296) ((((rd l0 (ji7)) % 4294967296) * 65536) % 4294967296)) ((((rd l0 (ji10)) % 4294967296) * 256) % 4294967296)) ((rd l0 (ji13)) % 4294967296)) / 512) 7)) != x7_2) = false := bne_eq_false_iff_eq.mpr c24
                                      clear c24
                                      by_cases c25 : (wrap64 (Go.bits .and .u32 (Go.bits .or .u32 (Go.bits .or .u32 (Go.bits .or .u32 ((((rd l0 x9_2) % 4294967296) * 16777216) % 4294967296) ((((rd l0 (ji7)) % 4294967296) * 65536) % 4294967296)) ((((rd l0 (ji10)) % 4294967296) * 256) % 4294967296)) ((rd l0 (ji13)) % 4294967296)) 255)) = x8_2
                                      · rw [if_pos c25] at H
                                        have c25b0 : ((wrap64 (Go.bits .and .u32 (Go.bits .or .u32 (Go.bits .or .u32 (Go.bits .or .u32 ((((rd l0 x9_2) % 4294967296) * 16777216) % 4294967296) ((((rd l0 (ji7)) % 4294967296) * 65536) % 4294967296)) ((((rd l0 (ji10)) % 4294967296) * 256) % 4294967296)) ((rd l0 (ji13)) % 4294967296)) 255)) == x8_2) = true := beq_iff_eq.mpr c25
                                        have c25b1 : ((wrap64 (Go.bits .and .u32 (Go.bits .or .u32 (Go.bits .or .u32 (Go.bits .or .u32 ((((rd l0 x9_2) % 4294967296) * 16777216) % 4294967296) ((((rd l0 (ji7)) % 4294967296) * 65536) % 4294967296)) ((((rd l0 (ji10)) % 4294967296) * 256) % 4294967296)) ((rd l0 (ji13)) % 4294967296)) 255)) != x8_2) = false := bne_eq_false_iff_eq.mpr c25
                                        clear c25
                                        by_cases c26 : x6_2.length < 8796093022208
                                        · rw [if_pos c26] at H
                                          have LMc26 := Aside0.mk c26
                                          clear c26
                                          obtain ⟨y187, hy187⟩ : ∃ y_ : List (S30), y_ = (x6_2 ++ [(⟨t183, t184⟩ : S30)]) := ⟨_, rfl⟩
                                          replace H : (labels_Unpack.l0 kj16 l0 y187 (wrap64 (Go.bits .and .u32 ((Go.bits .or .u32 (Go.bits .or .u32 (Go.bits .or .u32 ((((rd l0 x9_2) % 4294967296) * 16777216) % 4294967296) ((((rd l0 (ji7)) % 4294967296) * 65536) % 4294967296)) ((((rd l0 (ji10)) % 4294967296) * 256) % 4294967296)) ((rd l0 (ji13)) % 4294967296)) / 512) 7)) (wrap64 (Go.bits .and .u32 (Go.bits .or .u32 (Go.bits .or .u32 (Go.bits .or .u32 ((((rd l0 x9_2) % 4294967296) * 16777216) % 4294967296) ((((rd l0 (ji7)) % 4294967296) * 65536) % 4294967296)) ((((rd l0 (ji10)) % 4294967296) * 256) % 4294967296)) ((rd l0 (ji13)) % 4294967296)) 255)) (wrap64 (x9_2 + 4))) = some (r1, r2, r3, r4) := by first | (rw [hy187]; with_reducible exact H) | (have H2_ := (Option.bind_some _ _).symm.trans H; rw [hy187]; with_reducible exact H2_) | (have H2_ := (Option.bind_some _ _).symm.trans H; with_reducible exact H2_) | with_reducible exact H | (rw [hy187]; exact H) | exact H
                                          have Ny187 := Aside0.mk hy187
                                          clear hy187
                                          have H' := Aside0.mk H
                                          clear H
                                          have hcz27_0 : wc.cell? ⟨gb186, 0, none⟩ = some (.int .i64 t183) := (blk_cell BK186.out 0).trans rfl
                                          have hcz27_1 : wc.cell? ⟨gb186, 1, none⟩ = some (.int .i64 t184) := (blk_cell BK186.out 1).trans rfl
                                          have hfz27_0 := blk_frozen BK186.out 0
                                          have hfz27_1 := blk_frozen BK186.out 1
                                          go_wp2_with (first | ((with_reducible refine gate_builtin (b := .append) (xs := #[.tmp 101, .tmp 103]) rfl ?_); (try (refine gate_guard (by rfl) ?_; dsimp only)); at_builtin; refine Kd.R_append k30 (w0 := w) w.heap.size rfl (.tmp 101) (.tmp 103) 22 30 (.agg #[(.int .i64 0), (.int .i64 0)]) 16 rfl Try.underlying22 info30 rfl (by decide) (by omega) u6 x6_2 (⟨t183, t184⟩ : S30) [.int .i64 t183, .int .i64 t184] (fun k_ => k_ ≠ gb186) (fun _ => False) rfl rfl ?aP (fun _ hk => hk.elim) ?aF ?aO ?aB ?aS ?aL ?_; (case aP => exact k30_mkM _ _ _ (⟨t183, t184⟩ : S30)); (case aB => exact (by repeat (first | (with_reducible first | exact HB.out | apply below_alloc | apply pw_below_drewN | apply below_drew1 | refine below_set ?_ GE186.out) | exact HB.out))); (case aF => exact (fun k_ hk => Kd.freshB (g := gb186) (o := .cells #[.int .i64 t183, .int .i64 t184] 30 (0, 0)) (by (with_reducible repeat (first | refine blk_drewN ?_ _ | refine blk_drew ?_ | refine blk_alloc ?_ _)); exact BK186.out) k_ hk)); (case aO => exact (by (with_reducible repeat (first | apply Kd.R_alloc | apply Kd.R_drewN | apply Kd.R_drew)); exact HO_6.out)); (case aS => exact (below_size (by repeat (first | (with_reducible first | exact HB.out | apply below_alloc | apply pw_below_drewN | apply below_drew1 | refine below_set ?_ GE186.out) | exact HB.out)))); (case aL => have := LMc26.out; omega); intro v188 w28 ho hb hg hat; rw [← Ny187.out] at ho; have n0_ := Aside0.mk (blk_grown (g := gb186) (o := .cells #[.int .i64 t183, .int .i64 t184] 30 (0, 0)) (by (with_reducible repeat (first | refine blk_drewN ?_ _ | refine blk_drew ?_ | refine blk_alloc ?_ _)); exact BK186.out) hg (Kd.R_away HO_6.out (fun _ hk => hk))); have n1_ := Aside0.mk (hb); have n2_ := Aside0.mk (ho); clear BK186; clear HB; clear HO_6; have BK186 := n0_; have HB := n1_; have HO189 := n2_; clear n0_ n1_ n2_; clear ho hb hg hat))
                                          repeat (go_quiet (first | ((with_reducible refine gate_builtin (b := .append) (xs := #[.tmp 101, .tmp 103]) rfl ?_); (try (refine gate_guard (by rfl) ?_; dsimp only)); at_builtin; refine Kd.R_append k30 (w0 := w) w.heap.size rfl (.tmp 101) (.tmp 103) 22 30 (.agg #[(.int .i64 0), (.int .i64 0)]) 16 rfl Try.underlying22 info30 rfl (by decide) (by omega) u6 x6_2 (⟨t183, t184⟩ : S30) [.int .i64 t183, .int .i64 t184] (fun k_ => k_ ≠ gb186) (fun _ => False) rfl rfl ?aP (fun _ hk => hk.elim) ?aF ?aO ?aB ?aS ?aL ?_; (case aP => exact k30_mkM _ _ _ (⟨t183, t184⟩ : S30)); (case aB => exact (by repeat (first | (with_reducible first | exact HB.out | apply below_alloc | apply pw_below_drewN | apply below_drew1 | refine below_set ?_ GE186.out) | exact HB.out))); (case aF => exact (fun k_ hk => Kd.freshB (g := gb186) (o := .cells #[.int .i64 t183, .int .i64 t184] 30 (0, 0)) (by (with_reducible repeat (first | refine blk_drewN ?_ _ | refine blk_drew ?_ | refine blk_alloc ?_ _)); exact BK186.out) k_ hk)); (case aO => exact (by (with_reducible repeat (first | apply Kd.R_alloc | apply Kd.R_drewN | apply Kd.R_drew)); exact HO_6.out)); (case aS => exact (below_size (by repeat (first | (with_reducible first | exact HB.out | apply below_alloc | apply pw_below_drewN | apply below_drew1 | refine below_set ?_ GE186.out) | exact HB.out)))); (case aL => have := LMc26.out; omega); intro v188 w28 ho hb hg hat; rw [← Ny187.out] at ho; have n0_ := Aside0.mk (blk_grown (g := gb186) (o := .cells #[.int .i64 t183, .int .i64 t184] 30 (0, 0)) (by (with_reducible repeat (first | refine blk_drewN ?_ _ | refine blk_drew ?_ | refine blk_alloc ?_ _)); exact BK186.out) hg (Kd.R_away HO_6.out (fun _ hk => hk))); have n1_ := Aside0.mk (hb); have n2_ := Aside0.mk (ho); clear BK186; clear HB; clear HO_6; have BK186 := n0_; have HB := n1_; have HO189 := n2_; clear n0_ n1_ n2_; clear ho hb hg hat)); try go_wp2_with (first | ((with_reducible refine gate_builtin (b := .append) (xs := #[.tmp 101, .tmp 103]) rfl ?_); (try (refine gate_guard (by rfl) ?_; dsimp only)); at_builtin; refine Kd.R_append k30 (w0 := w) w.heap.size rfl (.tmp 101) (.tmp 103) 22 30 (.agg #[(.int .i64 0), (.int .i64 0)]) 16 rfl Try.underlying22 info30 rfl (by decide) (by omega) u6 x6_2 (⟨t183, t184⟩ : S30) [.int .i64 t183, .int .i64 t184] (fun k_ => k_ ≠ gb186) (fun _ => False) rfl rfl ?aP (fun _ hk => hk.elim) ?aF ?aO ?aB ?aS ?aL ?_; (case aP => exact k30_mkM _ _ _ (⟨t183, t184⟩ : S30)); (case aB => exact (by repeat (first | (with_reducible first | exact HB.out | apply below_alloc | apply pw_below_drewN | apply below_drew1 | refine below_set ?_ GE186.out) | exact HB.out))); (case aF => exact (fun k_ hk => Kd.freshB (g := gb186) (o := .cells #[.int .i64 t183, .int .i64 t184] 30 (0, 0)) (by (with_reducible repeat (first | refine blk_drewN ?_ _ | refine blk_drew ?_ | refine blk_alloc ?_ _)); exact BK186.out) k_ hk)); (case aO => exact (by (with_reducible repeat (first | apply Kd.R_alloc | apply Kd.R_drewN | apply Kd.R_drew)); exact HO_6.out)); (case aS => exact (below_size (by repeat (first | (with_reducible first | exact HB.out | apply below_alloc | apply pw_below_drewN | apply below_drew1 | refine below_set ?_ GE186.out) | exact HB.out)))); (case aL => have := LMc26.out; omega); intro v188 w28 ho hb hg hat; rw [← Ny187.out] at ho; have n0_ := Aside0.mk (blk_grown (g := gb186) (o := .cells #[.int .i64 t183, .int .i64 t184] 30 (0, 0)) (by (with_reducible repeat (first | refine blk_drewN ?_ _ | refine blk_drew ?_ | refine blk_alloc ?_ _)); exact BK186.out) hg (Kd.R_away HO_6.out (fun _ hk => hk))); have n1_ := Aside0.mk (hb); have n2_ := Aside0.mk (ho); clear BK186; clear HB; clear HO_6; have BK186 := n0_; have HB := n1_; have HO189 := n2_; clear n0_ n1_ n2_; clear ho hb hg hat)))
                                          go_roundg kj16
                                          case measure => have := HJ1.out; have := HK2.out; have := HJ16.out; omega
                                          case rel => exact ⟨(y187), (wrap64 (Go.bits .and .u32 ((Go.bits .or .u32 (Go.bits .or .u32 (Go.bits .or .u32 ((((rd l0 x9_2) % 4294967296) * 16777216) % 4294967296) ((((rd l0 (ji7)) % 4294967296) * 65536) % 4294967296)) ((((rd l0 (ji10)) % 4294967296) * 256) % 4294967296)) ((rd l0 (ji13)) % 4294967296)) / 512) 7)), (wrap64 (Go.bits .and .u32 (Go.bits .or .u32 (Go.bits .or .u32 (Go.bits .or .u32 ((((rd l0 x9_2) % 4294967296) * 16777216) % 4294967296) ((((rd l0 (ji7)) % 4294967296) * 65536) % 4294967296)) ((((rd l0 (ji10)) % 4294967296) * 256) % 4294967296)) ((rd l0 (ji13)) % 4294967296)) 255)), (wrap64 (x9_2 + 4)), (by first | rfl | (simp; done) | (simp only [← hji7, ← hji10, ← hji13] <;> (first | rfl | simp)) | (simp [*]; done)), (by first | rfl | (simp; done) | (simp only [← hji7, ← hji10, ← hji13] <;> (first | rfl | simp)) | (simp [*]; done)), (by first | rfl | (simp; done) | (simp [*]; done)), H', ⟨by have := HJ1.out; have := HK2.out; have := HJ16.out; omega⟩, ⟨by (with_reducible repeat (first | apply Kd.R_alloc | apply Kd.R_drewN | apply Kd.R_drew)); exact Kd.R_mono HO189.out (fun _ hk => trivial)⟩, ⟨by repeat (first | (with_reducible first | exact HB.out | apply below_alloc | apply pw_below_drewN | apply below_drew1 | refine below_set ?_ GE186.out) | exact HB.out)⟩⟩
                                        · rw [if_neg c26] at H
                                          exact absurd H (by simp)
                                      · rw [if_neg c25] at H
                                        have c25b0 : ((wrap64 (Go.bits .and .u32 (Go.bits .or .u32 (Go.bits .or .u32 (Go.bits .or .u32 ((((rd l0 x9_2) % 4294967296) * 16777216) % 4294967296) ((((rd l0 (ji7)) % 4294967296) * 65536) % 4294967296)) ((((rd l0 (ji10)) % 4294967296) * 256) % 4294967296)) ((rd l0 (ji13)) % 4294967296)) 255)) == x8_2) = false := beq_eq_false_iff_ne.mpr c25
                                        have c25b1 : ((wrap64 (Go.bits .and .u32 (Go.bits .or .u32 (Go.bits .or .u32 (Go.bits .or .u32 ((((rd l0 x9_2) % 4294967296) * 16777216) % 4294967296) ((((rd l0 (ji7)) % 4294967296) * 65536) % 4294967296)) ((((rd l0 (ji10)) % 4294967296) * 256) % 4294967296)) ((rd l0 (ji13)) % 4294967296)) 255)) != x8_2) = true := bne_iff_ne.mpr c25
                                        simp only [Option.some.injEq, Prod.mk.injEq] at H
                                        obtain ⟨rfl, rfl, rfl, rfl⟩ := H
                                        go_wp2
                                        repeat (go_quiet (fail); try go_wp2)
                                        refine bodyPost_ret (results_list (rs := [.tmp 2, .tmp 3, .tmp 4, .tmp 5]) rfl (by simp) (.tmp (.tmp (.tmp (.tmp .nil))))) rfl ?_
                                        exact ⟨_, by first | rfl | (simp [errW_none, errW_some] <;> rfl) | (simp only [← hji7, ← hji10, ← hji13]; first | rfl | (simp [errW_none, errW_some] <;> rfl)) | (simp [*, errW_none, errW_some] <;> rfl), by first | exact Kd.R_nil _ _ _ _ _ | exact Kd.N_nil _ _ _ _ _ | exact Kd.V_nil _ _ _ _ _ | exact Kd.Q_nil _ _ _ _ _ | exact Kd.S_nil _ _ _ _ _, by repeat (first | (with_reducible first | exact HB.out | apply below_alloc | apply pw_below_drewN | apply below_drew1 | refine below_set ?_ GE186.out) | exact HB.out)⟩
                                    · rw [if_neg c24] at H
                                      have c24b0 : ((wrap64 (Go.bits .and .u32 ((Go.bits .or .u32 (Go.bits .or .u32 (Go.bits .or .u32 ((((rd l0 x9_2) % 4294967296) * 16777216) % 4294967296) ((((rd l0 (ji7)) % 4294967296) * 65536) % 4294967296)) ((((rd l0 (ji10)) % 4294967296) * 256) % 4294967296)) ((rd l0 (ji13)) % 4294967296)) / 512) 7)) == x7_2) = false := beq_eq_false_iff_ne.mpr c24
                                      have c24b1 : ((wrap64 (Go.bits .and .u32 ((Go.bits .or .u32 (Go.bits .or .u32 (Go.bits .or .u32 ((((rd l0 x9_2) % 4294967296) * 16777216) % 4294967296) ((((rd l0 (ji7)) % 4294967296) * 65536) % 4294967296)) ((((rd l0 (ji10)) % 4294967296) * 256) % 4294967296)) ((rd l0 (ji13)) % 4294967296)) / 512) 7)) != x7_2) = true := bne_iff_ne.mpr c24
                                      simp only [Option.some.injEq, Prod.mk.injEq] at H
                                      obtain ⟨rfl, rfl, rfl, rfl⟩ := H
                                      go_wp2
                                      repeat (go_quiet (fail); try go_wp2)
                                      refine bodyPost_ret (results_list (rs := [.tmp 2, .tmp 3, .tmp 4, .tmp 5]) rfl (by simp) (.tmp (.tmp (.tmp (.tmp .nil))))) rfl ?_
                                      exact ⟨_, by first | rfl | (simp [errW_none, errW_some] <;> rfl) | (simp only [← hji7, ← hji10, ← hji13]; first | rfl | (simp [errW_none, errW_some] <;> rfl)) | (simp [*, errW_none, errW_some] <;> rfl), by first | exact Kd.R_nil _ _ _ _ _ | exact Kd.N_nil _ _ _ _ _ | exact Kd.V_nil _ _ _ _ _ | exact Kd.Q_nil _ _ _ _ _ | exact Kd.S_nil _ _ _ _ _, by repeat (first | (with_reducible first | exact HB.out | apply below_alloc | apply pw_below_drewN | apply below_drew1 | refine below_set ?_ GE186.out) | exact HB.out)⟩
                                  · rw [if_neg c23] at H
                                    have c23b0 : decide (0 < x9_2) = false := decide_eq_false c23
                                    clear c23
                                    by_cases c29 : x6_2.length < 8796093022208
                                    · rw [if_pos c29] at H
                                      have LMc29 := Aside0.mk c29
                                      clear c29
                                      obtain ⟨y190, hy190⟩ : ∃ y_ : List (S30), y_ = (x6_2 ++ [(⟨t183, t184⟩ : S30)]) := ⟨_, rfl⟩
                                      replace H : (labels_Unpack.l0 kj16 l0 y190 (wrap64 (Go.bits .and .u32 ((Go.bits .or .u32 (Go.bits .or .u32 (Go.bits .or .u32 ((((rd l0 x9_2) % 4294967296) * 16777216) % 4294967296) ((((rd l0 (ji7)) % 4294967296) * 65536) % 4294967296)) ((((rd l0 (ji10)) % 4294967296) * 256) % 4294967296)) ((rd l0 (ji13)) % 4294967296)) / 512) 7)) (wrap64 (Go.bits .and .u32 (Go.bits .or .u32 (Go.bits .or .u32 (Go.bits .or .u32 ((((rd l0 x9_2) % 4294967296) * 16777216) % 4294967296) ((((rd l0 (ji7)) % 4294967296) * 65536) % 4294967296)) ((((rd l0 (ji10)) % 4294967296) * 256) % 4294967296)) ((rd l0 (ji13)) % 4294967296)) 255)) (wrap64 (x9_2 + 4))) = some (r1, r2, r3, r4) := by first | (rw [hy190]; with_reducible exact H) | (have H2_ := (Option.bind_some _ _).symm.trans H; rw [hy190]; with_reducible exact H2_) | (have H2_ := (Option.bind_some _ _).symm.trans H; with_reducible exact H2_) | with_reducible exact H | (rw [hy190]; exact H) | exact H
                                      have Ny190 := Aside0.mk hy190
                                      clear hy190
                                      have H' := Aside0.mk H
                                      clear H
                                      have hcz30_0 : wc.cell? ⟨gb186, 0, none⟩ = some (.int .i64 t183) := (blk_cell BK186.out 0).trans rfl
                                      have hcz30_1 : wc.cell? ⟨gb186, 1, none⟩ = some (.int .i64 t184) := (blk_cell BK186.out 1).trans rfl
                                      have hfz30_0 := blk_frozen BK186.out 0
                                      have hfz30_1 := blk_frozen BK186.out 1
                                      go_wp2_with (first | ((with_reducible refine gate_builtin (b := .append) (xs := #[.tmp 101, .tmp 103]) rfl ?_); (try (refine gate_guard (by rfl) ?_; dsimp only)); at_builtin; refine Kd.R_append k30 (w0 := w) w.heap.size rfl (.tmp 101) (.tmp 103) 22 30 (.agg #[(.int .i64 0), (.int .i64 0)]) 16 rfl Try.underlying22 info30 rfl (by decide) (by omega) u6 x6_2 (⟨t183, t184⟩ : S30) [.int .i64 t183, .int .i64 t184] (fun k_ => k_ ≠ gb186) (fun _ => False) rfl rfl ?aP (fun _ hk => hk.elim) ?aF ?aO ?aB ?aS ?aL ?_; (case aP => exact k30_mkM _ _ _ (⟨t183, t184⟩ : S30)); (case aB => exact (by repeat (first | (with_reducible first | exact HB.out | apply below_alloc | apply pw_below_drewN | apply below_drew1 | refine below_set ?_ GE186.out) | exact HB.out))); (case aF => exact (fun k_ hk => Kd.freshB (g := gb186) (o := .cells #[.int .i64 t183, .int .i64 t184] 30 (0, 0)) (by (with_reducible repeat (first | refine blk_drewN ?_ _ | refine blk_drew ?_ | refine blk_alloc ?_ _)); exact BK186.out) k_ hk)); (case aO => exact (by (with_reducible repeat (first | apply Kd.R_alloc | apply Kd.R_drewN | apply Kd.R_drew)); exact HO_6.out)); (case aS => exact (below_size (by repeat (first | (with_reducible first | exact HB.out | apply below_alloc | apply pw_below_drewN | apply below_drew1 | refine below_set ?_ GE186.out) | exact HB.out)))); (case aL => have := LMc29.out; omega); intro v191 w31 ho hb hg hat; rw [← Ny190.out] at ho; have n0_ := Aside0.mk (blk_grown (g := gb186) (o := .cells #[.int .i64 t183, .int .i64 t184] 30 (0, 0)) (by (with_reducible repeat (first | refine blk_drewN ?_ _ | refine blk_drew ?_ | refine blk_alloc ?_ _)); exact BK186.out) hg (Kd.R_away HO_6.out (fun _ hk => hk))); have n1_ := Aside0.mk (hb); have n2_ := Aside0.mk (ho); clear BK186; clear HB; clear HO_6; have BK186 := n0_; have HB := n1_; have HO192 := n2_; clear n0_ n1_ n2_; clear ho hb hg hat))
                                      repeat (go_quiet (first | ((with_reducible refine gate_builtin (b := .append) (xs := #[.tmp 101, .tmp 103]) rfl ?_); (try (refine gate_guard (by rfl) ?_; dsimp only)); at_builtin; refine Kd.R_append k30 (w0 := w) w.heap.size rfl (.tmp 101) (.tmp 103) 22 30 (.agg #[(.int .i64 0), (.int .i64 0)]) 16 rfl Try.underlying22 info30 rfl (by decide) (by omega) u6 x6_2 (⟨t183, t184⟩ : S30) [.int .i64 t183, .int .i64 t184] (fun k_ => k_ ≠ gb186) (fun _ => False) rfl rfl ?aP (fun _ hk => hk.elim) ?aF ?aO ?aB ?aS ?aL ?_; (case aP => exact k30_mkM _ _ _ (⟨t183, t184⟩ : S30)); (case aB => exact (by repeat (first | (with_reducible first | exact HB.out | apply below_alloc | apply pw_below_drewN | apply below_drew1 | refine below_set ?_ GE186.out) | exact HB.out))); (case aF => exact (fun k_ hk => Kd.freshB (g := gb186) (o := .cells #[.int .i64 t183, .int .i64 t184] 30 (0, 0)) (by (with_reducible repeat (first | refine blk_drewN ?_ _ | refine blk_drew ?_ | refine blk_alloc ?_ _)); exact BK186.out) k_ hk)); (case aO => exact (by (with_reducible repeat (first | apply Kd.R_alloc | apply Kd.R_drewN | apply Kd.R_drew)); exact HO_6.out)); (case aS => exact (below_size (by repeat (first | (with_reducible first | exact HB.out | apply below_alloc | apply pw_below_drewN | apply below_drew1 | refine below_set ?_ GE186.out) | exact HB.out)))); (case aL => have := LMc29.out; omega); intro v191 w31 ho hb hg hat; rw [← Ny190.out] at ho; have n0_ := Aside0.mk (blk_grown (g := gb186) (o := .cells #[.int .i64 t183, .int .i64 t184] 30 (0, 0)) (by (with_reducible repeat (first | refine blk_drewN ?_ _ | refine blk_drew ?_ | refine blk_alloc ?_ _)); exact BK186.out) hg (Kd.R_away HO_6.out (fun _ hk => hk))); have n1_ := Aside0.mk (hb); have n2_ := Aside0.mk (ho); clear BK186; clear HB; clear HO_6; have BK186 := n0_; have HB := n1_; have HO192 := n2_; clear n0_ n1_ n2_; clear ho hb hg hat)); try go_wp2_with (first | ((with_reducible refine gate_builtin (b := .append) (xs := #[.tmp 101, .tmp 103]) rfl ?_); (try (refine gate_guard (by rfl) ?_; dsimp only)); at_builtin; refine Kd.R_append k30 (w0 := w) w.heap.size rfl (.tmp 101) (.tmp 103) 22 30 (.agg #[(.int .i64 0), (.int .i64 0)]) 16 rfl Try.underlying22 info30 rfl (by decide) (by omega) u6 x6_2 (⟨t183, t184⟩ : S30) [.int .i64 t183, .int .i64 t184] (fun k_ => k_ ≠ gb186) (fun _ => False) rfl rfl ?aP (fun _ hk => hk.elim) ?aF ?aO ?aB ?aS ?aL ?_; (case aP => exact k30_mkM _ _ _ (⟨t183, t184⟩ : S30)); (case aB => exact (by repeat (first | (with_reducible first | exact HB.out | apply below_alloc | apply pw_below_drewN | apply below_drew1 | refine below_set ?_ GE186.out) | exact HB.out))); (case aF => exact (fun k_ hk => Kd.freshB (g := gb186) (o := .cells #[.int .i64 t183, .int .i64 t184] 30 (0, 0)) (by (with_reducible repeat (first | refine blk_drewN ?_ _ | refine blk_drew ?_ | refine blk_alloc ?_ _)); exact BK186.out) k_ hk)); (case aO => exact (by (with_reducible repeat (first | apply Kd.R_alloc | apply Kd.R_drewN | apply Kd.R_drew)); exact HO_6.out)); (case aS => exact (below_size (by repeat (first | (with_reducible first | exact HB.out | apply below_alloc | apply pw_below_drewN | apply below_drew1 | refine below_set ?_ GE186.out) | exact HB.out)))); (case aL => have := LMc29.out; omega); intro v191 w31 ho hb hg hat; rw [← Ny190.out] at ho; have n0_ := Aside0.mk (blk_grown (g := gb186) (o := .cells #[.int .i64 t183, .int .i64 t184] 30 (0, 0)) (by (with_reducible repeat (first | refine blk_drewN ?_ _ | refine blk_drew ?_ | refine blk_alloc ?_ _)); exact BK186.out) hg (Kd.R_away HO_6.out (fun _ hk => hk))); have n1_ := Aside0.mk (hb); have n2_ := Aside0.mk (ho); clear BK186; clear HB; clear HO_6; have BK186 := n0_; have HB := n1_; have HO192 := n2_; clear n0_ n1_ n2_; clear ho hb hg hat)))
                                      go_roundg kj16
                                      case measure => have := HJ1.out; have := HK2.out; have := HJ16.out; omega
                                      case rel => exact ⟨(y190), (wrap64 (Go.bits .and .u32 ((Go.bits .or .u32 (Go.bits .or .u32 (Go.bits .or .u32 ((((rd l0 x9_2) % 4294967296) * 16777216) % 4294967296) ((((rd l0 (ji7)) % 4294967296) * 65536) % 4294967296)) ((((rd l0 (ji10)) % 4294967296) * 256) % 4294967296)) ((rd l0 (ji13)) % 4294967296)) / 512) 7)), (wrap64 (Go.bits .and .u32 (Go.bits .or .u32 (Go.bits .or .u32 (Go.bits .or .u32 ((((rd l0 x9_2) % 4294967296) * 16777216) % 4294967296) ((((rd l0 (ji7)) % 4294967296) * 65536) % 4294967296)) ((((rd l0 (ji10)) % 4294967296) * 256) % 4294967296)) ((rd l0 (ji13)) % 4294967296)) 255)), (wrap64 (x9_2 + 4)), (by first | rfl | (simp; done) | (simp only [← hji7, ← hji10, ← hji13] <;> (first | rfl | simp)) | (simp [*]; done)), (by first | rfl | (simp; done) | (simp only [← hji7, ← hji10, ← hji13] <;> (first | rfl | simp)) | (simp [*]; done)), (by first | rfl | (simp; done) | (simp [*]; done)), H', ⟨by have := HJ1.out; have := HK2.out; have := HJ16.out; omega⟩, ⟨by (with_reducible repeat (first | apply Kd.R_alloc | apply Kd.R_drewN | apply Kd.R_drew)); exact Kd.R_mono HO192.out (fun _ hk => trivial)⟩, ⟨by repeat (first | (with_reducible first | exact HB.out | apply below_alloc | apply pw_below_drewN | apply below_drew1 | refine below_set ?_ GE186.out) | exact HB.out)⟩⟩
                                    · rw [if_neg c29] at H
                                      exact absurd H (by simp)
                          · rw [if_neg c15] at H
                            exact absurd H (by simp)
                        · rw [if_neg c14] at H
                          exact absurd H (by simp)
                      · rw [if_neg c12] at H
                        exact absurd H (by simp)
                    · rw [if_neg c11] at H
                      exact absurd H (by simp)
                  · rw [if_neg c9] at H
                    exact absurd H (by simp)
                · rw [if_neg c8] at H
                  exact absurd H (by simp)
              · rw [if_neg c6] at H
                exact absurd H (by simp)
            · rw [if_neg c5] at H
              have c5b0 : decide (x9_2 < (l0.length : Int)) = false := decide_eq_false c5
              clear c5
              simp only [Option.some.injEq, Prod.mk.injEq] at H
              obtain ⟨rfl, rfl, rfl, rfl⟩ := H
              go_wp2
              repeat (go_quiet (fail); try go_wp2)
              refine bodyPost_ret (results_list (rs := [.tmp 2, .tmp 3, .tmp 4, .tmp 5]) rfl (by simp) (.tmp (.tmp (.tmp (.tmp .nil))))) rfl ?_
              exact ⟨_, by first | rfl | (simp [errW_none, errW_some] <;> rfl) | (simp [*, errW_none, errW_some] <;> rfl), by (with_reducible repeat (first | apply Kd.R_alloc | apply Kd.R_drewN | apply Kd.R_drew)); exact HO_6.out, by repeat (first | (with_reducible first | exact HB.out | apply below_alloc | apply pw_below_drewN | apply below_drew1) | exact HB.out)⟩

end Go.Proofs.Ytbphaaaobgmejaa.PT19

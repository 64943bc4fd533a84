-- WRITTEN BY mygen.py, a program of mine over the kit's print; Lean checks every row
import Derived.Test.YtbphaaaobgmejaaPT190
import Derived.Test.YtbphaaaobgmejaaPT193
namespace Go.Proofs.Ytbphaaaobgmejaa.PT19
open Go.RowKit Go.Proofs.YtbphaaaobgmejaaW.PrintWords Go.Proofs.YtbphaaaobgmejaaW.PrintLast Go.Proofs.YtbphaaaobgmejaaW.PrintMore
attribute [local go_sem] max2_int min2_int max_two min_two max_three min_three max_four min_four   -- for this text's walks alone
set_option linter.unusedVariables false
set_option linter.unusedSimpArgs false

/-! ### labels_Pack: function 11 -/
mutual
def labels_Pack.j0 : Nat → List (S30) → Int → Int → Bool → Option (List Int × Int)
  | 0, _, _, _, _ => none
  | k + 1, x0, x1, x2, x14 => if x14 = true then (some (([] : List Int), 2)) else (if (x0.length : Int) > 32 then (some (([] : List Int), 6)) else (labels_Pack.l0 k x0 x1 x2 ([] : List Int) x0 (x0.length : Int) 0))
def labels_Pack.l0 : Nat → List (S30) → Int → Int → List Int → List (S30) → Int → Int → Option (List Int × Int)
  | 0, _, _, _, _, _, _, _ => none
  | k + 1, x0, x1, x2, x8, x33, x34, x35 => if x35 < x34 then (if 0 ≤ x35 then (if x35 < (x33.length : Int) then ((labels_Encode.f ((rd_T30 x33 x35).f0) ((rd_T30 x33 x35).f1)).bind fun bt104 => (if bt104.2 = 0 then (if x35 = (wrap64 ((x0.length : Int) - 1)) then ((some (([((Go.bits .or .u32 (Go.bits .or .u32 (Go.bits .or .u32 ((((bt104.1) % 4294967296) * 4096) % 4294967296) ((((x1) % 4294967296) * 512) % 4294967296)) ((x2) % 4294967296)) 256) / 16777216) % 256, ((Go.bits .or .u32 (Go.bits .or .u32 (Go.bits .or .u32 ((((bt104.1) % 4294967296) * 4096) % 4294967296) ((((x1) % 4294967296) * 512) % 4294967296)) ((x2) % 4294967296)) 256) / 65536) % 256, ((Go.bits .or .u32 (Go.bits .or .u32 (Go.bits .or .u32 ((((bt104.1) % 4294967296) * 4096) % 4294967296) ((((x1) % 4294967296) * 512) % 4294967296)) ((x2) % 4294967296)) 256) / 256) % 256, (Go.bits .or .u32 (Go.bits .or .u32 (Go.bits .or .u32 ((((bt104.1) % 4294967296) * 4096) % 4294967296) ((((x1) % 4294967296) * 512) % 4294967296)) ((x2) % 4294967296)) 256) % 256] : List Int) : List Int)).bind fun y106 => (if x8.length + y106.length < 140737488355328 then (labels_Pack.l0 k x0 x1 x2 (x8 ++ y106) x33 x34 (wrap64 (x35 + 1))) else (none))) else ((some (([((Go.bits .or .u32 (Go.bits .or .u32 ((((bt104.1) % 4294967296) * 4096) % 4294967296) ((((x1) % 4294967296) * 512) % 4294967296)) ((x2) % 4294967296)) / 16777216) % 256, ((Go.bits .or .u32 (Go.bits .or .u32 ((((bt104.1) % 4294967296) * 4096) % 4294967296) ((((x1) % 4294967296) * 512) % 4294967296)) ((x2) % 4294967296)) / 65536) % 256, ((Go.bits .or .u32 (Go.bits .or .u32 ((((bt104.1) % 4294967296) * 4096) % 4294967296) ((((x1) % 4294967296) * 512) % 4294967296)) ((x2) % 4294967296)) / 256) % 256, (Go.bits .or .u32 (Go.bits .or .u32 ((((bt104.1) % 4294967296) * 4096) % 4294967296) ((((x1) % 4294967296) * 512) % 4294967296)) ((x2) % 4294967296)) % 256] : List Int) : List Int)).bind fun y112 => (if x8.length + y112.length < 140737488355328 then (labels_Pack.l0 k x0 x1 x2 (x8 ++ y112) x33 x34 (wrap64 (x35 + 1))) else (none)))) else (some (([] : List Int), bt104.2)))) else (none)) else (none)) else (some (x8, 0))
end
def labels_Pack.f (k : Nat) (l0 : List (S30)) (a1 : Int) (a2 : Int) : Option (List Int × Int) := if a1 < 0 then (labels_Pack.j0 k l0 a1 a2 true) else (if a1 > 7 then (labels_Pack.j0 k l0 a1 a2 true) else (if a2 < 0 then (labels_Pack.j0 k l0 a1 a2 true) else (labels_Pack.j0 k l0 a1 a2 (decide (a2 > 255)))))
theorem labels_Pack.mono_l : ∀ k, (∀ y0 y1 y2 y3, LeO (labels_Pack.j0 k y0 y1 y2 y3) (labels_Pack.j0 (k + 1) y0 y1 y2 y3)) ∧ (∀ y0 y1 y2 y3 y4 y5 y6, LeO (labels_Pack.l0 k y0 y1 y2 y3 y4 y5 y6) (labels_Pack.l0 (k + 1) y0 y1 y2 y3 y4 y5 y6))
  | 0 => ⟨fun _ _ _ _ r h => by simp [labels_Pack.j0] at h, fun _ _ _ _ _ _ _ r h => by simp [labels_Pack.l0] at h⟩
  | k + 1 => by
    obtain ⟨ih0, ih1⟩ := labels_Pack.mono_l k
    refine ⟨?_, ?_⟩
    · intro y0 y1 y2 y3
      unfold labels_Pack.j0
      repeat' first
      | (with_reducible exact ih0 _ _ _ _)
      | (with_reducible exact ih1 _ _ _ _ _ _ _)
      | (with_reducible exact LeO.refl _)
      | (with_reducible exact LeO.none _)
      | (with_reducible refine LeO.ite ?_ ?_)
      | (with_reducible refine LeO.bind ?_ (fun _ => ?_))
      | exact ih0 _ _ _ _
      | exact ih1 _ _ _ _ _ _ _
      | exact LeO.none _
      | refine LeO.ite ?_ ?_
      | refine LeO.bind ?_ (fun _ => ?_)
    · intro y0 y1 y2 y3 y4 y5 y6
      unfold labels_Pack.l0
      repeat' first
      | (with_reducible exact ih0 _ _ _ _)
      | (with_reducible exact ih1 _ _ _ _ _ _ _)
      | (with_reducible exact LeO.refl _)
      | (with_reducible exact LeO.none _)
      | (with_reducible refine LeO.ite ?_ ?_)
      | (with_reducible refine LeO.bind ?_ (fun _ => ?_))
      | exact ih0 _ _ _ _
      | exact ih1 _ _ _ _ _ _ _
      | exact LeO.none _
      | refine LeO.ite ?_ ?_
      | refine LeO.bind ?_ (fun _ => ?_)
theorem labels_Pack.mono : ∀ a0 a1 a2 k, LeO (labels_Pack.f k a0 a1 a2) (labels_Pack.f (k + 1) a0 a1 a2) := by
  intro a0 a1 a2 k
  obtain ⟨ih0, ih1⟩ := labels_Pack.mono_l k
  unfold labels_Pack.f
  repeat' first
      | (with_reducible exact ih0 _ _ _ _)
      | (with_reducible exact ih1 _ _ _ _ _ _ _)
      | (with_reducible exact LeO.refl _)
      | (with_reducible exact LeO.none _)
      | (with_reducible refine LeO.ite ?_ ?_)
      | (with_reducible refine LeO.bind ?_ (fun _ => ?_))
      | exact ih0 _ _ _ _
      | exact ih1 _ _ _ _ _ _ _
      | exact LeO.none _
      | refine LeO.ite ?_ ?_
      | refine LeO.bind ?_ (fun _ => ?_)
set_option maxHeartbeats 8000000 in
set_option maxRecDepth 100000 in
theorem labels_Pack.calls (k : Nat) (A0 : Option Addr) (c0 : Nat) (l0 : List (S30)) (a1 : Int) (a2 : Int) (r1 : List Int) (r2 : Int) (w : World) (hr0 : Kd.C k30 w A0 l0.length l0) (hc0 : l0.length ≤ c0) (h : labels_Pack.f k l0 a1 a2 = some (r1, r2)) :
    Calls Try.prog 11 #[.slice A0 l0.length c0, .int .i64 a1, .int .i64 a2] w fun e w' => ∃ v0_ : Value, e = .returned (.tuple #[v0_, .int .i64 r2]) ∧ Kd.R (Kd.int .u8) 5 w' w.heap.size (fun _ => True) v0_ r1 ∧ Below w.heap.size w w' := by
  have hu30 := Try.underlying30
  have HR0 := Aside0.mk hr0
  have HC0 := Aside0.mk hc0
  clear hr0 hc0
  have HB := Aside0.mk (Below.refl w.heap.size w)
  have H : (if a1 < 0 then (labels_Pack.j0 k l0 a1 a2 true) else (if a1 > 7 then (labels_Pack.j0 k l0 a1 a2 true) else (if a2 < 0 then (labels_Pack.j0 k l0 a1 a2 true) else (labels_Pack.j0 k l0 a1 a2 (decide (a2 > 255)))))) = some (r1, r2) := h
  clear h
  have HC4 := Aside0.mk H
  clear H
  go_enter Try.func11, Try.ntmps11
  go_upto_region 1 with (fail)
  go_cut [14] (fun v14 wc => ∃ (kq : Nat) (x14_3 : Bool), v14 = .bool x14_3 ∧ Aside0 (labels_Pack.j0 kq l0 a1 a2 x14_3 = some (r1, r2)) ∧ Aside0 (kq ≤ k) ∧ Aside0 (Below w.heap.size w wc))
  case first =>
    have H := HC4.out
    clear HC4
    by_cases c5 : a1 < 0
    · rw [if_pos c5] at H
      have c5b0 : decide (a1 < 0) = true := decide_eq_true c5
      clear c5
      (first | rw [c5b0] | (simp only [i64_w, i32_w]; rw [c5b0]) | skip)
      have H' := Aside0.mk H
      clear H
      go_wp2
      go_meet
      case rel => exact ⟨_, (true), (by first | rfl | (simp; done) | (simp [*]; done)), H', ⟨by first | omega | exact Nat.le_refl _⟩, ⟨by repeat (first | (with_reducible first | exact HB.out | apply below_alloc | apply pw_below_drewN | apply below_drew1) | exact HB.out)⟩⟩
    · rw [if_neg c5] at H
      have c5b0 : decide (a1 < 0) = false := decide_eq_false c5
      clear c5
      (first | rw [c5b0] | (simp only [i64_w, i32_w]; rw [c5b0]) | skip)
      by_cases c6 : a1 > 7
      · rw [if_pos c6] at H
        have c6b0 : decide (7 < a1) = true := decide_eq_true c6
        clear c6
        have H' := Aside0.mk H
        clear H
        go_wp2
        go_meet
        case rel => exact ⟨_, (true), (by first | rfl | (simp; done) | (simp [*]; done)), H', ⟨by first | omega | exact Nat.le_refl _⟩, ⟨by repeat (first | (with_reducible first | exact HB.out | apply below_alloc | apply pw_below_drewN | apply below_drew1) | exact HB.out)⟩⟩
      · rw [if_neg c6] at H
        have c6b0 : decide (7 < a1) = false := decide_eq_false c6
        clear c6
        by_cases c7 : a2 < 0
        · rw [if_pos c7] at H
          have c7b0 : decide (a2 < 0) = true := decide_eq_true c7
          clear c7
          have H' := Aside0.mk H
          clear H
          go_wp2
          go_meet
          case rel => exact ⟨_, (true), (by first | rfl | (simp; done) | (simp [*]; done)), H', ⟨by first | omega | exact Nat.le_refl _⟩, ⟨by repeat (first | (with_reducible first | exact HB.out | apply below_alloc | apply pw_below_drewN | apply below_drew1) | exact HB.out)⟩⟩
        · rw [if_neg c7] at H
          have c7b0 : decide (a2 < 0) = false := decide_eq_false c7
          clear c7
          have H' := Aside0.mk H
          clear H
          go_wp2
          go_meet
          case rel => exact ⟨_, (decide (a2 > 255)), (by first | rfl | (simp; done) | (simp [*]; done)), H', ⟨by first | omega | exact Nat.le_refl _⟩, ⟨by repeat (first | (with_reducible first | exact HB.out | apply below_alloc | apply pw_below_drewN | apply below_drew1) | exact HB.out)⟩⟩
  case rest =>
    clear HC4
    try clear c1
    try clear p2
    try clear c5
    try clear c5b0
    try clear c6
    try clear c6b0
    try clear c7
    try clear c7b0
    obtain ⟨kq, x14_3, rfl, HA, HJ3, HB⟩ := hcut
    cases kq with
    | zero => exact absurd HA.out (by simp [labels_Pack.j0])
    | succ kj3 =>
      have H := HA.out
      clear HA
      simp only [labels_Pack.j0] at H
      by_cases c8 : x14_3 = true
      · subst c8
        have H1 : (some (([] : List Int), 2)) = some (r1, r2) := by rw [if_pos rfl] at H; exact H
        clear H
        have H := H1
        clear H1
        simp only [Option.some.injEq, Prod.mk.injEq] at H
        obtain ⟨rfl, rfl⟩ := H
        go_wp2
        go_ret2
        exact ⟨_, by first | rfl | (simp [errW_none, errW_some] <;> rfl) | (simp [*, errW_none, errW_some] <;> rfl), by first | exact Kd.R_nil _ _ _ _ _ | exact Kd.N_nil _ _ _ _ _ | exact Kd.V_nil _ _ _ _ _ | exact Kd.Q_nil _ _ _ _ _ | exact Kd.S_nil _ _ _ _ _, by repeat (first | (with_reducible first | exact HB.out | apply below_alloc | apply pw_below_drewN | apply below_drew1) | exact HB.out)⟩
      · replace c8 := Bool.eq_false_iff.mpr c8
        subst c8
        have H1 : (if (l0.length : Int) > 32 then (some (([] : List Int), 6)) else (labels_Pack.l0 kj3 l0 a1 a2 ([] : List Int) l0 (l0.length : Int) 0)) = some (r1, r2) := by rw [if_neg (show ¬ (false = true) by decide)] at H; exact H
        clear H
        have H := H1
        clear H1
        by_cases c9 : (l0.length : Int) > 32
        · rw [if_pos c9] at H
          have c9b0 : decide (32 < (l0.length : Int)) = true := decide_eq_true c9
          have c9b1 : decide (32 < l0.length) = true := decide_eq_true (by omega)
          clear c9
          simp only [Option.some.injEq, Prod.mk.injEq] at H
          obtain ⟨rfl, rfl⟩ := H
          go_wp2
          go_ret2
          exact ⟨_, by first | rfl | (simp [errW_none, errW_some] <;> rfl) | (simp [*, errW_none, errW_some] <;> rfl), by first | exact Kd.R_nil _ _ _ _ _ | exact Kd.N_nil _ _ _ _ _ | exact Kd.V_nil _ _ _ _ _ | exact Kd.Q_nil _ _ _ _ _ | exact Kd.S_nil _ _ _ _ _, by repeat (first | (with_reducible first | exact HB.out | apply below_alloc | apply pw_below_drewN | apply below_drew1) | exact HB.out)⟩
        · rw [if_neg c9] at H
          have c9b0 : decide (32 < (l0.length : Int)) = false := decide_eq_false c9
          have c9b1 : decide (32 < l0.length) = false := decide_eq_false (by omega)
          clear c9
          have H' := Aside0.mk H
          clear H
          go_wp2
          go_loopg [8, 35] kj3 (fun kq v8 v35 w' => ∃ (x8_2 : List Int) (x35_2 : Int), v35 = .int .i64 x35_2 ∧ Aside0 (labels_Pack.l0 kq l0 a1 a2 x8_2 l0 (l0.length : Int) x35_2 = some (r1, r2)) ∧ Aside0 (kq ≤ kj3) ∧ Aside0 (Kd.R (Kd.int .u8) 5 w' w.heap.size (fun _ => True) v8 x8_2) ∧ Aside0 (Below w.heap.size w w'))
          case atStart => exact ⟨(([] : List Int)), (0), (by first | rfl | (simp; done) | (simp [*]; done)), H', ⟨Nat.le_refl _⟩, ⟨by first | exact Kd.R_nil _ _ _ _ _ | exact Kd.N_nil _ _ _ _ _ | exact Kd.V_nil _ _ _ _ _ | exact Kd.Q_nil _ _ _ _ _ | exact Kd.S_nil _ _ _ _ _⟩, ⟨by repeat (first | (with_reducible first | exact HB.out | apply below_alloc | apply pw_below_drewN | apply below_drew1) | exact HB.out)⟩⟩
          case round =>
            clear H'
            try clear c1
            try clear p2
            try clear c5
            try clear c5b0
            try clear c6
            try clear c6b0
            try clear c7
            try clear c7b0
            try clear c8
            try clear c9
            try clear c9b0
            try clear c9b1
            try clear p2
            obtain ⟨x8_2, x35_2, rfl, HA, HK2, HO_8, HB⟩ := hrel
            cases gk with
            | zero => exact absurd HA.out (by simp [labels_Pack.l0])
            | succ k2 =>
              have H := HA.out
              clear HA
              simp only [labels_Pack.l0] at H
              by_cases c10 : x35_2 < (l0.length : Int)
              · rw [if_pos c10] at H
                have c10b0 : decide (x35_2 < (l0.length : Int)) = true := decide_eq_true c10
                clear c10
                by_cases c11 : 0 ≤ x35_2
                · rw [if_pos c11] at H
                  have c11b0 : decide (0 ≤ x35_2) = true := decide_eq_true c11
                  clear c11
                  by_cases c12 : x35_2 < (l0.length : Int)
                  · rw [if_pos c12] at H
                    have c12b0 : decide (x35_2 < (l0.length : Int)) = true := decide_eq_true c12
                    clear c12
                    replace H := Option.bind_eq_some_iff.mp H
                    obtain ⟨⟨t104, t105⟩, A130, H⟩ := H
                    replace H : (if t105 = 0 then (if x35_2 = (wrap64 ((l0.length : Int) - 1)) then ((some (([((Go.bits .or .u32 (Go.bits .or .u32 (Go.bits .or .u32 ((((t104) % 4294967296) * 4096) % 4294967296) ((((a1) % 4294967296) * 512) % 4294967296)) ((a2) % 4294967296)) 256) / 16777216) % 256, ((Go.bits .or .u32 (Go.bits .or .u32 (Go.bits .or .u32 ((((t104) % 4294967296) * 4096) % 4294967296) ((((a1) % 4294967296) * 512) % 4294967296)) ((a2) % 4294967296)) 256) / 65536) % 256, ((Go.bits .or .u32 (Go.bits .or .u32 (Go.bits .or .u32 ((((t104) % 4294967296) * 4096) % 4294967296) ((((a1) % 4294967296) * 512) % 4294967296)) ((a2) % 4294967296)) 256) / 256) % 256, (Go.bits .or .u32 (Go.bits .or .u32 (Go.bits .or .u32 ((((t104) % 4294967296) * 4096) % 4294967296) ((((a1) % 4294967296) * 512) % 4294967296)) ((a2) % 4294967296)) 256) % 256] : List Int) : List Int)).bind fun y106 => (if x8_2.length + y106.length < 140737488355328 then (labels_Pack.l0 k2 l0 a1 a2 (x8_2 ++ y106) l0 (l0.length : Int) (wrap64 (x35_2 + 1))) else (none))) else ((some (([((Go.bits .or .u32 (Go.bits .or .u32 ((((t104) % 4294967296) * 4096) % 4294967296) ((((a1) % 4294967296) * 512) % 4294967296)) ((a2) % 4294967296)) / 16777216) % 256, ((Go.bits .or .u32 (Go.bits .or .u32 ((((t104) % 4294967296) * 4096) % 4294967296) ((((a1) % 4294967296) * 512) % 4294967296)) ((a2) % 4294967296)) / 65536) % 256, ((Go.bits .or .u32 (Go.bits .or .u32 ((((t104) % 4294967296) * 4096) % 4294967296) ((((a1) % 4294967296) * 512) % 4294967296)) ((a2) % 4294967296)) / 256) % 256, (Go.bits .or .u32 (Go.bits .or .u32 ((((t104) % 4294967296) * 4096) % 4294967296) ((((a1) % 4294967296) * 512) % 4294967296)) ((a2) % 4294967296)) % 256] : List Int) : List Int)).bind fun y112 => (if x8_2.length + y112.length < 140737488355328 then (labels_Pack.l0 k2 l0 a1 a2 (x8_2 ++ y112) l0 (l0.length : Int) (wrap64 (x35_2 + 1))) else (none)))) else (some (([] : List Int), t105))) = some (r1, r2) := H
                    have A13 := Aside0.mk A130
                    clear A130
                    by_cases c14 : t105 = 0
                    · rw [if_pos c14] at H
                      have c14b0 : (t105 == 0) = true := beq_iff_eq.mpr c14
                      have c14b1 : (t105 != 0) = false := bne_eq_false_iff_eq.mpr c14
                      clear c14
                      by_cases c15 : x35_2 = (wrap64 ((l0.length : Int) - 1))
                      · rw [if_pos c15] at H
                        have c15b0 : (x35_2 == (wrap64 ((l0.length : Int) - 1))) = true := beq_iff_eq.mpr c15
                        have c15b1 : (x35_2 != (wrap64 ((l0.length : Int) - 1))) = false := bne_eq_false_iff_eq.mpr c15
                        clear c15
                        obtain ⟨y106, hy106⟩ : ∃ y_ : List Int, y_ = (([((Go.bits .or .u32 (Go.bits .or .u32 (Go.bits .or .u32 ((((t104) % 4294967296) * 4096) % 4294967296) ((((a1) % 4294967296) * 512) % 4294967296)) ((a2) % 4294967296)) 256) / 16777216) % 256, ((Go.bits .or .u32 (Go.bits .or .u32 (Go.bits .or .u32 ((((t104) % 4294967296) * 4096) % 4294967296) ((((a1) % 4294967296) * 512) % 4294967296)) ((a2) % 4294967296)) 256) / 65536) % 256, ((Go.bits .or .u32 (Go.bits .or .u32 (Go.bits .or .u32 ((((t104) % 4294967296) * 4096) % 4294967296) ((((a1) % 4294967296) * 512) % 4294967296)) ((a2) % 4294967296)) 256) / 256) % 256, (Go.bits .or .u32 (Go.bits .or .u32 (Go.bits .or .u32 ((((t104) % 4294967296) * 4096) % 4294967296) ((((a1) % 4294967296) * 512) % 4294967296)) ((a2) % 4294967296)) 256) % 256] : List Int)) := ⟨_, rfl⟩
                        replace H : (if x8_2.length + y106.length < 140737488355328 then (labels_Pack.l0 k2 l0 a1 a2 (x8_2 ++ y106) l0 (l0.length : Int) (wrap64 (x35_2 + 1))) else (none)) = some (r1, r2) := by first | (rw [hy106]; with_reducible exact H) | (have H2_ := (Option.bind_some _ _).symm.trans H; rw [hy106]; with_reducible exact H2_) | (have H2_ := (Option.bind_some _ _).symm.trans H; with_reducible exact H2_) | with_reducible exact H | (rw [hy106]; exact H) | exact H
                        have Ny106 := Aside0.mk hy106
                        clear hy106
                        by_cases c16 : x8_2.length + y106.length < 140737488355328
                        · rw [if_pos c16] at H
                          have LMc16 := Aside0.mk c16
                          clear c16
                          obtain ⟨y109, hy109⟩ : ∃ y_ : List Int, y_ = (x8_2 ++ y106) := ⟨_, rfl⟩
                          replace H : (labels_Pack.l0 k2 l0 a1 a2 y109 l0 (l0.length : Int) (wrap64 (x35_2 + 1))) = some (r1, r2) := by first | (rw [hy109]; with_reducible exact H) | (have H2_ := (Option.bind_some _ _).symm.trans H; rw [hy109]; with_reducible exact H2_) | (have H2_ := (Option.bind_some _ _).symm.trans H; with_reducible exact H2_) | with_reducible exact H | (rw [hy109]; exact H) | exact H
                          have Ny109 := Aside0.mk hy109
                          clear hy109
                          have H' := Aside0.mk H
                          clear H
                          have p102 : 0 ≤ (x35_2 : Int) := of_decide_eq_true (by first | (with_reducible assumption) | assumption)
                          have q102 : x35_2 < (l0.length : Int) := of_decide_eq_true (by first | (with_reducible assumption) | assumption)
                          obtain ⟨ad102, e102, hx102_0, hx102_1⟩ := at_T30 HR0.out x35_2 p102 q102
                          cases e102
                          replace hx102_0 := (HB.out.cell (World.block_lt_of_cell? w _ hx102_0)).trans hx102_0
                          replace hx102_1 := (HB.out.cell (World.block_lt_of_cell? w _ hx102_1)).trans hx102_1
                          replace p102 := eq_true p102
                          replace q102 := eq_true q102
                          go_wp2_with (first | ((with_reducible refine gate_dst (N := 10) rfl ?_); refine box_event ?hg (N := 10) ?hd (cs := #[.int .i64 0, .int .i64 0]) (t := 30) ?hr ?_; (case hd => rfl); (case hg => rfl); (case hr => first | (go_simp; done) | (go_simp; rfl)); intro gb103 hg w17 hbox hb; have n0_ := Aside0.mk (Kd.R_below (by (with_reducible repeat (first | apply Kd.R_alloc | apply Kd.R_drewN | apply Kd.R_drew)); exact HO_8.out) hb); have n1_ := Aside0.mk (below_step (by repeat (first | (with_reducible first | exact HB.out | apply below_alloc | apply pw_below_drewN | apply below_drew1) | exact HB.out)) hb); have n2_ := Aside0.mk (hbox); have n3_ := Aside0.mk ((by rw [hg]; exact (below_size (by repeat (first | (with_reducible first | exact HB.out | apply below_alloc | apply pw_below_drewN | apply below_drew1) | exact HB.out))) : w.heap.size ≤ gb103)); have n4_ := Aside0.mk ((by rw [hg]; exact (below_size (by repeat (first | (with_reducible first | exact HB.out | apply below_alloc | apply pw_below_drewN | apply below_drew1) | exact HB.out))) : w.heap.size ≤ gb103)); clear HO_8; clear HB; have HO_8 := n0_; have HB := n1_; have BK103 := n2_; have GW103 := n3_; have GE103 := n4_; clear n0_ n1_ n2_ n3_ n4_; clear hb hbox hg; have hcz18_0 : w17.cell? ⟨gb103, 0, none⟩ = some (.int .i64 0) := (blk_cell BK103.out 0).trans rfl; have hcz18_1 : w17.cell? ⟨gb103, 1, none⟩ = some (.int .i64 0) := (blk_cell BK103.out 1).trans rfl; have hfz18_0 := blk_frozen BK103.out 0; have hfz18_1 := blk_frozen BK103.out 1) | ((with_reducible refine gate_callee (f := 13) rfl ?_); refine goesL_ (some 42) rfl rfl Try.func13 (by kernel_rfl) rfl #[.agg #[.int .i64 ((rd_T30 l0 x35_2).f0), .int .i64 ((rd_T30 l0 x35_2).f1)]] rfl (by (try simp only [List.map_toArray, List.map_cons, List.map_nil]); first | done | rfl | (simp only [List.length_drop, List.length_take]; rfl)) ?_; (with_reducible refine (labels_Encode.calls ((rd_T30 l0 x35_2).f0) ((rd_T30 l0 x35_2).f1) t104 t105 _ A13.out).mono ?_); rintro e w19 ⟨rfl, hb⟩; refine ⟨_, rfl, ?_⟩; have n0_ := Aside0.mk (Kd.R_below (by (with_reducible repeat (first | apply Kd.R_alloc | apply Kd.R_drewN | apply Kd.R_drew)); exact (Kd.R_mono (Kd.R_far (p := ⟨gb103, 1, none⟩) (Kd.R_far (p := ⟨gb103, 0, none⟩) (Kd.R_types HO_8.out BK103.out (by decide)) (fun _ hk => hk.2) (.int .i64 ((rd_T30 l0 x35_2).f0))) (fun _ hk => hk.2) (.int .i64 ((rd_T30 l0 x35_2).f1))) (fun _ h_ => h_.1))) hb); have n1_ := Aside0.mk (blk_below (g := gb103) (o := .cells #[.int .i64 ((rd_T30 l0 x35_2).f0), .int .i64 ((rd_T30 l0 x35_2).f1)] 30 (0, 0)) (by (with_reducible repeat (first | refine blk_drewN ?_ _ | refine blk_drew ?_ | refine blk_alloc ?_ _)); refine blk_put (cs := #[.int .i64 ((rd_T30 l0 x35_2).f0), .int .i64 0]) ?_ 1 _ rfl; (with_reducible repeat (first | refine blk_drewN ?_ _ | refine blk_drew ?_ | refine blk_alloc ?_ _)); refine blk_put (cs := #[.int .i64 0, .int .i64 0]) ?_ 0 _ rfl; (with_reducible repeat (first | refine blk_drewN ?_ _ | refine blk_drew ?_ | refine blk_alloc ?_ _)); exact BK103.out) hb); have n2_ := Aside0.mk (below_step (by repeat (first | (with_reducible first | exact HB.out | apply below_alloc | apply pw_below_drewN | apply below_drew1 | refine below_set ?_ GE103.out) | exact HB.out)) hb); clear HO_8; clear BK103; clear HB; have HO_8 := n0_; have BK103 := n1_; have HB := n2_; clear n0_ n1_ n2_; (try clear hb); (try clear hb2); (try clear hk); (try clear hi)) | ((with_reducible refine gate_dst (N := 77) rfl ?_); refine Kd.R_lit (Kd.int .u8) _ 5 ?hg (N := 77) ?hd (xs := ([((Go.bits .or .u32 (Go.bits .or .u32 (Go.bits .or .u32 ((((t104) % 4294967296) * 4096) % 4294967296) ((((a1) % 4294967296) * 512) % 4294967296)) ((a2) % 4294967296)) 256) / 16777216) % 256, ((Go.bits .or .u32 (Go.bits .or .u32 (Go.bits .or .u32 ((((t104) % 4294967296) * 4096) % 4294967296) ((((a1) % 4294967296) * 512) % 4294967296)) ((a2) % 4294967296)) 256) / 65536) % 256, ((Go.bits .or .u32 (Go.bits .or .u32 (Go.bits .or .u32 ((((t104) % 4294967296) * 4096) % 4294967296) ((((a1) % 4294967296) * 512) % 4294967296)) ((a2) % 4294967296)) 256) / 256) % 256, (Go.bits .or .u32 (Go.bits .or .u32 (Go.bits .or .u32 ((((t104) % 4294967296) * 4096) % 4294967296) ((((a1) % 4294967296) * 512) % 4294967296)) ((a2) % 4294967296)) 256) % 256] : List Int)) (inner := [.int .u8 (((Go.bits .or .u32 (Go.bits .or .u32 (Go.bits .or .u32 ((((t104) % 4294967296) * 4096) % 4294967296) ((((a1) % 4294967296) * 512) % 4294967296)) ((a2) % 4294967296)) 256) / 16777216) % 256), .int .u8 (((Go.bits .or .u32 (Go.bits .or .u32 (Go.bits .or .u32 ((((t104) % 4294967296) * 4096) % 4294967296) ((((a1) % 4294967296) * 512) % 4294967296)) ((a2) % 4294967296)) 256) / 65536) % 256), .int .u8 (((Go.bits .or .u32 (Go.bits .or .u32 (Go.bits .or .u32 ((((t104) % 4294967296) * 4096) % 4294967296) ((((a1) % 4294967296) * 512) % 4294967296)) ((a2) % 4294967296)) 256) / 256) % 256), .int .u8 ((Go.bits .or .u32 (Go.bits .or .u32 (Go.bits .or .u32 ((((t104) % 4294967296) * 4096) % 4294967296) ((((a1) % 4294967296) * 512) % 4294967296)) ((a2) % 4294967296)) 256) % 256)]) (ok := fun _ => True) (okp := fun _ => True) ?hr ?hp (fun _ hk => hk) trivial (Below.refl _ _) (Nat.le_refl _) (by simp) ?_; (case hd => rfl); (case hg => rfl); (case hr => first | (go_simp; done) | (go_simp; rfl)); (case hp => exact (Reps.one (show Kd.M (Kd.int .u8) _ _ _ (((Go.bits .or .u32 (Go.bits .or .u32 (Go.bits .or .u32 ((((t104) % 4294967296) * 4096) % 4294967296) ((((a1) % 4294967296) * 512) % 4294967296)) ((a2) % 4294967296)) 256) / 16777216) % 256) [.int .u8 (((Go.bits .or .u32 (Go.bits .or .u32 (Go.bits .or .u32 ((((t104) % 4294967296) * 4096) % 4294967296) ((((a1) % 4294967296) * 512) % 4294967296)) ((a2) % 4294967296)) 256) / 16777216) % 256)] from rfl) (Reps.one (show Kd.M (Kd.int .u8) _ _ _ (((Go.bits .or .u32 (Go.bits .or .u32 (Go.bits .or .u32 ((((t104) % 4294967296) * 4096) % 4294967296) ((((a1) % 4294967296) * 512) % 4294967296)) ((a2) % 4294967296)) 256) / 65536) % 256) [.int .u8 (((Go.bits .or .u32 (Go.bits .or .u32 (Go.bits .or .u32 ((((t104) % 4294967296) * 4096) % 4294967296) ((((a1) % 4294967296) * 512) % 4294967296)) ((a2) % 4294967296)) 256) / 65536) % 256)] from rfl) (Reps.one (show Kd.M (Kd.int .u8) _ _ _ (((Go.bits .or .u32 (Go.bits .or .u32 (Go.bits .or .u32 ((((t104) % 4294967296) * 4096) % 4294967296) ((((a1) % 4294967296) * 512) % 4294967296)) ((a2) % 4294967296)) 256) / 256) % 256) [.int .u8 (((Go.bits .or .u32 (Go.bits .or .u32 (Go.bits .or .u32 ((((t104) % 4294967296) * 4096) % 4294967296) ((((a1) % 4294967296) * 512) % 4294967296)) ((a2) % 4294967296)) 256) / 256) % 256)] from rfl) (Reps.one (show Kd.M (Kd.int .u8) _ _ _ ((Go.bits .or .u32 (Go.bits .or .u32 (Go.bits .or .u32 ((((t104) % 4294967296) * 4096) % 4294967296) ((((a1) % 4294967296) * 512) % 4294967296)) ((a2) % 4294967296)) 256) % 256) [.int .u8 ((Go.bits .or .u32 (Go.bits .or .u32 (Go.bits .or .u32 ((((t104) % 4294967296) * 4096) % 4294967296) ((((a1) % 4294967296) * 512) % 4294967296)) ((a2) % 4294967296)) 256) % 256)] from rfl) (Reps.none _ _)))))); intro v107 w20 ho21 hb hg_ hnew_; clear hg_ hnew_; (first | rw [← Ny106.out] at ho21 | (simp only [Int.reduceToNat] at ho21; rw [← Ny106.out] at ho21)); have n0_ := Aside0.mk (Kd.R_elder' (by (with_reducible repeat (first | apply Kd.R_alloc | apply Kd.R_drewN | apply Kd.R_drew)); exact HO_8.out) (Kd.R_base ho21) hb); have n1_ := Aside0.mk (Kd.R_lower (Kd.R_new' ho21 (Kd.R_lt (by (with_reducible repeat (first | apply Kd.R_alloc | apply Kd.R_drewN | apply Kd.R_drew)); exact HO_8.out))) (below_size (by repeat (first | (with_reducible first | exact HB.out | apply below_alloc | apply pw_below_drewN | apply below_drew1 | refine below_set ?_ GE103.out) | exact HB.out)))); have n2_ := Aside0.mk (blk_below (g := gb103) (o := .cells #[.int .i64 ((rd_T30 l0 x35_2).f0), .int .i64 ((rd_T30 l0 x35_2).f1)] 30 (0, 0)) (by (with_reducible repeat (first | refine blk_drewN ?_ _ | refine blk_drew ?_ | refine blk_alloc ?_ _)); exact BK103.out) hb); have n3_ := Aside0.mk (below_step (by repeat (first | (with_reducible first | exact HB.out | apply below_alloc | apply pw_below_drewN | apply below_drew1 | refine below_set ?_ GE103.out) | exact HB.out)) hb); clear HO_8; clear BK103; clear HB; have HO_8 := n0_; have HO108 := n1_; have BK103 := n2_; have HB := n3_; clear n0_ n1_ n2_ n3_; clear hb ho21; obtain ⟨Ao23, co23, eo23⟩ := Kd.R_slice HO108.out; subst eo23) | ((with_reducible refine gate_builtin (b := .append) (xs := #[.tmp 65, .tmp 77]) rfl ?_); at_builtin; refine Kd.R_append_rows (Kd.int .u8) (w0 := w) w.heap.size rfl (.tmp 65) (.tmp 77) 24 5 (.int .u8 0) 1 rfl Try.underlying24 info5 rfl (by decide) (by omega) u8 x8_2 y106 _ _ _ (fun k_ => some k_ ≠ (.slice Ao23 y106.length co23 : Value).ownBlock) (fun _ => False) rfl rfl ?aO ?aR (fun _ _ h => h) (fun _ h => h.elim) ?aF ?aB ?aS ?aL ?_; (case aR => repeat (first | exact (Kd.R_reads' HO108.out).2.2 | (with_reducible refine Kd.C_alloc ?_ _) | (with_reducible refine Kd.C_drewN ?_ _) | (with_reducible refine Kd.C_drew ?_))); (case aB => exact (by repeat (first | (with_reducible first | exact HB.out | apply below_alloc | apply pw_below_drewN | apply below_drew1 | refine below_set ?_ GE103.out) | exact HB.out))); (case aF => exact (fun k_ hk => Kd.fresh' (Kd.R_lt (by (with_reducible repeat (first | apply Kd.R_alloc | apply Kd.R_drewN | apply Kd.R_drew)); exact HO108.out)) k_ hk)); (case aO => exact (by (with_reducible repeat (first | apply Kd.R_alloc | apply Kd.R_drewN | apply Kd.R_drew)); exact Kd.R_mono HO_8.out (fun _ hk => hk.2))); (case aS => exact (below_size (by repeat (first | (with_reducible first | exact HB.out | apply below_alloc | apply pw_below_drewN | apply below_drew1 | refine below_set ?_ GE103.out) | exact HB.out)))); (case aL => have := LMc16.out; omega); intro v110 w22 ho hb hg hat; rw [← Ny109.out] at ho; have n0_ := Aside0.mk (blk_grown (g := gb103) (o := .cells #[.int .i64 ((rd_T30 l0 x35_2).f0), .int .i64 ((rd_T30 l0 x35_2).f1)] 30 (0, 0)) (by (with_reducible repeat (first | refine blk_drewN ?_ _ | refine blk_drew ?_ | refine blk_alloc ?_ _)); exact BK103.out) hg (Kd.R_ne HO_8.out BK103.out (by decide))); have n1_ := Aside0.mk (Kd.R_after (ok := (fun _ => True)) (by (with_reducible repeat (first | apply Kd.R_alloc | apply Kd.R_drewN | apply Kd.R_drew)); exact HO108.out) hg hat); have n2_ := Aside0.mk (hb); have n3_ := Aside0.mk (ho); clear BK103; clear HO108; clear HB; clear HO_8; have BK103 := n0_; have HO108 := n1_; have HB := n2_; have HO111 := n3_; clear n0_ n1_ n2_ n3_; clear ho hb hg hat))
                          go_roundg k2
                          case measure => have := HJ3.out; have := HK2.out; omega
                          case rel => exact ⟨(y109), (wrap64 (x35_2 + 1)), (by first | rfl | (simp; done) | (simp [*]; done)), H', ⟨by have := HJ3.out; have := HK2.out; omega⟩, ⟨by (with_reducible repeat (first | apply Kd.R_alloc | apply Kd.R_drewN | apply Kd.R_drew)); exact Kd.R_mono HO111.out (fun _ hk => trivial)⟩, ⟨by repeat (first | (with_reducible first | exact HB.out | apply below_alloc | apply pw_below_drewN | apply below_drew1 | refine below_set ?_ GE103.out) | exact HB.out)⟩⟩
                        · rw [if_neg c16] at H
                          exact absurd H (by simp)
                      · rw [if_neg c15] at H
                        have c15b0 : (x35_2 == (wrap64 ((l0.length : Int) - 1))) = false := beq_eq_false_iff_ne.mpr c15
                        have c15b1 : (x35_2 != (wrap64 ((l0.length : Int) - 1))) = true := bne_iff_ne.mpr c15
                        obtain ⟨y112, hy112⟩ : ∃ y_ : List Int, y_ = (([((Go.bits .or .u32 (Go.bits .or .u32 ((((t104) % 4294967296) * 4096) % 4294967296) ((((a1) % 4294967296) * 512) % 4294967296)) ((a2) % 4294967296)) / 16777216) % 256, ((Go.bits .or .u32 (Go.bits .or .u32 ((((t104) % 4294967296) * 4096) % 4294967296) ((((a1) % 4294967296) * 512) % 4294967296)) ((a2) % 4294967296)) / 65536) % 256, ((Go.bits .or .u32 (Go.bits .or .u32 ((((t104) % 4294967296) * 4096) % 4294967296) ((((a1) % 4294967296) * 512) % 4294967296)) ((a2) % 4294967296)) / 256) % 256, (Go.bits .or .u32 (Go.bits .or .u32 ((((t104) % 4294967296) * 4096) % 4294967296) ((((a1) % 4294967296) * 512) % 4294967296)) ((a2) % 4294967296)) % 256] : List Int)) := ⟨_, rfl⟩
                        replace H : (if x8_2.length + y112.length < 140737488355328 then (labels_Pack.l0 k2 l0 a1 a2 (x8_2 ++ y112) l0 (l0.length : Int) (wrap64 (x35_2 + 1))) else (none)) = some (r1, r2) := by first | (rw [hy112]; with_reducible exact H) | (have H2_ := (Option.bind_some _ _).symm.trans H; rw [hy112]; with_reducible exact H2_) | (have H2_ := (Option.bind_some _ _).symm.trans H; with_reducible exact H2_) | with_reducible exact H | (rw [hy112]; exact H) | exact H
                        have Ny112 := Aside0.mk hy112
                        clear hy112
                        by_cases c24 : x8_2.length + y112.length < 140737488355328
                        · rw [if_pos c24] at H
                          have LMc24 := Aside0.mk c24
                          clear c24
                          obtain ⟨y115, hy115⟩ : ∃ y_ : List Int, y_ = (x8_2 ++ y112) := ⟨_, rfl⟩
                          replace H : (labels_Pack.l0 k2 l0 a1 a2 y115 l0 (l0.length : Int) (wrap64 (x35_2 + 1))) = some (r1, r2) := by first | (rw [hy115]; with_reducible exact H) | (have H2_ := (Option.bind_some _ _).symm.trans H; rw [hy115]; with_reducible exact H2_) | (have H2_ := (Option.bind_some _ _).symm.trans H; with_reducible exact H2_) | with_reducible exact H | (rw [hy115]; exact H) | exact H
                          have Ny115 := Aside0.mk hy115
                          clear hy115
                          have H' := Aside0.mk H
                          clear H
                          have p102 : 0 ≤ (x35_2 : Int) := of_decide_eq_true (by first | (with_reducible assumption) | assumption)
                          have q102 : x35_2 < (l0.length : Int) := of_decide_eq_true (by first | (with_reducible assumption) | assumption)
                          obtain ⟨ad102, e102, hx102_0, hx102_1⟩ := at_T30 HR0.out x35_2 p102 q102
                          cases e102
                          replace hx102_0 := (HB.out.cell (World.block_lt_of_cell? w _ hx102_0)).trans hx102_0
                          replace hx102_1 := (HB.out.cell (World.block_lt_of_cell? w _ hx102_1)).trans hx102_1
                          replace p102 := eq_true p102
                          replace q102 := eq_true q102
                          go_wp2_with (first | ((with_reducible refine gate_dst (N := 10) rfl ?_); refine box_event ?hg (N := 10) ?hd (cs := #[.int .i64 0, .int .i64 0]) (t := 30) ?hr ?_; (case hd => rfl); (case hg => rfl); (case hr => first | (go_simp; done) | (go_simp; rfl)); intro gb103 hg w25 hbox hb; have n0_ := Aside0.mk (Kd.R_below (by (with_reducible repeat (first | apply Kd.R_alloc | apply Kd.R_drewN | apply Kd.R_drew)); exact HO_8.out) hb); have n1_ := Aside0.mk (below_step (by repeat (first | (with_reducible first | exact HB.out | apply below_alloc | apply pw_below_drewN | apply below_drew1) | exact HB.out)) hb); have n2_ := Aside0.mk (hbox); have n3_ := Aside0.mk ((by rw [hg]; exact (below_size (by repeat (first | (with_reducible first | exact HB.out | apply below_alloc | apply pw_below_drewN | apply below_drew1) | exact HB.out))) : w.heap.size ≤ gb103)); have n4_ := Aside0.mk ((by rw [hg]; exact (below_size (by repeat (first | (with_reducible first | exact HB.out | apply below_alloc | apply pw_below_drewN | apply below_drew1) | exact HB.out))) : w.heap.size ≤ gb103)); clear HO_8; clear HB; have HO_8 := n0_; have HB := n1_; have BK103 := n2_; have GW103 := n3_; have GE103 := n4_; clear n0_ n1_ n2_ n3_ n4_; clear hb hbox hg; have hcz26_0 : w25.cell? ⟨gb103, 0, none⟩ = some (.int .i64 0) := (blk_cell BK103.out 0).trans rfl; have hcz26_1 : w25.cell? ⟨gb103, 1, none⟩ = some (.int .i64 0) := (blk_cell BK103.out 1).trans rfl; have hfz26_0 := blk_frozen BK103.out 0; have hfz26_1 := blk_frozen BK103.out 1) | ((with_reducible refine gate_callee (f := 13) rfl ?_); refine goesL_ (some 42) rfl rfl Try.func13 (by kernel_rfl) rfl #[.agg #[.int .i64 ((rd_T30 l0 x35_2).f0), .int .i64 ((rd_T30 l0 x35_2).f1)]] rfl (by (try simp only [List.map_toArray, List.map_cons, List.map_nil]); first | done | rfl | (simp only [List.length_drop, List.length_take]; rfl)) ?_; (with_reducible refine (labels_Encode.calls ((rd_T30 l0 x35_2).f0) ((rd_T30 l0 x35_2).f1) t104 t105 _ A13.out).mono ?_); rintro e w27 ⟨rfl, hb⟩; refine ⟨_, rfl, ?_⟩; have n0_ := Aside0.mk (Kd.R_below (by (with_reducible repeat (first | apply Kd.R_alloc | apply Kd.R_drewN | apply Kd.R_drew)); exact (Kd.R_mono (Kd.R_far (p := ⟨gb103, 1, none⟩) (Kd.R_far (p := ⟨gb103, 0, none⟩) (Kd.R_types HO_8.out BK103.out (by decide)) (fun _ hk => hk.2) (.int .i64 ((rd_T30 l0 x35_2).f0))) (fun _ hk => hk.2) (.int .i64 ((rd_T30 l0 x35_2).f1))) (fun _ h_ => h_.1))) hb); have n1_ := Aside0.mk (blk_below (g := gb103) (o := .cells #[.int .i64 ((rd_T30 l0 x35_2).f0), .int .i64 ((rd_T30 l0 x35_2).f1)] 30 (0, 0)) (by (with_reducible repeat (first | refine blk_drewN ?_ _ | refine blk_drew ?_ | refine blk_alloc ?_ _)); refine blk_put (cs := #[.int .i64 ((rd_T30 l0 x35_2).f0), .int .i64 0]) ?_ 1 _ rfl; (with_reducible repeat (first | refine blk_drewN ?_ _ | refine blk_drew ?_ | refine blk_alloc ?_ _)); refine blk_put (cs := #[.int .i64 0, .int .i64 0]) ?_ 0 _ rfl; (with_reducible repeat (first | refine blk_drewN ?_ _ | refine blk_drew ?_ | refine blk_alloc ?_ _)); exact BK103.out) hb); have n2_ := Aside0.mk (below_step (by repeat (first | (with_reducible first | exact HB.out | apply below_alloc | apply pw_below_drewN | apply below_drew1 | refine below_set ?_ GE103.out) | exact HB.out)) hb); clear HO_8; clear BK103; clear HB; have HO_8 := n0_; have BK103 := n1_; have HB := n2_; clear n0_ n1_ n2_; (try clear hb); (try clear hb2); (try clear hk); (try clear hi)) | ((with_reducible refine gate_dst (N := 77) rfl ?_); refine Kd.R_lit (Kd.int .u8) _ 5 ?hg (N := 77) ?hd (xs := ([((Go.bits .or .u32 (Go.bits .or .u32 ((((t104) % 4294967296) * 4096) % 4294967296) ((((a1) % 4294967296) * 512) % 4294967296)) ((a2) % 4294967296)) / 16777216) % 256, ((Go.bits .or .u32 (Go.bits .or .u32 ((((t104) % 4294967296) * 4096) % 4294967296) ((((a1) % 4294967296) * 512) % 4294967296)) ((a2) % 4294967296)) / 65536) % 256, ((Go.bits .or .u32 (Go.bits .or .u32 ((((t104) % 4294967296) * 4096) % 4294967296) ((((a1) % 4294967296) * 512) % 4294967296)) ((a2) % 4294967296)) / 256) % 256, (Go.bits .or .u32 (Go.bits .or .u32 ((((t104) % 4294967296) * 4096) % 4294967296) ((((a1) % 4294967296) * 512) % 4294967296)) ((a2) % 4294967296)) % 256] : List Int)) (inner := [.int .u8 (((Go.bits .or .u32 (Go.bits .or .u32 ((((t104) % 4294967296) * 4096) % 4294967296) ((((a1) % 4294967296) * 512) % 4294967296)) ((a2) % 4294967296)) / 16777216) % 256), .int .u8 (((Go.bits .or .u32 (Go.bits .or .u32 ((((t104) % 4294967296) * 4096) % 4294967296) ((((a1) % 4294967296) * 512) % 4294967296)) ((a2) % 4294967296)) / 65536) % 256), .int .u8 (((Go.bits .or .u32 (Go.bits .or .u32 ((((t104) % 4294967296) * 4096) % 4294967296) ((((a1) % 4294967296) * 512) % 4294967296)) ((a2) % 4294967296)) / 256) % 256), .int .u8 ((Go.bits .or .u32 (Go.bits .or .u32 ((((t104) % 4294967296) * 4096) % 4294967296) ((((a1) % 4294967296) * 512) % 4294967296)) ((a2) % 4294967296)) % 256)]) (ok := fun _ => True) (okp := fun _ => True) ?hr ?hp (fun _ hk => hk) trivial (Below.refl _ _) (Nat.le_refl _) (by simp) ?_; (case hd => rfl); (case hg => rfl); (case hr => first | (go_simp; done) | (go_simp; rfl)); (case hp => exact (Reps.one (show Kd.M (Kd.int .u8) _ _ _ (((Go.bits .or .u32 (Go.bits .or .u32 ((((t104) % 4294967296) * 4096) % 4294967296) ((((a1) % 4294967296) * 512) % 4294967296)) ((a2) % 4294967296)) / 16777216) % 256) [.int .u8 (((Go.bits .or .u32 (Go.bits .or .u32 ((((t104) % 4294967296) * 4096) % 4294967296) ((((a1) % 4294967296) * 512) % 4294967296)) ((a2) % 4294967296)) / 16777216) % 256)] from rfl) (Reps.one (show Kd.M (Kd.int .u8) _ _ _ (((Go.bits .or .u32 (Go.bits .or .u32 ((((t104) % 4294967296) * 4096) % 4294967296) ((((a1) % 4294967296) * 512) % 4294967296)) ((a2) % 4294967296)) / 65536) % 256) [.int .u8 (((Go.bits .or .u32 (Go.bits .or .u32 ((((t104) % 4294967296) * 4096) % 4294967296) ((((a1) % 4294967296) * 512) % 4294967296)) ((a2) % 4294967296)) / 65536) % 256)] from rfl) (Reps.one (show Kd.M (Kd.int .u8) _ _ _ (((Go.bits .or .u32 (Go.bits .or .u32 ((((t104) % 4294967296) * 4096) % 4294967296) ((((a1) % 4294967296) * 512) % 4294967296)) ((a2) % 4294967296)) / 256) % 256) [.int .u8 (((Go.bits .or .u32 (Go.bits .or .u32 ((((t104) % 4294967296) * 4096) % 4294967296) ((((a1) % 4294967296) * 512) % 4294967296)) ((a2) % 4294967296)) / 256) % 256)] from rfl) (Reps.one (show Kd.M (Kd.int .u8) _ _ _ ((Go.bits .or .u32 (Go.bits .or .u32 ((((t104) % 4294967296) * 4096) % 4294967296) ((((a1) % 4294967296) * 512) % 4294967296)) ((a2) % 4294967296)) % 256) [.int .u8 ((Go.bits .or .u32 (Go.bits .or .u32 ((((t104) % 4294967296) * 4096) % 4294967296) ((((a1) % 4294967296) * 512) % 4294967296)) ((a2) % 4294967296)) % 256)] from rfl) (Reps.none _ _)))))); intro v113 w28 ho29 hb hg_ hnew_; clear hg_ hnew_; (first | rw [← Ny112.out] at ho29 | (simp only [Int.reduceToNat] at ho29; rw [← Ny112.out] at ho29)); have n0_ := Aside0.mk (Kd.R_elder' (by (with_reducible repeat (first | apply Kd.R_alloc | apply Kd.R_drewN | apply Kd.R_drew)); exact HO_8.out) (Kd.R_base ho29) hb); have n1_ := Aside0.mk (Kd.R_lower (Kd.R_new' ho29 (Kd.R_lt (by (with_reducible repeat (first | apply Kd.R_alloc | apply Kd.R_drewN | apply Kd.R_drew)); exact HO_8.out))) (below_size (by repeat (first | (with_reducible first | exact HB.out | apply below_alloc | apply pw_below_drewN | apply below_drew1 | refine below_set ?_ GE103.out) | exact HB.out)))); have n2_ := Aside0.mk (blk_below (g := gb103) (o := .cells #[.int .i64 ((rd_T30 l0 x35_2).f0), .int .i64 ((rd_T30 l0 x35_2).f1)] 30 (0, 0)) (by (with_reducible repeat (first | refine blk_drewN ?_ _ | refine blk_drew ?_ | refine blk_alloc ?_ _)); exact BK103.out) hb); have n3_ := Aside0.mk (below_step (by repeat (first | (with_reducible first | exact HB.out | apply below_alloc | apply pw_below_drewN | apply below_drew1 | refine below_set ?_ GE103.out) | exact HB.out)) hb); clear HO_8; clear BK103; clear HB; have HO_8 := n0_; have HO114 := n1_; have BK103 := n2_; have HB := n3_; clear n0_ n1_ n2_ n3_; clear hb ho29; obtain ⟨Ao31, co31, eo31⟩ := Kd.R_slice HO114.out; subst eo31) | ((with_reducible refine gate_builtin (b := .append) (xs := #[.tmp 65, .tmp 77]) rfl ?_); at_builtin; refine Kd.R_append_rows (Kd.int .u8) (w0 := w) w.heap.size rfl (.tmp 65) (.tmp 77) 24 5 (.int .u8 0) 1 rfl Try.underlying24 info5 rfl (by decide) (by omega) u8 x8_2 y112 _ _ _ (fun k_ => some k_ ≠ (.slice Ao31 y112.length co31 : Value).ownBlock) (fun _ => False) rfl rfl ?aO ?aR (fun _ _ h => h) (fun _ h => h.elim) ?aF ?aB ?aS ?aL ?_; (case aR => repeat (first | exact (Kd.R_reads' HO114.out).2.2 | (with_reducible refine Kd.C_alloc ?_ _) | (with_reducible refine Kd.C_drewN ?_ _) | (with_reducible refine Kd.C_drew ?_))); (case aB => exact (by repeat (first | (with_reducible first | exact HB.out | apply below_alloc | apply pw_below_drewN | apply below_drew1 | refine below_set ?_ GE103.out) | exact HB.out))); (case aF => exact (fun k_ hk => Kd.fresh' (Kd.R_lt (by (with_reducible repeat (first | apply Kd.R_alloc | apply Kd.R_drewN | apply Kd.R_drew)); exact HO114.out)) k_ hk)); (case aO => exact (by (with_reducible repeat (first | apply Kd.R_alloc | apply Kd.R_drewN | apply Kd.R_drew)); exact Kd.R_mono HO_8.out (fun _ hk => hk.2))); (case aS => exact (below_size (by repeat (first | (with_reducible first | exact HB.out | apply below_alloc | apply pw_below_drewN | apply below_drew1 | refine below_set ?_ GE103.out) | exact HB.out)))); (case aL => have := LMc24.out; omega); intro v116 w30 ho hb hg hat; rw [← Ny115.out] at ho; have n0_ := Aside0.mk (blk_grown (g := gb103) (o := .cells #[.int .i64 ((rd_T30 l0 x35_2).f0), .int .i64 ((rd_T30 l0 x35_2).f1)] 30 (0, 0)) (by (with_reducible repeat (first | refine blk_drewN ?_ _ | refine blk_drew ?_ | refine blk_alloc ?_ _)); exact BK103.out) hg (Kd.R_ne HO_8.out BK103.out (by decide))); have n1_ := Aside0.mk (Kd.R_after (ok := (fun _ => True)) (by (with_reducible repeat (first | apply Kd.R_alloc | apply Kd.R_drewN | apply Kd.R_drew)); exact HO114.out) hg hat); have n2_ := Aside0.mk (hb); have n3_ := Aside0.mk (ho); clear BK103; clear HO114; clear HB; clear HO_8; have BK103 := n0_; have HO114 := n1_; have HB := n2_; have HO117 := n3_; clear n0_ n1_ n2_ n3_; clear ho hb hg hat))
                          go_roundg k2
                          case measure => have := HJ3.out; have := HK2.out; omega
                          case rel => exact ⟨(y115), (wrap64 (x35_2 + 1)), (by first | rfl | (simp; done) | (simp [*]; done)), H', ⟨by have := HJ3.out; have := HK2.out; omega⟩, ⟨by (with_reducible repeat (first | apply Kd.R_alloc | apply Kd.R_drewN | apply Kd.R_drew)); exact Kd.R_mono HO117.out (fun _ hk => trivial)⟩, ⟨by repeat (first | (with_reducible first | exact HB.out | apply below_alloc | apply pw_below_drewN | apply below_drew1 | refine below_set ?_ GE103.out) | exact HB.out)⟩⟩
                        · rw [if_neg c24] at H
                          exact absurd H (by simp)
                    · rw [if_neg c14] at H
                      have c14b0 : (t105 == 0) = false := beq_eq_false_iff_ne.mpr c14
                      have c14b1 : (t105 != 0) = true := bne_iff_ne.mpr c14
                      simp only [Option.some.injEq, Prod.mk.injEq] at H
                      obtain ⟨rfl, rfl⟩ := H
                      have p102 : 0 ≤ (x35_2 : Int) := of_decide_eq_true (by first | (with_reducible assumption) | assumption)
                      have q102 : x35_2 < (l0.length : Int) := of_decide_eq_true (by first | (with_reducible assumption) | assumption)
                      obtain ⟨ad102, e102, hx102_0, hx102_1⟩ := at_T30 HR0.out x35_2 p102 q102
                      cases e102
                      replace hx102_0 := (HB.out.cell (World.block_lt_of_cell? w _ hx102_0)).trans hx102_0
                      replace hx102_1 := (HB.out.cell (World.block_lt_of_cell? w _ hx102_1)).trans hx102_1
                      replace p102 := eq_true p102
                      replace q102 := eq_true q102
                      go_wp2_with (first | ((with_reducible refine gate_dst (N := 10) rfl ?_); refine box_event ?hg (N := 10) ?hd (cs := #[.int .i64 0, .int .i64 0]) (t := 30) ?hr ?_; (case hd => rfl); (case hg => rfl); (case hr => first | (go_simp; done) | (go_simp; rfl)); intro gb103 hg w32 hbox hb; have n0_ := Aside0.mk (Kd.R_below (by (with_reducible repeat (first | apply Kd.R_alloc | apply Kd.R_drewN | apply Kd.R_drew)); exact HO_8.out) hb); have n1_ := Aside0.mk (below_step (by repeat (first | (with_reducible first | exact HB.out | apply below_alloc | apply pw_below_drewN | apply below_drew1) | exact HB.out)) hb); have n2_ := Aside0.mk (hbox); have n3_ := Aside0.mk ((by rw [hg]; exact (below_size (by repeat (first | (with_reducible first | exact HB.out | apply below_alloc | apply pw_below_drewN | apply below_drew1) | exact HB.out))) : w.heap.size ≤ gb103)); have n4_ := Aside0.mk ((by rw [hg]; exact (below_size (by repeat (first | (with_reducible first | exact HB.out | apply below_alloc | apply pw_below_drewN | apply below_drew1) | exact HB.out))) : w.heap.size ≤ gb103)); clear HO_8; clear HB; have HO_8 := n0_; have HB := n1_; have BK103 := n2_; have GW103 := n3_; have GE103 := n4_; clear n0_ n1_ n2_ n3_ n4_; clear hb hbox hg; have hcz33_0 : w32.cell? ⟨gb103, 0, none⟩ = some (.int .i64 0) := (blk_cell BK103.out 0).trans rfl; have hcz33_1 : w32.cell? ⟨gb103, 1, none⟩ = some (.int .i64 0) := (blk_cell BK103.out 1).trans rfl; have hfz33_0 := blk_frozen BK103.out 0; have hfz33_1 := blk_frozen BK103.out 1) | ((with_reducible refine gate_callee (f := 13) rfl ?_); refine goesL_ (some 42) rfl rfl Try.func13 (by kernel_rfl) rfl #[.agg #[.int .i64 ((rd_T30 l0 x35_2).f0), .int .i64 ((rd_T30 l0 x35_2).f1)]] rfl (by (try simp only [List.map_toArray, List.map_cons, List.map_nil]); first | done | rfl | (simp only [List.length_drop, List.length_take]; rfl)) ?_; (with_reducible refine (labels_Encode.calls ((rd_T30 l0 x35_2).f0) ((rd_T30 l0 x35_2).f1) t104 t105 _ A13.out).mono ?_); rintro e w34 ⟨rfl, hb⟩; refine ⟨_, rfl, ?_⟩; have n0_ := Aside0.mk (Kd.R_below (by (with_reducible repeat (first | apply Kd.R_alloc | apply Kd.R_drewN | apply Kd.R_drew)); exact (Kd.R_mono (Kd.R_far (p := ⟨gb103, 1, none⟩) (Kd.R_far (p := ⟨gb103, 0, none⟩) (Kd.R_types HO_8.out BK103.out (by decide)) (fun _ hk => hk.2) (.int .i64 ((rd_T30 l0 x35_2).f0))) (fun _ hk => hk.2) (.int .i64 ((rd_T30 l0 x35_2).f1))) (fun _ h_ => h_.1))) hb); have n1_ := Aside0.mk (blk_below (g := gb103) (o := .cells #[.int .i64 ((rd_T30 l0 x35_2).f0), .int .i64 ((rd_T30 l0 x35_2).f1)] 30 (0, 0)) (by (with_reducible repeat (first | refine blk_drewN ?_ _ | refine blk_drew ?_ | refine blk_alloc ?_ _)); refine blk_put (cs := #[.int .i64 ((rd_T30 l0 x35_2).f0), .int .i64 0]) ?_ 1 _ rfl; (with_reducible repeat (first | refine blk_drewN ?_ _ | refine blk_drew ?_ | refine blk_alloc ?_ _)); refine blk_put (cs := #[.int .i64 0, .int .i64 0]) ?_ 0 _ rfl; (with_reducible repeat (first | refine blk_drewN ?_ _ | refine blk_drew ?_ | refine blk_alloc ?_ _)); exact BK103.out) hb); have n2_ := Aside0.mk (below_step (by repeat (first | (with_reducible first | exact HB.out | apply below_alloc | apply pw_below_drewN | apply below_drew1 | refine below_set ?_ GE103.out) | exact HB.out)) hb); clear HO_8; clear BK103; clear HB; have HO_8 := n0_; have BK103 := n1_; have HB := n2_; clear n0_ n1_ n2_; (try clear hb); (try clear hb2); (try clear hk); (try clear hi)))
                      go_ret2
                      exact ⟨_, by first | rfl | (simp [errW_none, errW_some] <;> rfl) | (simp [*, errW_none, errW_some] <;> rfl), by first | exact Kd.R_nil _ _ _ _ _ | exact Kd.N_nil _ _ _ _ _ | exact Kd.V_nil _ _ _ _ _ | exact Kd.Q_nil _ _ _ _ _ | exact Kd.S_nil _ _ _ _ _, by repeat (first | (with_reducible first | exact HB.out | apply below_alloc | apply pw_below_drewN | apply below_drew1 | refine below_set ?_ GE103.out) | exact HB.out)⟩
                  · rw [if_neg c12] at H
                    exact absurd H (by simp)
                · rw [if_neg c11] at H
                  exact absurd H (by simp)
              · rw [if_neg c10] at H
                have c10b0 : decide (x35_2 < (l0.length : Int)) = false := decide_eq_false c10
                clear c10
                simp only [Option.some.injEq, Prod.mk.injEq] at H
                obtain ⟨rfl, rfl⟩ := H
                go_wp2
                go_ret2
                exact ⟨_, by first | rfl | (simp [errW_none, errW_some] <;> rfl) | (simp [*, errW_none, errW_some] <;> rfl), by (with_reducible repeat (first | apply Kd.R_alloc | apply Kd.R_drewN | apply Kd.R_drew)); exact HO_8.out, by repeat (first | (with_reducible first | exact HB.out | apply below_alloc | apply pw_below_drewN | apply below_drew1) | exact HB.out)⟩

end Go.Proofs.Ytbphaaaobgmejaa.PT19

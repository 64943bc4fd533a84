-- WRITTEN BY mygen.py, a program of mine over the kit's print; Lean checks every row
import Derived.Test.YtbphaaaobgmejaaPT190
import Derived.Test.YtbphaaaobgmejaaPT197
namespace Go.Proofs.Ytbphaaaobgmejaa.PT19
open Go.RowKit Go.Proofs.YtbphaaaobgmejaaW.PrintWords Go.Proofs.YtbphaaaobgmejaaW.PrintLast Go.Proofs.YtbphaaaobgmejaaW.PrintMore
attribute [local go_sem] max2_int min2_int max_two min_two max_three min_three max_four min_four   -- for this text's walks alone
set_option linter.unusedVariables false
set_option linter.unusedSimpArgs false

/-! ### waypointref19_Pack: function 12 -/
mutual
def waypointref19_Pack.j0 : Nat → List (S30) → Int → Int → Bool → Option (List Int × Int)
  | 0, _, _, _, _ => none
  | k + 1, x0, x1, x2, x26 => if x26 = true then (some (([] : List Int), 2)) else (if (x0.length : Int) > 32 then (some (([] : List Int), 6)) else (waypointref19_Pack.l0 k x0 x1 x2 ([] : List Int) 0))
def waypointref19_Pack.l0 : Nat → List (S30) → Int → Int → List Int → Int → Option (List Int × Int)
  | 0, _, _, _, _, _ => none
  | k + 1, x0, x1, x2, x8, x9 => if x9 < (x0.length : Int) then (if 0 ≤ x9 then ((waypointref19_Encode.f ((rd_T30 x0 x9).f0) ((rd_T30 x0 x9).f1)).bind fun bt131 => (if bt131.2 = 0 then (if x9 = (wrap64 ((x0.length : Int) - 1)) then ((some (([(wrap64 (Int.tdiv (wrap64 (Int.tdiv (wrap64 ((wrap64 ((wrap64 ((wrap64 (bt131.1 * 4096)) + (wrap64 (x1 * 512)))) + x2)) + 256)) 65536)) 256)) % 256, (Int.tmod (wrap64 (Int.tdiv (wrap64 ((wrap64 ((wrap64 ((wrap64 (bt131.1 * 4096)) + (wrap64 (x1 * 512)))) + x2)) + 256)) 65536)) 256) % 256, (Int.tmod (wrap64 (Int.tdiv (wrap64 ((wrap64 ((wrap64 ((wrap64 (bt131.1 * 4096)) + (wrap64 (x1 * 512)))) + x2)) + 256)) 256)) 256) % 256, (Int.tmod (wrap64 ((wrap64 ((wrap64 ((wrap64 (bt131.1 * 4096)) + (wrap64 (x1 * 512)))) + x2)) + 256)) 256) % 256] : List Int) : List Int)).bind fun y133 => (if x8.length + y133.length < 140737488355328 then (waypointref19_Pack.l0 k x0 x1 x2 (x8 ++ y133) (wrap64 (x9 + 1))) else (none))) else ((some (([(wrap64 (Int.tdiv (wrap64 (Int.tdiv (wrap64 ((wrap64 ((wrap64 (bt131.1 * 4096)) + (wrap64 (x1 * 512)))) + x2)) 65536)) 256)) % 256, (Int.tmod (wrap64 (Int.tdiv (wrap64 ((wrap64 ((wrap64 (bt131.1 * 4096)) + (wrap64 (x1 * 512)))) + x2)) 65536)) 256) % 256, (Int.tmod (wrap64 (Int.tdiv (wrap64 ((wrap64 ((wrap64 (bt131.1 * 4096)) + (wrap64 (x1 * 512)))) + x2)) 256)) 256) % 256, (Int.tmod (wrap64 ((wrap64 ((wrap64 (bt131.1 * 4096)) + (wrap64 (x1 * 512)))) + x2)) 256) % 256] : List Int) : List Int)).bind fun y139 => (if x8.length + y139.length < 140737488355328 then (waypointref19_Pack.l0 k x0 x1 x2 (x8 ++ y139) (wrap64 (x9 + 1))) else (none)))) else (some (([] : List Int), bt131.2)))) else (none)) else (some (x8, 0))
end
def waypointref19_Pack.f (k : Nat) (l0 : List (S30)) (a1 : Int) (a2 : Int) : Option (List Int × Int) := if a1 < 0 then (waypointref19_Pack.j0 k l0 a1 a2 true) else (if a1 > 7 then (waypointref19_Pack.j0 k l0 a1 a2 true) else (if a2 < 0 then (waypointref19_Pack.j0 k l0 a1 a2 true) else (waypointref19_Pack.j0 k l0 a1 a2 (decide (a2 > 255)))))
theorem waypointref19_Pack.mono_l : ∀ k, (∀ y0 y1 y2 y3, LeO (waypointref19_Pack.j0 k y0 y1 y2 y3) (waypointref19_Pack.j0 (k + 1) y0 y1 y2 y3)) ∧ (∀ y0 y1 y2 y3 y4, LeO (waypointref19_Pack.l0 k y0 y1 y2 y3 y4) (waypointref19_Pack.l0 (k + 1) y0 y1 y2 y3 y4))
  | 0 => ⟨fun _ _ _ _ r h => by simp [waypointref19_Pack.j0] at h, fun _ _ _ _ _ r h => by simp [waypointref19_Pack.l0] at h⟩
  | k + 1 => by
    obtain ⟨ih0, ih1⟩ := waypointref19_Pack.mono_l k
    refine ⟨?_, ?_⟩
    · intro y0 y1 y2 y3
      unfold waypointref19_Pack.j0
      repeat' first
      | (with_reducible exact ih0 _ _ _ _)
      | (with_reducible exact ih1 _ _ _ _ _)
      | (with_reducible exact LeO.refl _)
      | (with_reducible exact LeO.none _)
      | (with_reducible refine LeO.ite ?_ ?_)
      | (with_reducible refine LeO.bind ?_ (fun _ => ?_))
      | exact ih0 _ _ _ _
      | exact ih1 _ _ _ _ _
      | exact LeO.none _
      | refine LeO.ite ?_ ?_
      | refine LeO.bind ?_ (fun _ => ?_)
    · intro y0 y1 y2 y3 y4
      unfold waypointref19_Pack.l0
      repeat' first
      | (with_reducible exact ih0 _ _ _ _)
      | (with_reducible exact ih1 _ _ _ _ _)
      | (with_reducible exact LeO.refl _)
      | (with_reducible exact LeO.none _)
      | (with_reducible refine LeO.ite ?_ ?_)
      | (with_reducible refine LeO.bind ?_ (fun _ => ?_))
      | exact ih0 _ _ _ _
      | exact ih1 _ _ _ _ _
      | exact LeO.none _
      | refine LeO.ite ?_ ?_
      | refine LeO.bind ?_ (fun _ => ?_)
theorem waypointref19_Pack.mono : ∀ a0 a1 a2 k, LeO (waypointref19_Pack.f k a0 a1 a2) (waypointref19_Pack.f (k + 1) a0 a1 a2) := by
  intro a0 a1 a2 k
  obtain ⟨ih0, ih1⟩ := waypointref19_Pack.mono_l k
  unfold waypointref19_Pack.f
  repeat' first
      | (with_reducible exact ih0 _ _ _ _)
      | (with_reducible exact ih1 _ _ _ _ _)
      | (with_reducible exact LeO.refl _)
      | (with_reducible exact LeO.none _)
      | (with_reducible refine LeO.ite ?_ ?_)
      | (with_reducible refine LeO.bind ?_ (fun _ => ?_))
      | exact ih0 _ _ _ _
      | exact ih1 _ _ _ _ _
      | exact LeO.none _
      | refine LeO.ite ?_ ?_
      | refine LeO.bind ?_ (fun _ => ?_)
set_option maxHeartbeats 8000000 in
set_option maxRecDepth 100000 in
theorem waypointref19_Pack.calls (k : Nat) (A0 : Option Addr) (c0 : Nat) (l0 : List (S30)) (a1 : Int) (a2 : Int) (r1 : List Int) (r2 : Int) (w : World) (hr0 : Kd.C k30 w A0 l0.length l0) (hc0 : l0.length ≤ c0) (h : waypointref19_Pack.f k l0 a1 a2 = some (r1, r2)) :
    Calls Try.prog 12 #[.slice A0 l0.length c0, .int .i64 a1, .int .i64 a2] w fun e w' => ∃ v0_ : Value, e = .returned (.tuple #[v0_, .int .i64 r2]) ∧ Kd.R (Kd.int .u8) 5 w' w.heap.size (fun _ => True) v0_ r1 ∧ Below w.heap.size w w' := by
  have hu30 := Try.underlying30
  have HR0 := Aside0.mk hr0
  have HC0 := Aside0.mk hc0
  clear hr0 hc0
  have HB := Aside0.mk (Below.refl w.heap.size w)
  have H : (if a1 < 0 then (waypointref19_Pack.j0 k l0 a1 a2 true) else (if a1 > 7 then (waypointref19_Pack.j0 k l0 a1 a2 true) else (if a2 < 0 then (waypointref19_Pack.j0 k l0 a1 a2 true) else (waypointref19_Pack.j0 k l0 a1 a2 (decide (a2 > 255)))))) = some (r1, r2) := h
  clear h
  have HC4 := Aside0.mk H
  clear H
  go_enter Try.func12, Try.ntmps12
  go_upto_region 1 with (fail)
  go_cut [26] (fun v26 wc => ∃ (kq : Nat) (x26_3 : Bool), v26 = .bool x26_3 ∧ Aside0 (waypointref19_Pack.j0 kq l0 a1 a2 x26_3 = some (r1, r2)) ∧ Aside0 (kq ≤ k) ∧ Aside0 (Below w.heap.size w wc))
  case first =>
    have H := HC4.out
    clear HC4
    by_cases c5 : a1 < 0
    · rw [if_pos c5] at H
      have c5b0 : decide (a1 < 0) = true := decide_eq_true c5
      clear c5
      (first | rw [c5b0] | (simp only [i64_w, i32_w]; rw [c5b0]) | skip)
      have H' := Aside0.mk H
      clear H
      go_wp2
      go_meet
      case rel => exact ⟨_, (true), (by first | rfl | (simp; done) | (simp [*]; done)), H', ⟨by first | omega | exact Nat.le_refl _⟩, ⟨by repeat (first | (with_reducible first | exact HB.out | apply below_alloc | apply pw_below_drewN | apply below_drew1) | exact HB.out)⟩⟩
    · rw [if_neg c5] at H
      have c5b0 : decide (a1 < 0) = false := decide_eq_false c5
      clear c5
      (first | rw [c5b0] | (simp only [i64_w, i32_w]; rw [c5b0]) | skip)
      by_cases c6 : a1 > 7
      · rw [if_pos c6] at H
        have c6b0 : decide (7 < a1) = true := decide_eq_true c6
        clear c6
        have H' := Aside0.mk H
        clear H
        go_wp2
        go_meet
        case rel => exact ⟨_, (true), (by first | rfl | (simp; done) | (simp [*]; done)), H', ⟨by first | omega | exact Nat.le_refl _⟩, ⟨by repeat (first | (with_reducible first | exact HB.out | apply below_alloc | apply pw_below_drewN | apply below_drew1) | exact HB.out)⟩⟩
      · rw [if_neg c6] at H
        have c6b0 : decide (7 < a1) = false := decide_eq_false c6
        clear c6
        by_cases c7 : a2 < 0
        · rw [if_pos c7] at H
          have c7b0 : decide (a2 < 0) = true := decide_eq_true c7
          clear c7
          have H' := Aside0.mk H
          clear H
          go_wp2
          go_meet
          case rel => exact ⟨_, (true), (by first | rfl | (simp; done) | (simp [*]; done)), H', ⟨by first | omega | exact Nat.le_refl _⟩, ⟨by repeat (first | (with_reducible first | exact HB.out | apply below_alloc | apply pw_below_drewN | apply below_drew1) | exact HB.out)⟩⟩
        · rw [if_neg c7] at H
          have c7b0 : decide (a2 < 0) = false := decide_eq_false c7
          clear c7
          have H' := Aside0.mk H
          clear H
          go_wp2
          go_meet
          case rel => exact ⟨_, (decide (a2 > 255)), (by first | rfl | (simp; done) | (simp [*]; done)), H', ⟨by first | omega | exact Nat.le_refl _⟩, ⟨by repeat (first | (with_reducible first | exact HB.out | apply below_alloc | apply pw_below_drewN | apply below_drew1) | exact HB.out)⟩⟩
  case rest =>
    clear HC4
    try clear c1
    try clear p2
    try clear c5
    try clear c5b0
    try clear c6
    try clear c6b0
    try clear c7
    try clear c7b0
    obtain ⟨kq, x26_3, rfl, HA, HJ3, HB⟩ := hcut
    cases kq with
    | zero => exact absurd HA.out (by simp [waypointref19_Pack.j0])
    | succ kj3 =>
      have H := HA.out
      clear HA
      simp only [waypointref19_Pack.j0] at H
      by_cases c8 : x26_3 = true
      · subst c8
        have H1 : (some (([] : List Int), 2)) = some (r1, r2) := by rw [if_pos rfl] at H; exact H
        clear H
        have H := H1
        clear H1
        simp only [Option.some.injEq, Prod.mk.injEq] at H
        obtain ⟨rfl, rfl⟩ := H
        go_wp2
        go_ret2
        exact ⟨_, by first | rfl | (simp [errW_none, errW_some] <;> rfl) | (simp [*, errW_none, errW_some] <;> rfl), by first | exact Kd.R_nil _ _ _ _ _ | exact Kd.N_nil _ _ _ _ _ | exact Kd.V_nil _ _ _ _ _ | exact Kd.Q_nil _ _ _ _ _ | exact Kd.S_nil _ _ _ _ _, by repeat (first | (with_reducible first | exact HB.out | apply below_alloc | apply pw_below_drewN | apply below_drew1) | exact HB.out)⟩
      · replace c8 := Bool.eq_false_iff.mpr c8
        subst c8
        have H1 : (if (l0.length : Int) > 32 then (some (([] : List Int), 6)) else (waypointref19_Pack.l0 kj3 l0 a1 a2 ([] : List Int) 0)) = some (r1, r2) := by rw [if_neg (show ¬ (false = true) by decide)] at H; exact H
        clear H
        have H := H1
        clear H1
        by_cases c9 : (l0.length : Int) > 32
        · rw [if_pos c9] at H
          have c9b0 : decide (32 < (l0.length : Int)) = true := decide_eq_true c9
          have c9b1 : decide (32 < l0.length) = true := decide_eq_true (by omega)
          clear c9
          simp only [Option.some.injEq, Prod.mk.injEq] at H
          obtain ⟨rfl, rfl⟩ := H
          go_wp2
          go_ret2
          exact ⟨_, by first | rfl | (simp [errW_none, errW_some] <;> rfl) | (simp [*, errW_none, errW_some] <;> rfl), by first | exact Kd.R_nil _ _ _ _ _ | exact Kd.N_nil _ _ _ _ _ | exact Kd.V_nil _ _ _ _ _ | exact Kd.Q_nil _ _ _ _ _ | exact Kd.S_nil _ _ _ _ _, by repeat (first | (with_reducible first | exact HB.out | apply below_alloc | apply pw_below_drewN | apply below_drew1) | exact HB.out)⟩
        · rw [if_neg c9] at H
          have c9b0 : decide (32 < (l0.length : Int)) = false := decide_eq_false c9
          have c9b1 : decide (32 < l0.length) = false := decide_eq_false (by omega)
          clear c9
          have H' := Aside0.mk H
          clear H
          go_wp2
          go_loopg [8, 9] kj3 (fun kq v8 v9 w' => ∃ (x8_2 : List Int) (x9_2 : Int), v9 = .int .i64 x9_2 ∧ Aside0 (waypointref19_Pack.l0 kq l0 a1 a2 x8_2 x9_2 = some (r1, r2)) ∧ Aside0 (kq ≤ kj3) ∧ Aside0 (Kd.R (Kd.int .u8) 5 w' w.heap.size (fun _ => True) v8 x8_2) ∧ Aside0 (Below w.heap.size w w'))
          case atStart => exact ⟨(([] : List Int)), (0), (by first | rfl | (simp; done) | (simp [*]; done)), H', ⟨Nat.le_refl _⟩, ⟨by first | exact Kd.R_nil _ _ _ _ _ | exact Kd.N_nil _ _ _ _ _ | exact Kd.V_nil _ _ _ _ _ | exact Kd.Q_nil _ _ _ _ _ | exact Kd.S_nil _ _ _ _ _⟩, ⟨by repeat (first | (with_reducible first | exact HB.out | apply below_alloc | apply pw_below_drewN | apply below_drew1) | exact HB.out)⟩⟩
          case round =>
            clear H'
            try clear c1
            try clear p2
            try clear c5
            try clear c5b0
            try clear c6
            try clear c6b0
            try clear c7
            try clear c7b0
            try clear c8
            try clear c9
            try clear c9b0
            try clear c9b1
            try clear p2
            obtain ⟨x8_2, x9_2, rfl, HA, HK2, HO_8, HB⟩ := hrel
            cases gk with
            | zero => exact absurd HA.out (by simp [waypointref19_Pack.l0])
            | succ k2 =>
              have H := HA.out
              clear HA
              simp only [waypointref19_Pack.l0] at H
              by_cases c10 : x9_2 < (l0.length : Int)
              · rw [if_pos c10] at H
                have c10b0 : decide (x9_2 < (l0.length : Int)) = true := decide_eq_true c10
                clear c10
                by_cases c11 : 0 ≤ x9_2
                · rw [if_pos c11] at H
                  have c11b0 : decide (0 ≤ x9_2) = true := decide_eq_true c11
                  clear c11
                  replace H := Option.bind_eq_some_iff.mp H
                  obtain ⟨⟨t131, t132⟩, A120, H⟩ := H
                  replace H : (if t132 = 0 then (if x9_2 = (wrap64 ((l0.length : Int) - 1)) then ((some (([(wrap64 (Int.tdiv (wrap64 (Int.tdiv (wrap64 ((wrap64 ((wrap64 ((wrap64 (t131 * 4096)) + (wrap64 (a1 * 512)))) + a2)) + 256)) 65536)) 256)) % 256, (Int.tmod (wrap64 (Int.tdiv (wrap64 ((wrap64 ((wrap64 ((wrap64 (t131 * 4096)) + (wrap64 (a1 * 512)))) + a2)) + 256)) 65536)) 256) % 256, (Int.tmod (wrap64 (Int.tdiv (wrap64 ((wrap64 ((wrap64 ((wrap64 (t131 * 4096)) + (wrap64 (a1 * 512)))) + a2)) + 256)) 256)) 256) % 256, (Int.tmod (wrap64 ((wrap64 ((wrap64 ((wrap64 (t131 * 4096)) + (wrap64 (a1 * 512)))) + a2)) + 256)) 256) % 256] : List Int) : List Int)).bind fun y133 => (if x8_2.length + y133.length < 140737488355328 then (waypointref19_Pack.l0 k2 l0 a1 a2 (x8_2 ++ y133) (wrap64 (x9_2 + 1))) else (none))) else ((some (([(wrap64 (Int.tdiv (wrap64 (Int.tdiv (wrap64 ((wrap64 ((wrap64 (t131 * 4096)) + (wrap64 (a1 * 512)))) + a2)) 65536)) 256)) % 256, (Int.tmod (wrap64 (Int.tdiv (wrap64 ((wrap64 ((wrap64 (t131 * 4096)) + (wrap64 (a1 * 512)))) + a2)) 65536)) 256) % 256, (Int.tmod (wrap64 (Int.tdiv (wrap64 ((wrap64 ((wrap64 (t131 * 4096)) + (wrap64 (a1 * 512)))) + a2)) 256)) 256) % 256, (Int.tmod (wrap64 ((wrap64 ((wrap64 (t131 * 4096)) + (wrap64 (a1 * 512)))) + a2)) 256) % 256] : List Int) : List Int)).bind fun y139 => (if x8_2.length + y139.length < 140737488355328 then (waypointref19_Pack.l0 k2 l0 a1 a2 (x8_2 ++ y139) (wrap64 (x9_2 + 1))) else (none)))) else (some (([] : List Int), t132))) = some (r1, r2) := H
                  have A12 := Aside0.mk A120
                  clear A120
                  by_cases c13 : t132 = 0
                  · rw [if_pos c13] at H
                    have c13b0 : (t132 == 0) = true := beq_iff_eq.mpr c13
                    have c13b1 : (t132 != 0) = false := bne_eq_false_iff_eq.mpr c13
                    clear c13
                    by_cases c14 : x9_2 = (wrap64 ((l0.length : Int) - 1))
                    · rw [if_pos c14] at H
                      have c14b0 : (x9_2 == (wrap64 ((l0.length : Int) - 1))) = true := beq_iff_eq.mpr c14
                      have c14b1 : (x9_2 != (wrap64 ((l0.length : Int) - 1))) = false := bne_eq_false_iff_eq.mpr c14
                      clear c14
                      obtain ⟨y133, hy133⟩ : ∃ y_ : List Int, y_ = (([(wrap64 (Int.tdiv (wrap64 (Int.tdiv (wrap64 ((wrap64 ((wrap64 ((wrap64 (t131 * 4096)) + (wrap64 (a1 * 512)))) + a2)) + 256)) 65536)) 256)) % 256, (Int.tmod (wrap64 (Int.tdiv (wrap64 ((wrap64 ((wrap64 ((wrap64 (t131 * 4096)) + (wrap64 (a1 * 512)))) + a2)) + 256)) 65536)) 256) % 256, (Int.tmod (wrap64 (Int.tdiv (wrap64 ((wrap64 ((wrap64 ((wrap64 (t131 * 4096)) + (wrap64 (a1 * 512)))) + a2)) + 256)) 256)) 256) % 256, (Int.tmod (wrap64 ((wrap64 ((wrap64 ((wrap64 (t131 * 4096)) + (wrap64 (a1 * 512)))) + a2)) + 256)) 256) % 256] : List Int)) := ⟨_, rfl⟩
                      replace H : (if x8_2.length + y133.length < 140737488355328 then (waypointref19_Pack.l0 k2 l0 a1 a2 (x8_2 ++ y133) (wrap64 (x9_2 + 1))) else (none)) = some (r1, r2) := by first | (rw [hy133]; with_reducible exact H) | (have H2_ := (Option.bind_some _ _).symm.trans H; rw [hy133]; with_reducible exact H2_) | (have H2_ := (Option.bind_some _ _).symm.trans H; with_reducible exact H2_) | with_reducible exact H | (rw [hy133]; exact H) | exact H
                      have Ny133 := Aside0.mk hy133
                      clear hy133
                      by_cases c15 : x8_2.length + y133.length < 140737488355328
                      · rw [if_pos c15] at H
                        have LMc15 := Aside0.mk c15
                        clear c15
                        obtain ⟨y136, hy136⟩ : ∃ y_ : List Int, y_ = (x8_2 ++ y133) := ⟨_, rfl⟩
                        replace H : (waypointref19_Pack.l0 k2 l0 a1 a2 y136 (wrap64 (x9_2 + 1))) = some (r1, r2) := by first | (rw [hy136]; with_reducible exact H) | (have H2_ := (Option.bind_some _ _).symm.trans H; rw [hy136]; with_reducible exact H2_) | (have H2_ := (Option.bind_some _ _).symm.trans H; with_reducible exact H2_) | with_reducible exact H | (rw [hy136]; exact H) | exact H
                        have Ny136 := Aside0.mk hy136
                        clear hy136
                        have H' := Aside0.mk H
                        clear H
                        have p130 : 0 ≤ (x9_2 : Int) := of_decide_eq_true (by first | (with_reducible assumption) | assumption)
                        have q130 : x9_2 < (l0.length : Int) := of_decide_eq_true (by first | (with_reducible assumption) | assumption)
                        obtain ⟨ad130, e130, hx130_0, hx130_1⟩ := at_T30 HR0.out x9_2 p130 q130
                        cases e130
                        replace hx130_0 := (HB.out.cell (World.block_lt_of_cell? w _ hx130_0)).trans hx130_0
                        replace hx130_1 := (HB.out.cell (World.block_lt_of_cell? w _ hx130_1)).trans hx130_1
                        replace p130 := eq_true p130
                        replace q130 := eq_true q130
                        go_wp2_with (first | ((with_reducible refine gate_callee (f := 14) rfl ?_); refine goesL_ (some 41) rfl rfl Try.func14 (by kernel_rfl) rfl #[.agg #[.int .i64 ((rd_T30 l0 x9_2).f0), .int .i64 ((rd_T30 l0 x9_2).f1)]] rfl (by (try simp only [List.map_toArray, List.map_cons, List.map_nil]); first | done | rfl | (simp only [List.length_drop, List.length_take]; rfl)) ?_; (with_reducible refine (waypointref19_Encode.calls ((rd_T30 l0 x9_2).f0) ((rd_T30 l0 x9_2).f1) t131 t132 _ A12.out).mono ?_); rintro e w16 ⟨rfl, hb⟩; refine ⟨_, rfl, ?_⟩; have n0_ := Aside0.mk (Kd.R_below (by (with_reducible repeat (first | apply Kd.R_alloc | apply Kd.R_drewN | apply Kd.R_drew)); exact HO_8.out) hb); have n1_ := Aside0.mk (below_step (by repeat (first | (with_reducible first | exact HB.out | apply below_alloc | apply pw_below_drewN | apply below_drew1) | exact HB.out)) hb); clear HO_8; clear HB; have HO_8 := n0_; have HB := n1_; clear n0_ n1_; (try clear hb); (try clear hb2); (try clear hk); (try clear hi)) | ((with_reducible refine gate_dst (N := 77) rfl ?_); refine Kd.R_lit (Kd.int .u8) _ 5 ?hg (N := 77) ?hd (xs := ([(wrap64 (Int.tdiv (wrap64 (Int.tdiv (wrap64 ((wrap64 ((wrap64 ((wrap64 (t131 * 4096)) + (wrap64 (a1 * 512)))) + a2)) + 256)) 65536)) 256)) % 256, (Int.tmod (wrap64 (Int.tdiv (wrap64 ((wrap64 ((wrap64 ((wrap64 (t131 * 4096)) + (wrap64 (a1 * 512)))) + a2)) + 256)) 65536)) 256) % 256, (Int.tmod (wrap64 (Int.tdiv (wrap64 ((wrap64 ((wrap64 ((wrap64 (t131 * 4096)) + (wrap64 (a1 * 512)))) + a2)) + 256)) 256)) 256) % 256, (Int.tmod (wrap64 ((wrap64 ((wrap64 ((wrap64 (t131 * 4096)) + (wrap64 (a1 * 512)))) + a2)) + 256)) 256) % 256] : List Int)) (inner := [.int .u8 ((wrap64 (Int.tdiv (wrap64 (Int.tdiv (wrap64 ((wrap64 ((wrap64 ((wrap64 (t131 * 4096)) + (wrap64 (a1 * 512)))) + a2)) + 256)) 65536)) 256)) % 256), .int .u8 ((Int.tmod (wrap64 (Int.tdiv (wrap64 ((wrap64 ((wrap64 ((wrap64 (t131 * 4096)) + (wrap64 (a1 * 512)))) + a2)) + 256)) 65536)) 256) % 256), .int .u8 ((Int.tmod (wrap64 (Int.tdiv (wrap64 ((wrap64 ((wrap64 ((wrap64 (t131 * 4096)) + (wrap64 (a1 * 512)))) + a2)) + 256)) 256)) 256) % 256), .int .u8 ((Int.tmod (wrap64 ((wrap64 ((wrap64 ((wrap64 (t131 * 4096)) + (wrap64 (a1 * 512)))) + a2)) + 256)) 256) % 256)]) (ok := fun _ => True) (okp := fun _ => True) ?hr ?hp (fun _ hk => hk) trivial (Below.refl _ _) (Nat.le_refl _) (by simp) ?_; (case hd => rfl); (case hg => rfl); (case hr => first | (go_simp; done) | (go_simp; rfl)); (case hp => exact (Reps.one (show Kd.M (Kd.int .u8) _ _ _ ((wrap64 (Int.tdiv (wrap64 (Int.tdiv (wrap64 ((wrap64 ((wrap64 ((wrap64 (t131 * 4096)) + (wrap64 (a1 * 512)))) + a2)) + 256)) 65536)) 256)) % 256) [.int .u8 ((wrap64 (Int.tdiv (wrap64 (Int.tdiv (wrap64 ((wrap64 ((wrap64 ((wrap64 (t131 * 4096)) + (wrap64 (a1 * 512)))) + a2)) + 256)) 65536)) 256)) % 256)] from rfl) (Reps.one (show Kd.M (Kd.int .u8) _ _ _ ((Int.tmod (wrap64 (Int.tdiv (wrap64 ((wrap64 ((wrap64 ((wrap64 (t131 * 4096)) + (wrap64 (a1 * 512)))) + a2)) + 256)) 65536)) 256) % 256) [.int .u8 ((Int.tmod (wrap64 (Int.tdiv (wrap64 ((wrap64 ((wrap64 ((wrap64 (t131 * 4096)) + (wrap64 (a1 * 512)))) + a2)) + 256)) 65536)) 256) % 256)] from rfl) (Reps.one (show Kd.M (Kd.int .u8) _ _ _ ((Int.tmod (wrap64 (Int.tdiv (wrap64 ((wrap64 ((wrap64 ((wrap64 (t131 * 4096)) + (wrap64 (a1 * 512)))) + a2)) + 256)) 256)) 256) % 256) [.int .u8 ((Int.tmod (wrap64 (Int.tdiv (wrap64 ((wrap64 ((wrap64 ((wrap64 (t131 * 4096)) + (wrap64 (a1 * 512)))) + a2)) + 256)) 256)) 256) % 256)] from rfl) (Reps.one (show Kd.M (Kd.int .u8) _ _ _ ((Int.tmod (wrap64 ((wrap64 ((wrap64 ((wrap64 (t131 * 4096)) + (wrap64 (a1 * 512)))) + a2)) + 256)) 256) % 256) [.int .u8 ((Int.tmod (wrap64 ((wrap64 ((wrap64 ((wrap64 (t131 * 4096)) + (wrap64 (a1 * 512)))) + a2)) + 256)) 256) % 256)] from rfl) (Reps.none _ _)))))); intro v134 w17 ho18 hb hg_ hnew_; clear hg_ hnew_; (first | rw [← Ny133.out] at ho18 | (simp only [Int.reduceToNat] at ho18; rw [← Ny133.out] at ho18)); have n0_ := Aside0.mk (Kd.R_elder' (by (with_reducible repeat (first | apply Kd.R_alloc | apply Kd.R_drewN | apply Kd.R_drew)); exact HO_8.out) (Kd.R_base ho18) hb); have n1_ := Aside0.mk (Kd.R_lower (Kd.R_new' ho18 (Kd.R_lt (by (with_reducible repeat (first | apply Kd.R_alloc | apply Kd.R_drewN | apply Kd.R_drew)); exact HO_8.out))) (below_size (by repeat (first | (with_reducible first | exact HB.out | apply below_alloc | apply pw_below_drewN | apply below_drew1) | exact HB.out)))); have n2_ := Aside0.mk (below_step (by repeat (first | (with_reducible first | exact HB.out | apply below_alloc | apply pw_below_drewN | apply below_drew1) | exact HB.out)) hb); clear HO_8; clear HB; have HO_8 := n0_; have HO135 := n1_; have HB := n2_; clear n0_ n1_ n2_; clear hb ho18; obtain ⟨Ao20, co20, eo20⟩ := Kd.R_slice HO135.out; subst eo20) | ((with_reducible refine gate_builtin (b := .append) (xs := #[.tmp 61, .tmp 77]) rfl ?_); at_builtin; refine Kd.R_append_rows (Kd.int .u8) (w0 := w) w.heap.size rfl (.tmp 61) (.tmp 77) 24 5 (.int .u8 0) 1 rfl Try.underlying24 info5 rfl (by decide) (by omega) u8 x8_2 y133 _ _ _ (fun k_ => some k_ ≠ (.slice Ao20 y133.length co20 : Value).ownBlock) (fun _ => False) rfl rfl ?aO ?aR (fun _ _ h => h) (fun _ h => h.elim) ?aF ?aB ?aS ?aL ?_; (case aR => repeat (first | exact (Kd.R_reads' HO135.out).2.2 | (with_reducible refine Kd.C_alloc ?_ _) | (with_reducible refine Kd.C_drewN ?_ _) | (with_reducible refine Kd.C_drew ?_))); (case aB => exact (by repeat (first | (with_reducible first | exact HB.out | apply below_alloc | apply pw_below_drewN | apply below_drew1) | exact HB.out))); (case aF => exact (fun k_ hk => Kd.fresh' (Kd.R_lt (by (with_reducible repeat (first | apply Kd.R_alloc | apply Kd.R_drewN | apply Kd.R_drew)); exact HO135.out)) k_ hk)); (case aO => exact (by (with_reducible repeat (first | apply Kd.R_alloc | apply Kd.R_drewN | apply Kd.R_drew)); exact Kd.R_mono HO_8.out (fun _ hk => hk.2))); (case aS => exact (below_size (by repeat (first | (with_reducible first | exact HB.out | apply below_alloc | apply pw_below_drewN | apply below_drew1) | exact HB.out)))); (case aL => have := LMc15.out; omega); intro v137 w19 ho hb hg hat; rw [← Ny136.out] at ho; have n0_ := Aside0.mk (Kd.R_after (ok := (fun _ => True)) (by (with_reducible repeat (first | apply Kd.R_alloc | apply Kd.R_drewN | apply Kd.R_drew)); exact HO135.out) hg hat); have n1_ := Aside0.mk (hb); have n2_ := Aside0.mk (ho); clear HO135; clear HB; clear HO_8; have HO135 := n0_; have HB := n1_; have HO138 := n2_; clear n0_ n1_ n2_; clear ho hb hg hat))
                        go_roundg k2
                        case measure => have := HJ3.out; have := HK2.out; omega
                        case rel => exact ⟨(y136), (wrap64 (x9_2 + 1)), (by first | rfl | (simp; done) | (simp [*]; done)), H', ⟨by have := HJ3.out; have := HK2.out; omega⟩, ⟨by (with_reducible repeat (first | apply Kd.R_alloc | apply Kd.R_drewN | apply Kd.R_drew)); exact Kd.R_mono HO138.out (fun _ hk => trivial)⟩, ⟨by repeat (first | (with_reducible first | exact HB.out | apply below_alloc | apply pw_below_drewN | apply below_drew1) | exact HB.out)⟩⟩
                      · rw [if_neg c15] at H
                        exact absurd H (by simp)
                    · rw [if_neg c14] at H
                      have c14b0 : (x9_2 == (wrap64 ((l0.length : Int) - 1))) = false := beq_eq_false_iff_ne.mpr c14
                      have c14b1 : (x9_2 != (wrap64 ((l0.length : Int) - 1))) = true := bne_iff_ne.mpr c14
                      obtain ⟨y139, hy139⟩ : ∃ y_ : List Int, y_ = (([(wrap64 (Int.tdiv (wrap64 (Int.tdiv (wrap64 ((wrap64 ((wrap64 (t131 * 4096)) + (wrap64 (a1 * 512)))) + a2)) 65536)) 256)) % 256, (Int.tmod (wrap64 (Int.tdiv (wrap64 ((wrap64 ((wrap64 (t131 * 4096)) + (wrap64 (a1 * 512)))) + a2)) 65536)) 256) % 256, (Int.tmod (wrap64 (Int.tdiv (wrap64 ((wrap64 ((wrap64 (t131 * 4096)) + (wrap64 (a1 * 512)))) + a2)) 256)) 256) % 256, (Int.tmod (wrap64 ((wrap64 ((wrap64 (t131 * 4096)) + (wrap64 (a1 * 512)))) + a2)) 256) % 256] : List Int)) := ⟨_, rfl⟩
                      replace H : (if x8_2.length + y139.length < 140737488355328 then (waypointref19_Pack.l0 k2 l0 a1 a2 (x8_2 ++ y139) (wrap64 (x9_2 + 1))) else (none)) = some (r1, r2) := by first | (rw [hy139]; with_reducible exact H) | (have H2_ := (Option.bind_some _ _).symm.trans H; rw [hy139]; with_reducible exact H2_) | (have H2_ := (Option.bind_some _ _).symm.trans H; with_reducible exact H2_) | with_reducible exact H | (rw [hy139]; exact H) | exact H
                      have Ny139 := Aside0.mk hy139
                      clear hy139
                      by_cases c21 : x8_2.length + y139.length < 140737488355328
                      · rw [if_pos c21] at H
                        have LMc21 := Aside0.mk c21
                        clear c21
                        obtain ⟨y142, hy142⟩ : ∃ y_ : List Int, y_ = (x8_2 ++ y139) := ⟨_, rfl⟩
                        replace H : (waypointref19_Pack.l0 k2 l0 a1 a2 y142 (wrap64 (x9_2 + 1))) = some (r1, r2) := by first | (rw [hy142]; with_reducible exact H) | (have H2_ := (Option.bind_some _ _).symm.trans H; rw [hy142]; with_reducible exact H2_) | (have H2_ := (Option.bind_some _ _).symm.trans H; with_reducible exact H2_) | with_reducible exact H | (rw [hy142]; exact H) | exact H
                        have Ny142 := Aside0.mk hy142
                        clear hy142
                        have H' := Aside0.mk H
                        clear H
                        have p130 : 0 ≤ (x9_2 : Int) := of_decide_eq_true (by first | (with_reducible assumption) | assumption)
                        have q130 : x9_2 < (l0.length : Int) := of_decide_eq_true (by first | (with_reducible assumption) | assumption)
                        obtain ⟨ad130, e130, hx130_0, hx130_1⟩ := at_T30 HR0.out x9_2 p130 q130
                        cases e130
                        replace hx130_0 := (HB.out.cell (World.block_lt_of_cell? w _ hx130_0)).trans hx130_0
                        replace hx130_1 := (HB.out.cell (World.block_lt_of_cell? w _ hx130_1)).trans hx130_1
                        replace p130 := eq_true p130
                        replace q130 := eq_true q130
                        go_wp2_with (first | ((with_reducible refine gate_callee (f := 14) rfl ?_); refine goesL_ (some 41) rfl rfl Try.func14 (by kernel_rfl) rfl #[.agg #[.int .i64 ((rd_T30 l0 x9_2).f0), .int .i64 ((rd_T30 l0 x9_2).f1)]] rfl (by (try simp only [List.map_toArray, List.map_cons, List.map_nil]); first | done | rfl | (simp only [List.length_drop, List.length_take]; rfl)) ?_; (with_reducible refine (waypointref19_Encode.calls ((rd_T30 l0 x9_2).f0) ((rd_T30 l0 x9_2).f1) t131 t132 _ A12.out).mono ?_); rintro e w22 ⟨rfl, hb⟩; refine ⟨_, rfl, ?_⟩; have n0_ := Aside0.mk (Kd.R_below (by (with_reducible repeat (first | apply Kd.R_alloc | apply Kd.R_drewN | apply Kd.R_drew)); exact HO_8.out) hb); have n1_ := Aside0.mk (below_step (by repeat (first | (with_reducible first | exact HB.out | apply below_alloc | apply pw_below_drewN | apply below_drew1) | exact HB.out)) hb); clear HO_8; clear HB; have HO_8 := n0_; have HB := n1_; clear n0_ n1_; (try clear hb); (try clear hb2); (try clear hk); (try clear hi)) | ((with_reducible refine gate_dst (N := 77) rfl ?_); refine Kd.R_lit (Kd.int .u8) _ 5 ?hg (N := 77) ?hd (xs := ([(wrap64 (Int.tdiv (wrap64 (Int.tdiv (wrap64 ((wrap64 ((wrap64 (t131 * 4096)) + (wrap64 (a1 * 512)))) + a2)) 65536)) 256)) % 256, (Int.tmod (wrap64 (Int.tdiv (wrap64 ((wrap64 ((wrap64 (t131 * 4096)) + (wrap64 (a1 * 512)))) + a2)) 65536)) 256) % 256, (Int.tmod (wrap64 (Int.tdiv (wrap64 ((wrap64 ((wrap64 (t131 * 4096)) + (wrap64 (a1 * 512)))) + a2)) 256)) 256) % 256, (Int.tmod (wrap64 ((wrap64 ((wrap64 (t131 * 4096)) + (wrap64 (a1 * 512)))) + a2)) 256) % 256] : List Int)) (inner := [.int .u8 ((wrap64 (Int.tdiv (wrap64 (Int.tdiv (wrap64 ((wrap64 ((wrap64 (t131 * 4096)) + (wrap64 (a1 * 512)))) + a2)) 65536)) 256)) % 256), .int .u8 ((Int.tmod (wrap64 (Int.tdiv (wrap64 ((wrap64 ((wrap64 (t131 * 4096)) + (wrap64 (a1 * 512)))) + a2)) 65536)) 256) % 256), .int .u8 ((Int.tmod (wrap64 (Int.tdiv (wrap64 ((wrap64 ((wrap64 (t131 * 4096)) + (wrap64 (a1 * 512)))) + a2)) 256)) 256) % 256), .int .u8 ((Int.tmod (wrap64 ((wrap64 ((wrap64 (t131 * 4096)) + (wrap64 (a1 * 512)))) + a2)) 256) % 256)]) (ok := fun _ => True) (okp := fun _ => True) ?hr ?hp (fun _ hk => hk) trivial (Below.refl _ _) (Nat.le_refl _) (by simp) ?_; (case hd => rfl); (case hg => rfl); (case hr => first | (go_simp; done) | (go_simp; rfl)); (case hp => exact (Reps.one (show Kd.M (Kd.int .u8) _ _ _ ((wrap64 (Int.tdiv (wrap64 (Int.tdiv (wrap64 ((wrap64 ((wrap64 (t131 * 4096)) + (wrap64 (a1 * 512)))) + a2)) 65536)) 256)) % 256) [.int .u8 ((wrap64 (Int.tdiv (wrap64 (Int.tdiv (wrap64 ((wrap64 ((wrap64 (t131 * 4096)) + (wrap64 (a1 * 512)))) + a2)) 65536)) 256)) % 256)] from rfl) (Reps.one (show Kd.M (Kd.int .u8) _ _ _ ((Int.tmod (wrap64 (Int.tdiv (wrap64 ((wrap64 ((wrap64 (t131 * 4096)) + (wrap64 (a1 * 512)))) + a2)) 65536)) 256) % 256) [.int .u8 ((Int.tmod (wrap64 (Int.tdiv (wrap64 ((wrap64 ((wrap64 (t131 * 4096)) + (wrap64 (a1 * 512)))) + a2)) 65536)) 256) % 256)] from rfl) (Reps.one (show Kd.M (Kd.int .u8) _ _ _ ((Int.tmod (wrap64 (Int.tdiv (wrap64 ((wrap64 ((wrap64 (t131 * 4096)) + (wrap64 (a1 * 512)))) + a2)) 256)) 256) % 256) [.int .u8 ((Int.tmod (wrap64 (Int.tdiv (wrap64 ((wrap64 ((wrap64 (t131 * 4096)) + (wrap64 (a1 * 512)))) + a2)) 256)) 256) % 256)] from rfl) (Reps.one (show Kd.M (Kd.int .u8) _ _ _ ((Int.tmod (wrap64 ((wrap64 ((wrap64 (t131 * 4096)) + (wrap64 (a1 * 512)))) + a2)) 256) % 256) [.int .u8 ((Int.tmod (wrap64 ((wrap64 ((wrap64 (t131 * 4096)) + (wrap64 (a1 * 512)))) + a2)) 256) % 256)] from rfl) (Reps.none _ _)))))); intro v140 w23 ho24 hb hg_ hnew_; clear hg_ hnew_; (first | rw [← Ny139.out] at ho24 | (simp only [Int.reduceToNat] at ho24; rw [← Ny139.out] at ho24)); have n0_ := Aside0.mk (Kd.R_elder' (by (with_reducible repeat (first | apply Kd.R_alloc | apply Kd.R_drewN | apply Kd.R_drew)); exact HO_8.out) (Kd.R_base ho24) hb); have n1_ := Aside0.mk (Kd.R_lower (Kd.R_new' ho24 (Kd.R_lt (by (with_reducible repeat (first | apply Kd.R_alloc | apply Kd.R_drewN | apply Kd.R_drew)); exact HO_8.out))) (below_size (by repeat (first | (with_reducible first | exact HB.out | apply below_alloc | apply pw_below_drewN | apply below_drew1) | exact HB.out)))); have n2_ := Aside0.mk (below_step (by repeat (first | (with_reducible first | exact HB.out | apply below_alloc | apply pw_below_drewN | apply below_drew1) | exact HB.out)) hb); clear HO_8; clear HB; have HO_8 := n0_; have HO141 := n1_; have HB := n2_; clear n0_ n1_ n2_; clear hb ho24; obtain ⟨Ao26, co26, eo26⟩ := Kd.R_slice HO141.out; subst eo26) | ((with_reducible refine gate_builtin (b := .append) (xs := #[.tmp 61, .tmp 77]) rfl ?_); at_builtin; refine Kd.R_append_rows (Kd.int .u8) (w0 := w) w.heap.size rfl (.tmp 61) (.tmp 77) 24 5 (.int .u8 0) 1 rfl Try.underlying24 info5 rfl (by decide) (by omega) u8 x8_2 y139 _ _ _ (fun k_ => some k_ ≠ (.slice Ao26 y139.length co26 : Value).ownBlock) (fun _ => False) rfl rfl ?aO ?aR (fun _ _ h => h) (fun _ h => h.elim) ?aF ?aB ?aS ?aL ?_; (case aR => repeat (first | exact (Kd.R_reads' HO141.out).2.2 | (with_reducible refine Kd.C_alloc ?_ _) | (with_reducible refine Kd.C_drewN ?_ _) | (with_reducible refine Kd.C_drew ?_))); (case aB => exact (by repeat (first | (with_reducible first | exact HB.out | apply below_alloc | apply pw_below_drewN | apply below_drew1) | exact HB.out))); (case aF => exact (fun k_ hk => Kd.fresh' (Kd.R_lt (by (with_reducible repeat (first | apply Kd.R_alloc | apply Kd.R_drewN | apply Kd.R_drew)); exact HO141.out)) k_ hk)); (case aO => exact (by (with_reducible repeat (first | apply Kd.R_alloc | apply Kd.R_drewN | apply Kd.R_drew)); exact Kd.R_mono HO_8.out (fun _ hk => hk.2))); (case aS => exact (below_size (by repeat (first | (with_reducible first | exact HB.out | apply below_alloc | apply pw_below_drewN | apply below_drew1) | exact HB.out)))); (case aL => have := LMc21.out; omega); intro v143 w25 ho hb hg hat; rw [← Ny142.out] at ho; have n0_ := Aside0.mk (Kd.R_after (ok := (fun _ => True)) (by (with_reducible repeat (first | apply Kd.R_alloc | apply Kd.R_drewN | apply Kd.R_drew)); exact HO141.out) hg hat); have n1_ := Aside0.mk (hb); have n2_ := Aside0.mk (ho); clear HO141; clear HB; clear HO_8; have HO141 := n0_; have HB := n1_; have HO144 := n2_; clear n0_ n1_ n2_; clear ho hb hg hat))
                        go_roundg k2
                        case measure => have := HJ3.out; have := HK2.out; omega
                        case rel => exact ⟨(y142), (wrap64 (x9_2 + 1)), (by first | rfl | (simp; done) | (simp [*]; done)), H', ⟨by have := HJ3.out; have := HK2.out; omega⟩, ⟨by (with_reducible repeat (first | apply Kd.R_alloc | apply Kd.R_drewN | apply Kd.R_drew)); exact Kd.R_mono HO144.out (fun _ hk => trivial)⟩, ⟨by repeat (first | (with_reducible first | exact HB.out | apply below_alloc | apply pw_below_drewN | apply below_drew1) | exact HB.out)⟩⟩
                      · rw [if_neg c21] at H
                        exact absurd H (by simp)
                  · rw [if_neg c13] at H
                    have c13b0 : (t132 == 0) = false := beq_eq_false_iff_ne.mpr c13
                    have c13b1 : (t132 != 0) = true := bne_iff_ne.mpr c13
                    simp only [Option.some.injEq, Prod.mk.injEq] at H
                    obtain ⟨rfl, rfl⟩ := H
                    have p130 : 0 ≤ (x9_2 : Int) := of_decide_eq_true (by first | (with_reducible assumption) | assumption)
                    have q130 : x9_2 < (l0.length : Int) := of_decide_eq_true (by first | (with_reducible assumption) | assumption)
                    obtain ⟨ad130, e130, hx130_0, hx130_1⟩ := at_T30 HR0.out x9_2 p130 q130
                    cases e130
                    replace hx130_0 := (HB.out.cell (World.block_lt_of_cell? w _ hx130_0)).trans hx130_0
                    replace hx130_1 := (HB.out.cell (World.block_lt_of_cell? w _ hx130_1)).trans hx130_1
                    replace p130 := eq_true p130
                    replace q130 := eq_true q130
                    go_wp2_with (first | ((with_reducible refine gate_callee (f := 14) rfl ?_); refine goesL_ (some 41) rfl rfl Try.func14 (by kernel_rfl) rfl #[.agg #[.int .i64 ((rd_T30 l0 x9_2).f0), .int .i64 ((rd_T30 l0 x9_2).f1)]] rfl (by (try simp only [List.map_toArray, List.map_cons, List.map_nil]); first | done | rfl | (simp only [List.length_drop, List.length_take]; rfl)) ?_; (with_reducible refine (waypointref19_Encode.calls ((rd_T30 l0 x9_2).f0) ((rd_T30 l0 x9_2).f1) t131 t132 _ A12.out).mono ?_); rintro e w27 ⟨rfl, hb⟩; refine ⟨_, rfl, ?_⟩; have n0_ := Aside0.mk (Kd.R_below (by (with_reducible repeat (first | apply Kd.R_alloc | apply Kd.R_drewN | apply Kd.R_drew)); exact HO_8.out) hb); have n1_ := Aside0.mk (below_step (by repeat (first | (with_reducible first | exact HB.out | apply below_alloc | apply pw_below_drewN | apply below_drew1) | exact HB.out)) hb); clear HO_8; clear HB; have HO_8 := n0_; have HB := n1_; clear n0_ n1_; (try clear hb); (try clear hb2); (try clear hk); (try clear hi)))
                    go_ret2
                    exact ⟨_, by first | rfl | (simp [errW_none, errW_some] <;> rfl) | (simp [*, errW_none, errW_some] <;> rfl), by first | exact Kd.R_nil _ _ _ _ _ | exact Kd.N_nil _ _ _ _ _ | exact Kd.V_nil _ _ _ _ _ | exact Kd.Q_nil _ _ _ _ _ | exact Kd.S_nil _ _ _ _ _, by repeat (first | (with_reducible first | exact HB.out | apply below_alloc | apply pw_below_drewN | apply below_drew1) | exact HB.out)⟩
                · rw [if_neg c11] at H
                  exact absurd H (by simp)
              · rw [if_neg c10] at H
                have c10b0 : decide (x9_2 < (l0.length : Int)) = false := decide_eq_false c10
                clear c10
                simp only [Option.some.injEq, Prod.mk.injEq] at H
                obtain ⟨rfl, rfl⟩ := H
                go_wp2
                go_ret2
                exact ⟨_, by first | rfl | (simp [errW_none, errW_some] <;> rfl) | (simp [*, errW_none, errW_some] <;> rfl), by (with_reducible repeat (first | apply Kd.R_alloc | apply Kd.R_drewN | apply Kd.R_drew)); exact HO_8.out, by repeat (first | (with_reducible first | exact HB.out | apply below_alloc | apply pw_below_drewN | apply below_drew1) | exact HB.out)⟩

end Go.Proofs.Ytbphaaaobgmejaa.PT19

-- WRITTEN BY mygen.py, a program of mine over the kit's print; Lean checks every row
import Derived.Test.YtandnmkllijnhaaPT080
import Derived.Test.YtandnmkllijnhaaPT081
import Derived.Test.YtandnmkllijnhaaPT083
namespace Go.Proofs.Ytandnmkllijnhaa.PT08
open Go.RowKit Go.Proofs.YtandnmkllijnhaaW.PrintWords Go.Proofs.YtandnmkllijnhaaW.PrintLast Go.Proofs.YtandnmkllijnhaaW.PrintMore
attribute [local go_sem] max2_int min2_int max_two min_two max_three min_three max_four min_four   -- for this text's walks alone
set_option linter.unusedVariables false
set_option linter.unusedSimpArgs false

/-! ### waypointlaw08_FletcherJoins: function 8 -/
def waypointlaw08_FletcherJoins.j0 : Nat → List Int → List Int → Int → Bool → Option (Bool)
  | 0, _, _, _, _ => none
  | k + 1, x0, x1, x2, x26 => if x26 = true then (some true) else ((waypointref08_Sum.f k x0).bind fun bt226 => ((waypointref08_Sum.f k x1).bind fun bt228 => ((fletcher_Join.f bt226.1 bt226.2 bt228.1 bt228.2 (x1.length : Int)).bind fun bt230 => ((some (([] : List Int) : List Int)).bind fun y232 => (if y232.length + x0.length < 140737488355328 then ((some (y232 ++ x0 : List Int)).bind fun y235 => (if y235.length + x1.length < 140737488355328 then ((waypointref08_Sum.f k (y235 ++ x1)).bind fun bt241 => ((fletcher_Join.f bt226.1 bt226.2 bt228.1 bt228.2 x2).bind fun bt243 => ((waypointref08_Reduced.f x2).bind fun t245 => ((fletcher_Join.f bt226.1 bt226.2 bt228.1 bt228.2 t245).bind fun bt246 => (if bt230.1 = bt241.1 then (if bt230.2 = bt241.2 then (if bt243.1 = bt246.1 then (some (bt243.2 == bt246.2)) else (some false)) else (some false)) else (some false)))))) else (none))) else (none))))))
def waypointlaw08_FletcherJoins.f (k : Nat) (l0 : List Int) (l1 : List Int) (a2 : Int) : Option (Bool) := (waypointlaw08_awake.f k).bind fun t223 => (if t223 = true then (if (l0.length : Int) > 1000 then (waypointlaw08_FletcherJoins.j0 k l0 l1 a2 true) else (waypointlaw08_FletcherJoins.j0 k l0 l1 a2 (decide ((l1.length : Int) > 1000)))) else (some false))
theorem waypointlaw08_FletcherJoins.mono_l : ∀ k, (∀ y0 y1 y2 y3, LeO (waypointlaw08_FletcherJoins.j0 k y0 y1 y2 y3) (waypointlaw08_FletcherJoins.j0 (k + 1) y0 y1 y2 y3))
  | 0 => fun _ _ _ _ r h => by simp [waypointlaw08_FletcherJoins.j0] at h
  | k + 1 => by
    have ih0 := waypointlaw08_FletcherJoins.mono_l k
    · intro y0 y1 y2 y3
      unfold waypointlaw08_FletcherJoins.j0
      repeat' first
      | (with_reducible exact ih0 _ _ _ _)
      | (with_reducible exact waypointlaw08_awake.mono _)
      | (with_reducible exact waypointref08_Sum.mono _ _)
      | (with_reducible exact LeO.refl _)
      | (with_reducible exact LeO.none _)
      | (with_reducible refine LeO.ite ?_ ?_)
      | (with_reducible refine LeO.bind ?_ (fun _ => ?_))
      | exact ih0 _ _ _ _
      | exact waypointlaw08_awake.mono _
      | exact waypointref08_Sum.mono _ _
      | exact LeO.none _
      | refine LeO.ite ?_ ?_
      | refine LeO.bind ?_ (fun _ => ?_)
theorem waypointlaw08_FletcherJoins.mono : ∀ a0 a1 a2 k, LeO (waypointlaw08_FletcherJoins.f k a0 a1 a2) (waypointlaw08_FletcherJoins.f (k + 1) a0 a1 a2) := by
  intro a0 a1 a2 k
  have ih0 := waypointlaw08_FletcherJoins.mono_l k
  unfold waypointlaw08_FletcherJoins.f
  repeat' first
      | (with_reducible exact ih0 _ _ _ _)
      | (with_reducible exact waypointlaw08_awake.mono _)
      | (with_reducible exact waypointref08_Sum.mono _ _)
      | (with_reducible exact LeO.refl _)
      | (with_reducible exact LeO.none _)
      | (with_reducible refine LeO.ite ?_ ?_)
      | (with_reducible refine LeO.bind ?_ (fun _ => ?_))
      | exact ih0 _ _ _ _
      | exact waypointlaw08_awake.mono _
      | exact waypointref08_Sum.mono _ _
      | exact LeO.none _
      | refine LeO.ite ?_ ?_
      | refine LeO.bind ?_ (fun _ => ?_)
def waypointlaw08_FletcherJoins.T11 : Bool × List (List Nat × List Nat) := (true, [([], []), ([], []), ([], []), ([2], [2]), ([0, 1, 3, 3], [0, 1, 3]), ([4], [4]), ([5], [5]), ([5], [5]), ([6, 4, 0, 1, 2, 3, 4, 5, 6], [6]), ([7, 8, 0, 1, 2, 3, 4, 5, 6, 7, 8], [7])])
def waypointlaw08_FletcherJoins.B11 : List Nat := [0, 0, 0, 4, 15, 31, 63, 63, 127, 511]
theorem waypointlaw08_FletcherJoins.tab11 : rtab .any (opsOf Try.f8 11) = waypointlaw08_FletcherJoins.T11 := by kernel_rfl
theorem waypointlaw08_FletcherJoins.bits11 : waitsOk waypointlaw08_FletcherJoins.T11.2 waypointlaw08_FletcherJoins.B11 = true := by kernel_rfl
set_option maxHeartbeats 8000000 in
set_option maxRecDepth 100000 in
theorem waypointlaw08_FletcherJoins.calls (k : Nat) (A0 : Option Addr) (c0 : Nat) (l0 : List Int) (A1 : Option Addr) (c1 : Nat) (l1 : List Int) (a2 : Int) (r : Bool) (w : World) (hr0 : Kd.C (Kd.int .u8) w A0 l0.length l0) (hc0 : l0.length ≤ c0) (hr1 : Kd.C (Kd.int .u8) w A1 l1.length l1) (hc1 : l1.length ≤ c1) (h : waypointlaw08_FletcherJoins.f k l0 l1 a2 = some r) :
    Calls Try.prog 8 #[.slice A0 l0.length c0, .slice A1 l1.length c1, .int .i64 a2] w fun e w' => e = .returned (.bool r) ∧ Below w.heap.size w w' := by
  have hu39 := Try.underlying39
  have HR0 := Aside0.mk hr0
  have HC0 := Aside0.mk hc0
  clear hr0 hc0
  have HR1 := Aside0.mk hr1
  have HC1 := Aside0.mk hc1
  clear hr1 hc1
  have HB := Aside0.mk (Below.refl w.heap.size w)
  have H : ((waypointlaw08_awake.f k).bind fun t223 => (if t223 = true then (if (l0.length : Int) > 1000 then (waypointlaw08_FletcherJoins.j0 k l0 l1 a2 true) else (waypointlaw08_FletcherJoins.j0 k l0 l1 a2 (decide ((l1.length : Int) > 1000)))) else (some false))) = some r := h
  clear h
  replace H := Option.bind_eq_some_iff.mp H
  obtain ⟨t223, A40, H⟩ := H
  replace H : (if t223 = true then (if (l0.length : Int) > 1000 then (waypointlaw08_FletcherJoins.j0 k l0 l1 a2 true) else (waypointlaw08_FletcherJoins.j0 k l0 l1 a2 (decide ((l1.length : Int) > 1000)))) else (some false)) = some r := H
  have A4 := Aside0.mk A40
  clear A40
  by_cases c5 : t223 = true
  · subst c5
    have H1 : (if (l0.length : Int) > 1000 then (waypointlaw08_FletcherJoins.j0 k l0 l1 a2 true) else (waypointlaw08_FletcherJoins.j0 k l0 l1 a2 (decide ((l1.length : Int) > 1000)))) = some r := by rw [if_pos rfl] at H; exact H
    clear H
    have H := H1
    clear H1
    have HC6 := Aside0.mk H
    clear H
    go_enter Try.func8, Try.ntmps8
    go_upto_region 3 with (first | ((with_reducible refine gate_callee (f := 9) rfl ?_); refine goesL_ (some 17) rfl rfl Try.func9 (by kernel_rfl) rfl #[] rfl (by (try simp only [List.map_toArray, List.map_cons, List.map_nil]); first | done | rfl | (simp only [List.length_drop, List.length_take]; rfl)) ?_; (with_reducible refine (waypointlaw08_awake.calls k  true _ A4.out).mono ?_); rintro e w7 ⟨rfl, hb⟩; refine ⟨_, rfl, ?_⟩; have n0_ := Aside0.mk (below_step (by repeat (first | (with_reducible first | exact HB.out | apply below_alloc | apply pw_below_drewN | apply below_drew1) | exact HB.out)) hb); clear HB; have HB := n0_; clear n0_; (try clear hb); (try clear hb2); (try clear hk); (try clear hi)))
    (try simp only [Act.put, List.setIfInBounds_toArray, List.set_cons_zero, List.set_cons_succ])
    go_cut [26] (fun v26 wc => ∃ (kq : Nat) (x26_5 : Bool), v26 = .bool x26_5 ∧ Aside0 (waypointlaw08_FletcherJoins.j0 kq l0 l1 a2 x26_5 = some r) ∧ Aside0 (kq ≤ k) ∧ Aside0 (Below w.heap.size w wc))
    case first =>
      have H := HC6.out
      clear HC6
      by_cases c8 : (l0.length : Int) > 1000
      · rw [if_pos c8] at H
        have c8b0 : decide (1000 < (l0.length : Int)) = true := decide_eq_true c8
        have c8b1 : decide (1000 < l0.length) = true := decide_eq_true (by omega)
        clear c8
        (first | rw [c8b0] | (simp only [i64_w, i32_w]; rw [c8b0]) | skip)
        have H' := Aside0.mk H
        clear H
        go_wp2
        go_meet
        case rel => exact ⟨_, (true), (by first | rfl | (simp; done) | (simp [*]; done)), H', ⟨by first | omega | exact Nat.le_refl _⟩, ⟨by repeat (first | (with_reducible first | exact HB.out | apply below_alloc | apply pw_below_drewN | apply below_drew1) | exact HB.out)⟩⟩
      · rw [if_neg c8] at H
        have c8b0 : decide (1000 < (l0.length : Int)) = false := decide_eq_false c8
        have c8b1 : decide (1000 < l0.length) = false := decide_eq_false (by omega)
        clear c8
        (first | rw [c8b0] | (simp only [i64_w, i32_w]; rw [c8b0]) | skip)
        have H' := Aside0.mk H
        clear H
        go_wp2
        go_meet
        case rel => exact ⟨_, (decide ((l1.length : Int) > 1000)), (by first | rfl | (simp; done) | (simp [*]; done)), H', ⟨by first | omega | exact Nat.le_refl _⟩, ⟨by repeat (first | (with_reducible first | exact HB.out | apply below_alloc | apply pw_below_drewN | apply below_drew1) | exact HB.out)⟩⟩
    case rest =>
      clear HC6
      try clear c1
      try clear p2
      try clear c5
      try clear c8
      try clear c8b0
      try clear c8b1
      obtain ⟨kq, x26_5, rfl, HA, HJ5, HB⟩ := hcut
      cases kq with
      | zero => exact absurd HA.out (by simp [waypointlaw08_FletcherJoins.j0])
      | succ kj5 =>
        have H := HA.out
        clear HA
        simp only [waypointlaw08_FletcherJoins.j0] at H
        by_cases c9 : x26_5 = true
        · subst c9
          have H1 : (some true) = some r := by rw [if_pos rfl] at H; exact H
          clear H
          have H := H1
          clear H1
          obtain rfl := Option.some.inj H
          go_wp2
          go_ret
          exact ⟨by first | rfl | (simp [errW_none, errW_some] <;> rfl) | (simp [*, errW_none, errW_some] <;> rfl), by repeat (first | (with_reducible first | exact HB.out | apply below_alloc | apply pw_below_drewN | apply below_drew1) | exact HB.out)⟩
        · replace c9 := Bool.eq_false_iff.mpr c9
          subst c9
          have H1 : ((waypointref08_Sum.f kj5 l0).bind fun bt226 => ((waypointref08_Sum.f kj5 l1).bind fun bt228 => ((fletcher_Join.f bt226.1 bt226.2 bt228.1 bt228.2 (l1.length : Int)).bind fun bt230 => ((some (([] : List Int) : List Int)).bind fun y232 => (if y232.length + l0.length < 140737488355328 then ((some (y232 ++ l0 : List Int)).bind fun y235 => (if y235.length + l1.length < 140737488355328 then ((waypointref08_Sum.f kj5 (y235 ++ l1)).bind fun bt241 => ((fletcher_Join.f bt226.1 bt226.2 bt228.1 bt228.2 a2).bind fun bt243 => ((waypointref08_Reduced.f a2).bind fun t245 => ((fletcher_Join.f bt226.1 bt226.2 bt228.1 bt228.2 t245).bind fun bt246 => (if bt230.1 = bt241.1 then (if bt230.2 = bt241.2 then (if bt243.1 = bt246.1 then (some (bt243.2 == bt246.2)) else (some false)) else (some false)) else (some false)))))) else (none))) else (none)))))) = some r := by rw [if_neg (show ¬ (false = true) by decide)] at H; exact H
          clear H
          have H := H1
          clear H1
          replace H := Option.bind_eq_some_iff.mp H
          obtain ⟨⟨t226, t227⟩, A100, H⟩ := H
          replace H : ((waypointref08_Sum.f kj5 l1).bind fun bt228 => ((fletcher_Join.f t226 t227 bt228.1 bt228.2 (l1.length : Int)).bind fun bt230 => ((some (([] : List Int) : List Int)).bind fun y232 => (if y232.length + l0.length < 140737488355328 then ((some (y232 ++ l0 : List Int)).bind fun y235 => (if y235.length + l1.length < 140737488355328 then ((waypointref08_Sum.f kj5 (y235 ++ l1)).bind fun bt241 => ((fletcher_Join.f t226 t227 bt228.1 bt228.2 a2).bind fun bt243 => ((waypointref08_Reduced.f a2).bind fun t245 => ((fletcher_Join.f t226 t227 bt228.1 bt228.2 t245).bind fun bt246 => (if bt230.1 = bt241.1 then (if bt230.2 = bt241.2 then (if bt243.1 = bt246.1 then (some (bt243.2 == bt246.2)) else (some false)) else (some false)) else (some false)))))) else (none))) else (none))))) = some r := H
          have A10 := Aside0.mk A100
          clear A100
          replace H := Option.bind_eq_some_iff.mp H
          obtain ⟨⟨t228, t229⟩, A110, H⟩ := H
          replace H : ((fletcher_Join.f t226 t227 t228 t229 (l1.length : Int)).bind fun bt230 => ((some (([] : List Int) : List Int)).bind fun y232 => (if y232.length + l0.length < 140737488355328 then ((some (y232 ++ l0 : List Int)).bind fun y235 => (if y235.length + l1.length < 140737488355328 then ((waypointref08_Sum.f kj5 (y235 ++ l1)).bind fun bt241 => ((fletcher_Join.f t226 t227 t228 t229 a2).bind fun bt243 => ((waypointref08_Reduced.f a2).bind fun t245 => ((fletcher_Join.f t226 t227 t228 t229 t245).bind fun bt246 => (if bt230.1 = bt241.1 then (if bt230.2 = bt241.2 then (if bt243.1 = bt246.1 then (some (bt243.2 == bt246.2)) else (some false)) else (some false)) else (some false)))))) else (none))) else (none)))) = some r := H
          have A11 := Aside0.mk A110
          clear A110
          replace H := Option.bind_eq_some_iff.mp H
          obtain ⟨⟨t230, t231⟩, A120, H⟩ := H
          replace H : ((some (([] : List Int) : List Int)).bind fun y232 => (if y232.length + l0.length < 140737488355328 then ((some (y232 ++ l0 : List Int)).bind fun y235 => (if y235.length + l1.length < 140737488355328 then ((waypointref08_Sum.f kj5 (y235 ++ l1)).bind fun bt241 => ((fletcher_Join.f t226 t227 t228 t229 a2).bind fun bt243 => ((waypointref08_Reduced.f a2).bind fun t245 => ((fletcher_Join.f t226 t227 t228 t229 t245).bind fun bt246 => (if t230 = bt241.1 then (if t231 = bt241.2 then (if bt243.1 = bt246.1 then (some (bt243.2 == bt246.2)) else (some false)) else (some false)) else (some false)))))) else (none))) else (none))) = some r := H
          have A12 := Aside0.mk A120
          clear A120
          obtain ⟨y232, hy232⟩ : ∃ y_ : List Int, y_ = (([] : List Int)) := ⟨_, rfl⟩
          replace H : (if y232.length + l0.length < 140737488355328 then ((some (y232 ++ l0 : List Int)).bind fun y235 => (if y235.length + l1.length < 140737488355328 then ((waypointref08_Sum.f kj5 (y235 ++ l1)).bind fun bt241 => ((fletcher_Join.f t226 t227 t228 t229 a2).bind fun bt243 => ((waypointref08_Reduced.f a2).bind fun t245 => ((fletcher_Join.f t226 t227 t228 t229 t245).bind fun bt246 => (if t230 = bt241.1 then (if t231 = bt241.2 then (if bt243.1 = bt246.1 then (some (bt243.2 == bt246.2)) else (some false)) else (some false)) else (some false)))))) else (none))) else (none)) = some r := by first | (rw [hy232]; with_reducible exact H) | (have H2_ := (Option.bind_some _ _).symm.trans H; rw [hy232]; with_reducible exact H2_) | (have H2_ := (Option.bind_some _ _).symm.trans H; with_reducible exact H2_) | with_reducible exact H | (rw [hy232]; exact H) | exact H
          have Ny232 := Aside0.mk hy232
          clear hy232
          by_cases c13 : y232.length + l0.length < 140737488355328
          · rw [if_pos c13] at H
            have LMc13 := Aside0.mk c13
            clear c13
            obtain ⟨y235, hy235⟩ : ∃ y_ : List Int, y_ = (y232 ++ l0) := ⟨_, rfl⟩
            replace H : (if y235.length + l1.length < 140737488355328 then ((waypointref08_Sum.f kj5 (y235 ++ l1)).bind fun bt241 => ((fletcher_Join.f t226 t227 t228 t229 a2).bind fun bt243 => ((waypointref08_Reduced.f a2).bind fun t245 => ((fletcher_Join.f t226 t227 t228 t229 t245).bind fun bt246 => (if t230 = bt241.1 then (if t231 = bt241.2 then (if bt243.1 = bt246.1 then (some (bt243.2 == bt246.2)) else (some false)) else (some false)) else (some false)))))) else (none)) = some r := by first | (rw [hy235]; with_reducible exact H) | (have H2_ := (Option.bind_some _ _).symm.trans H; rw [hy235]; with_reducible exact H2_) | (have H2_ := (Option.bind_some _ _).symm.trans H; with_reducible exact H2_) | with_reducible exact H | (rw [hy235]; exact H) | exact H
            have Ny235 := Aside0.mk hy235
            clear hy235
            by_cases c14 : y235.length + l1.length < 140737488355328
            · rw [if_pos c14] at H
              have LMc14 := Aside0.mk c14
              clear c14
              obtain ⟨y238, hy238⟩ : ∃ y_ : List Int, y_ = (y235 ++ l1) := ⟨_, rfl⟩
              replace H : ((waypointref08_Sum.f kj5 y238).bind fun bt241 => ((fletcher_Join.f t226 t227 t228 t229 a2).bind fun bt243 => ((waypointref08_Reduced.f a2).bind fun t245 => ((fletcher_Join.f t226 t227 t228 t229 t245).bind fun bt246 => (if t230 = bt241.1 then (if t231 = bt241.2 then (if bt243.1 = bt246.1 then (some (bt243.2 == bt246.2)) else (some false)) else (some false)) else (some false)))))) = some r := by first | (rw [hy238]; with_reducible exact H) | (have H2_ := (Option.bind_some _ _).symm.trans H; rw [hy238]; with_reducible exact H2_) | (have H2_ := (Option.bind_some _ _).symm.trans H; with_reducible exact H2_) | with_reducible exact H | (rw [hy238]; exact H) | exact H
              have Ny238 := Aside0.mk hy238
              clear hy238
              replace H := Option.bind_eq_some_iff.mp H
              obtain ⟨⟨t241, t242⟩, A150, H⟩ := H
              replace H : ((fletcher_Join.f t226 t227 t228 t229 a2).bind fun bt243 => ((waypointref08_Reduced.f a2).bind fun t245 => ((fletcher_Join.f t226 t227 t228 t229 t245).bind fun bt246 => (if t230 = t241 then (if t231 = t242 then (if bt243.1 = bt246.1 then (some (bt243.2 == bt246.2)) else (some false)) else (some false)) else (some false))))) = some r := H
              have A15 := Aside0.mk A150
              clear A150
              replace H := Option.bind_eq_some_iff.mp H
              obtain ⟨⟨t243, t244⟩, A160, H⟩ := H
              replace H : ((waypointref08_Reduced.f a2).bind fun t245 => ((fletcher_Join.f t226 t227 t228 t229 t245).bind fun bt246 => (if t230 = t241 then (if t231 = t242 then (if t243 = bt246.1 then (some (t244 == bt246.2)) else (some false)) else (some false)) else (some false)))) = some r := H
              have A16 := Aside0.mk A160
              clear A160
              replace H := Option.bind_eq_some_iff.mp H
              obtain ⟨t245, A170, H⟩ := H
              replace H : ((fletcher_Join.f t226 t227 t228 t229 t245).bind fun bt246 => (if t230 = t241 then (if t231 = t242 then (if t243 = bt246.1 then (some (t244 == bt246.2)) else (some false)) else (some false)) else (some false))) = some r := H
              have A17 := Aside0.mk A170
              clear A170
              replace H := Option.bind_eq_some_iff.mp H
              obtain ⟨⟨t246, t247⟩, A180, H⟩ := H
              replace H : (if t230 = t241 then (if t231 = t242 then (if t243 = t246 then (some (t244 == t247)) else (some false)) else (some false)) else (some false)) = some r := H
              have A18 := Aside0.mk A180
              clear A180
              by_cases c19 : t230 = t241
              · rw [if_pos c19] at H
                have c19b0 : (t230 == t241) = true := beq_iff_eq.mpr c19
                have c19b1 : (t230 != t241) = false := bne_eq_false_iff_eq.mpr c19
                clear c19
                by_cases c20 : t231 = t242
                · rw [if_pos c20] at H
                  have c20b0 : (t231 == t242) = true := beq_iff_eq.mpr c20
                  have c20b1 : (t231 != t242) = false := bne_eq_false_iff_eq.mpr c20
                  clear c20
                  by_cases c21 : t243 = t246
                  · rw [if_pos c21] at H
                    have c21b0 : (t243 == t246) = true := beq_iff_eq.mpr c21
                    have c21b1 : (t243 != t246) = false := bne_eq_false_iff_eq.mpr c21
                    clear c21
                    obtain rfl := Option.some.inj H
                    try go_wp2_with (first | ((with_reducible refine gate_dst (N := 7) rfl ?_); (try (refine gate_guard (by rfl) ?_; dsimp only)); refine box_event ?hg (N := 7) ?hd (cs := #[.int .i64 0, .int .i64 0]) (t := 39) ?hr ?_; (case hd => rfl); (case hg => rfl); (case hr => first | (go_simp; done) | (go_simp; rfl)); intro gb224 hg w22 hbox hb; have n0_ := Aside0.mk (below_step (by repeat (first | (with_reducible first | exact HB.out | apply below_alloc | apply pw_below_drewN | apply below_drew1) | exact HB.out)) hb); have n1_ := Aside0.mk (hbox); have n2_ := Aside0.mk ((by rw [hg]; exact (below_size (by repeat (first | (with_reducible first | exact HB.out | apply below_alloc | apply pw_below_drewN | apply below_drew1) | exact HB.out))) : w.heap.size ≤ gb224)); have n3_ := Aside0.mk ((by rw [hg]; exact (below_size (by repeat (first | (with_reducible first | exact HB.out | apply below_alloc | apply pw_below_drewN | apply below_drew1) | exact HB.out))) : w.heap.size ≤ gb224)); clear HB; have HB := n0_; have BK224 := n1_; have GW224 := n2_; have GE224 := n3_; clear n0_ n1_ n2_ n3_; clear hb hbox hg) | ((with_reducible refine gate_dst (N := 8) rfl ?_); (try (refine gate_guard (by rfl) ?_; dsimp only)); refine box_event ?hg (N := 8) ?hd (cs := #[.int .i64 0, .int .i64 0]) (t := 39) ?hr ?_; (case hd => rfl); (case hg => rfl); (case hr => first | (go_simp; done) | (go_simp; rfl)); intro gb225 hg w23 hbox hb; have n0_ := Aside0.mk (blk_below (g := gb224) (o := .cells #[.int .i64 0, .int .i64 0] 39 (0, 0)) (by (with_reducible repeat (first | refine blk_drewN ?_ _ | refine blk_drew ?_ | refine blk_alloc ?_ _)); exact BK224.out) hb); have n1_ := Aside0.mk (below_step (by repeat (first | (with_reducible first | exact HB.out | apply below_alloc | apply pw_below_drewN | apply below_drew1 | refine below_set ?_ GE224.out) | exact HB.out)) hb); have n2_ := Aside0.mk (hbox); have n3_ := Aside0.mk ((by rw [hg]; exact (below_size (by repeat (first | (with_reducible first | exact HB.out | apply below_alloc | apply pw_below_drewN | apply below_drew1 | refine below_set ?_ GE224.out) | exact HB.out))) : w.heap.size ≤ gb225)); have n4_ := Aside0.mk ((by rw [hg]; exact (below_size (by repeat (first | (with_reducible first | exact HB.out | apply below_alloc | apply pw_below_drewN | apply below_drew1 | refine below_set ?_ GE224.out) | exact HB.out))) : w.heap.size ≤ gb225)); have n5_ := Aside0.mk ((by rw [hg]; exact Nat.ne_of_lt (blk_lt (g := gb224) (o := .cells #[.int .i64 0, .int .i64 0] 39 (0, 0)) (by (with_reducible repeat (first | refine blk_drewN ?_ _ | refine blk_drew ?_ | refine blk_alloc ?_ _)); exact BK224.out)) : gb224 ≠ gb225)); have n6_ := Aside0.mk ((by rw [hg]; exact Nat.ne_of_gt (blk_lt (g := gb224) (o := .cells #[.int .i64 0, .int .i64 0] 39 (0, 0)) (by (with_reducible repeat (first | refine blk_drewN ?_ _ | refine blk_drew ?_ | refine blk_alloc ?_ _)); exact BK224.out)) : gb225 ≠ gb224)); clear BK224; clear HB; have BK224 := n0_; have HB := n1_; have BK225 := n2_; have GW225 := n3_; have GE225 := n4_; have NB224_225 := n5_; have NB225_224 := n6_; clear n0_ n1_ n2_ n3_ n4_ n5_ n6_; clear hb hbox hg) | ((with_reducible refine gate_callee (f := 11) rfl ?_); refine goesL_ (some 29) rfl rfl Try.func11 (by kernel_rfl) rfl #[.slice A0 l0.length c0] rfl (by (try simp only [List.map_toArray, List.map_cons, List.map_nil]); first | done | rfl | (simp only [List.length_drop, List.length_take]; rfl)) ?_; (with_reducible refine (waypointref08_Sum.calls kj5 _ _ l0 t226 t227 _ ?side1 ?side2 A10.out).mono ?_); (case side1 => repeat (first | exact (Kd.C_below HR0.out HB.out) | (with_reducible refine Kd.C_alloc ?_ _) | (with_reducible refine Kd.C_drewN ?_ _) | (with_reducible refine Kd.C_drew ?_))); (case side2 => exact HC0.out); rintro e w' ⟨rfl, ⟨nd, rfl⟩⟩; refine ⟨_, rfl, ?_⟩; (try (rw [drewN_self w23]; generalize hq_ : World.drewN w23 _ = w23; have n0_ : Aside0 (w23.heap[gb224]? = some (.cells #[.int .i64 0, .int .i64 0] 39 (0, 0))) := ⟨by rw [← hq_]; exact (by (with_reducible repeat (first | refine blk_drewN ?_ _ | refine blk_drew ?_ | refine blk_alloc ?_ _)); exact BK224.out)⟩; have n1_ : Aside0 (w23.heap[gb225]? = some (.cells #[.int .i64 0, .int .i64 0] 39 (0, 0))) := ⟨by rw [← hq_]; exact (by (with_reducible repeat (first | refine blk_drewN ?_ _ | refine blk_drew ?_ | refine blk_alloc ?_ _)); exact BK225.out)⟩; have n2_ : Aside0 (Below w.heap.size w w23) := ⟨by rw [← hq_]; exact (by repeat (first | (with_reducible first | exact HB.out | apply below_alloc | apply pw_below_drewN | apply below_drew1 | refine below_set ?_ GE224.out | refine below_set ?_ GE225.out) | exact HB.out))⟩; clear BK224 BK225 HB hq_; have BK224 := n0_; have BK225 := n1_; have HB := n2_; clear n0_ n1_ n2_)); have hnb24 := NB224_225.out; have hnc24 := NB225_224.out; have hcz25_0 : w23.cell? ⟨gb224, 0, none⟩ = some (.int .i64 0) := (blk_cell BK224.out 0).trans rfl; have hcz25_1 : w23.cell? ⟨gb224, 1, none⟩ = some (.int .i64 0) := (blk_cell BK224.out 1).trans rfl; have hfz25_0 := blk_frozen BK224.out 0; have hfz25_1 := blk_frozen BK224.out 1) | ((with_reducible refine gate_callee (f := 11) rfl ?_); refine goesL_ (some 36) rfl rfl Try.func11 (by kernel_rfl) rfl #[.slice A1 l1.length c1] rfl (by (try simp only [List.map_toArray, List.map_cons, List.map_nil]); first | done | rfl | (simp only [List.length_drop, List.length_take]; rfl)) ?_; (with_reducible refine (waypointref08_Sum.calls kj5 _ _ l1 t228 t229 _ ?side1 ?side2 A11.out).mono ?_); (case side1 => exact Kd.C_below HR1.out (by repeat (first | (with_reducible first | exact HB.out | apply below_alloc | apply pw_below_drewN | apply below_drew1 | refine below_set ?_ GE224.out | refine below_set ?_ GE225.out) | exact HB.out))); (case side2 => exact HC1.out); rintro e w' ⟨rfl, ⟨nd, rfl⟩⟩; refine ⟨_, rfl, ?_⟩; have hcz26_0 : w23.cell? ⟨gb225, 0, none⟩ = some (.int .i64 0) := (blk_cell BK225.out 0).trans rfl; have hcz26_1 : w23.cell? ⟨gb225, 1, none⟩ = some (.int .i64 0) := (blk_cell BK225.out 1).trans rfl; have hfz26_0 := blk_frozen BK225.out 0; have hfz26_1 := blk_frozen BK225.out 1) | ((with_reducible refine gate_callee (f := 15) rfl ?_); refine goesL_ (some 46) rfl rfl Try.func15 (by kernel_rfl) rfl #[.agg #[.int .i64 t226, .int .i64 t227], .agg #[.int .i64 t228, .int .i64 t229], .int .i64 (l1.length : Int)] rfl (by (try simp only [List.map_toArray, List.map_cons, List.map_nil]); first | done | rfl | (simp only [List.length_drop, List.length_take]; rfl)) ?_; (with_reducible refine (fletcher_Join.calls t226 t227 t228 t229 (l1.length : Int) t230 t231 _ A12.out).mono ?_); rintro e w27 ⟨rfl, hb⟩; refine ⟨_, rfl, ?_⟩; have n0_ := Aside0.mk (blk_below (g := gb224) (o := .cells #[.int .i64 t226, .int .i64 t227] 39 (0, 0)) (by (with_reducible repeat (first | refine blk_drewN ?_ _ | refine blk_drew ?_ | refine blk_alloc ?_ _)); refine blk_far ?_ NB224_225.out _; (with_reducible repeat (first | refine blk_drewN ?_ _ | refine blk_drew ?_ | refine blk_alloc ?_ _)); refine blk_far ?_ NB224_225.out _; (with_reducible repeat (first | refine blk_drewN ?_ _ | refine blk_drew ?_ | refine blk_alloc ?_ _)); refine blk_put (cs := #[.int .i64 t226, .int .i64 0]) ?_ 1 _ rfl; (with_reducible repeat (first | refine blk_drewN ?_ _ | refine blk_drew ?_ | refine blk_alloc ?_ _)); refine blk_put (cs := #[.int .i64 0, .int .i64 0]) ?_ 0 _ rfl; (with_reducible repeat (first | refine blk_drewN ?_ _ | refine blk_drew ?_ | refine blk_alloc ?_ _)); exact BK224.out) hb); have n1_ := Aside0.mk (blk_below (g := gb225) (o := .cells #[.int .i64 t228, .int .i64 t229] 39 (0, 0)) (by (with_reducible repeat (first | refine blk_drewN ?_ _ | refine blk_drew ?_ | refine blk_alloc ?_ _)); refine blk_put (cs := #[.int .i64 t228, .int .i64 0]) ?_ 1 _ rfl; (with_reducible repeat (first | refine blk_drewN ?_ _ | refine blk_drew ?_ | refine blk_alloc ?_ _)); refine blk_put (cs := #[.int .i64 0, .int .i64 0]) ?_ 0 _ rfl; (with_reducible repeat (first | refine blk_drewN ?_ _ | refine blk_drew ?_ | refine blk_alloc ?_ _)); refine blk_far ?_ NB225_224.out _; (with_reducible repeat (first | refine blk_drewN ?_ _ | refine blk_drew ?_ | refine blk_alloc ?_ _)); refine blk_far ?_ NB225_224.out _; (with_reducible repeat (first | refine blk_drewN ?_ _ | refine blk_drew ?_ | refine blk_alloc ?_ _)); exact BK225.out) hb); have n2_ := Aside0.mk (below_step (by repeat (first | (with_reducible first | exact HB.out | apply below_alloc | apply pw_below_drewN | apply below_drew1 | refine below_set ?_ GE224.out | refine below_set ?_ GE225.out) | exact HB.out)) hb); clear BK224; clear BK225; clear HB; have BK224 := n0_; have BK225 := n1_; have HB := n2_; clear n0_ n1_ n2_; (try clear hb); (try clear hb2); (try clear hk); (try clear hi)) | ((with_reducible refine gate_dst (N := 50) rfl ?_); (try (refine gate_guard (by rfl) ?_; dsimp only)); refine Kd.R_lit (Kd.int .u8) _ 5 ?hg (N := 50) ?hd (xs := ([] : List Int)) (inner := []) (ok := fun _ => True) (okp := fun _ => True) ?hr ?hp (fun _ hk => hk) trivial (Below.refl _ _) (Nat.le_refl _) (by simp) ?_; (case hd => rfl); (case hg => rfl); (case hr => first | (go_simp; done) | (go_simp; rfl)); (case hp => exact (Reps.none _ _)); intro v233 w28 ho29 hb hg_ hnew_; clear hg_ hnew_; (first | rw [← Ny232.out] at ho29 | (simp only [Int.reduceToNat] at ho29; rw [← Ny232.out] at ho29)); have n0_ := Aside0.mk (Kd.R_lower ho29 (below_size (by repeat (first | (with_reducible first | exact HB.out | apply below_alloc | apply pw_below_drewN | apply below_drew1 | refine below_set ?_ GE224.out | refine below_set ?_ GE225.out) | exact HB.out)))); have n1_ := Aside0.mk (blk_below (g := gb224) (o := .cells #[.int .i64 t226, .int .i64 t227] 39 (0, 0)) (by (with_reducible repeat (first | refine blk_drewN ?_ _ | refine blk_drew ?_ | refine blk_alloc ?_ _)); exact BK224.out) hb); have n2_ := Aside0.mk (blk_below (g := gb225) (o := .cells #[.int .i64 t228, .int .i64 t229] 39 (0, 0)) (by (with_reducible repeat (first | refine blk_drewN ?_ _ | refine blk_drew ?_ | refine blk_alloc ?_ _)); exact BK225.out) hb); have n3_ := Aside0.mk (below_step (by repeat (first | (with_reducible first | exact HB.out | apply below_alloc | apply pw_below_drewN | apply below_drew1 | refine below_set ?_ GE224.out | refine below_set ?_ GE225.out) | exact HB.out)) hb); clear BK224; clear BK225; clear HB; have HO234 := n0_; have BK224 := n1_; have BK225 := n2_; have HB := n3_; clear n0_ n1_ n2_ n3_; clear hb ho29) | ((with_reducible refine gate_builtin (b := .append) (xs := #[.tmp 50, .tmp 51]) rfl ?_); (try (refine gate_guard (by rfl) ?_; dsimp only)); at_builtin; refine Kd.R_append_rows (Kd.int .u8) (w0 := w) w.heap.size rfl (.tmp 50) (.tmp 51) 22 5 (.int .u8 0) 1 rfl Try.underlying22 info5 rfl (by decide) (by omega) v233 y232 l0 _ _ _ (fun _ => True) (fun _ => False) rfl rfl ?aO ?aR (fun _ _ h => h) (fun _ h => h.elim) ?aF ?aB ?aS ?aL ?_; (case aR => repeat (first | exact (Kd.C_below HR0.out HB.out) | (with_reducible refine Kd.C_alloc ?_ _) | (with_reducible refine Kd.C_drewN ?_ _) | (with_reducible refine Kd.C_drew ?_))); (case aB => exact (by repeat (first | (with_reducible first | exact HB.out | apply below_alloc | apply pw_below_drewN | apply below_drew1 | refine below_set ?_ GE224.out | refine below_set ?_ GE225.out) | exact HB.out))); (case aF => exact (fun _ _ => trivial)); (case aO => exact (by (with_reducible repeat (first | apply Kd.R_alloc | apply Kd.R_drewN | apply Kd.R_drew)); exact HO234.out)); (case aS => exact (below_size (by repeat (first | (with_reducible first | exact HB.out | apply below_alloc | apply pw_below_drewN | apply below_drew1 | refine below_set ?_ GE224.out | refine below_set ?_ GE225.out) | exact HB.out)))); (case aL => have := LMc13.out; omega); intro v236 w30 ho hb hg hat; rw [← Ny235.out] at ho; have n0_ := Aside0.mk (blk_grown (g := gb224) (o := .cells #[.int .i64 t226, .int .i64 t227] 39 (0, 0)) (by (with_reducible repeat (first | refine blk_drewN ?_ _ | refine blk_drew ?_ | refine blk_alloc ?_ _)); exact BK224.out) hg (Kd.R_ne HO234.out BK224.out (by decide))); have n1_ := Aside0.mk (blk_grown (g := gb225) (o := .cells #[.int .i64 t228, .int .i64 t229] 39 (0, 0)) (by (with_reducible repeat (first | refine blk_drewN ?_ _ | refine blk_drew ?_ | refine blk_alloc ?_ _)); exact BK225.out) hg (Kd.R_ne HO234.out BK225.out (by decide))); have n2_ := Aside0.mk (hb); have n3_ := Aside0.mk (ho); clear BK224; clear BK225; clear HB; clear HO234; have BK224 := n0_; have BK225 := n1_; have HB := n2_; have HO237 := n3_; clear n0_ n1_ n2_ n3_; clear ho hb hg hat) | ((with_reducible refine gate_builtin (b := .append) (xs := #[.tmp 52, .tmp 53]) rfl ?_); (try (refine gate_guard (by rfl) ?_; dsimp only)); at_builtin; refine Kd.R_append_rows (Kd.int .u8) (w0 := w) w.heap.size rfl (.tmp 52) (.tmp 53) 22 5 (.int .u8 0) 1 rfl Try.underlying22 info5 rfl (by decide) (by omega) v236 y235 l1 _ _ _ (fun _ => True) (fun _ => False) rfl rfl ?aO ?aR (fun _ _ h => h) (fun _ h => h.elim) ?aF ?aB ?aS ?aL ?_; (case aR => repeat (first | exact (Kd.C_below HR1.out HB.out) | (with_reducible refine Kd.C_alloc ?_ _) | (with_reducible refine Kd.C_drewN ?_ _) | (with_reducible refine Kd.C_drew ?_))); (case aB => exact (by repeat (first | (with_reducible first | exact HB.out | apply below_alloc | apply pw_below_drewN | apply below_drew1 | refine below_set ?_ GE224.out | refine below_set ?_ GE225.out) | exact HB.out))); (case aF => exact (fun _ _ => trivial)); (case aO => exact (by (with_reducible repeat (first | apply Kd.R_alloc | apply Kd.R_drewN | apply Kd.R_drew)); exact HO237.out)); (case aS => exact (below_size (by repeat (first | (with_reducible first | exact HB.out | apply below_alloc | apply pw_below_drewN | apply below_drew1 | refine below_set ?_ GE224.out | refine below_set ?_ GE225.out) | exact HB.out)))); (case aL => have := LMc14.out; omega); intro v239 w31 ho hb hg hat; rw [← Ny238.out] at ho; have n0_ := Aside0.mk (blk_grown (g := gb224) (o := .cells #[.int .i64 t226, .int .i64 t227] 39 (0, 0)) (by (with_reducible repeat (first | refine blk_drewN ?_ _ | refine blk_drew ?_ | refine blk_alloc ?_ _)); exact BK224.out) hg (Kd.R_ne HO237.out BK224.out (by decide))); have n1_ := Aside0.mk (blk_grown (g := gb225) (o := .cells #[.int .i64 t228, .int .i64 t229] 39 (0, 0)) (by (with_reducible repeat (first | refine blk_drewN ?_ _ | refine blk_drew ?_ | refine blk_alloc ?_ _)); exact BK225.out) hg (Kd.R_ne HO237.out BK225.out (by decide))); have n2_ := Aside0.mk (hb); have n3_ := Aside0.mk (ho); clear BK224; clear BK225; clear HB; clear HO237; have BK224 := n0_; have BK225 := n1_; have HB := n2_; have HO240 := n3_; clear n0_ n1_ n2_ n3_; clear ho hb hg hat; obtain ⟨Ao32, co32, eo32⟩ := Kd.R_slice HO240.out; subst eo32) | ((with_reducible refine gate_callee (f := 11) rfl ?_); refine goesL_ (some 55) rfl rfl Try.func11 (by kernel_rfl) rfl #[.slice Ao32 y238.length co32] rfl (by (try simp only [List.map_toArray, List.map_cons, List.map_nil]); first | done | rfl | (simp only [List.length_drop, List.length_take]; rfl)) ?_; (with_reducible refine (waypointref08_Sum.calls kj5 _ _ y238 t241 t242 _ ?side1 ?side2 A15.out).mono ?_); (case side1 => repeat (first | exact (Kd.R_reads' HO240.out).2.2 | (with_reducible refine Kd.C_alloc ?_ _) | (with_reducible refine Kd.C_drewN ?_ _) | (with_reducible refine Kd.C_drew ?_))); (case side2 => exact (Kd.R_reads' HO240.out).2.1); rintro e w' ⟨rfl, ⟨nd, rfl⟩⟩; refine ⟨_, rfl, ?_⟩; have hcz33_0 : w31.cell? ⟨gb224, 0, none⟩ = some (.int .i64 t226) := (blk_cell BK224.out 0).trans rfl; have hcz33_1 : w31.cell? ⟨gb224, 1, none⟩ = some (.int .i64 t227) := (blk_cell BK224.out 1).trans rfl; have hfz33_0 := blk_frozen BK224.out 0; have hfz33_1 := blk_frozen BK224.out 1; have hcz34_0 : w31.cell? ⟨gb225, 0, none⟩ = some (.int .i64 t228) := (blk_cell BK225.out 0).trans rfl; have hcz34_1 : w31.cell? ⟨gb225, 1, none⟩ = some (.int .i64 t229) := (blk_cell BK225.out 1).trans rfl; have hfz34_0 := blk_frozen BK225.out 0; have hfz34_1 := blk_frozen BK225.out 1) | ((with_reducible refine gate_callee (f := 15) rfl ?_); refine goesL_ (some 62) rfl rfl Try.func15 (by kernel_rfl) rfl #[.agg #[.int .i64 t226, .int .i64 t227], .agg #[.int .i64 t228, .int .i64 t229], .int .i64 a2] rfl (by (try simp only [List.map_toArray, List.map_cons, List.map_nil]); first | done | rfl | (simp only [List.length_drop, List.length_take]; rfl)) ?_; (with_reducible refine (fletcher_Join.calls t226 t227 t228 t229 a2 t243 t244 _ A16.out).mono ?_); rintro e w35 ⟨rfl, hb⟩; refine ⟨_, rfl, ?_⟩; have n0_ := Aside0.mk (Kd.R_below (by (with_reducible repeat (first | apply Kd.R_alloc | apply Kd.R_drewN | apply Kd.R_drew)); exact HO240.out) hb); have n1_ := Aside0.mk (blk_below (g := gb224) (o := .cells #[.int .i64 t226, .int .i64 t227] 39 (0, 0)) (by (with_reducible repeat (first | refine blk_drewN ?_ _ | refine blk_drew ?_ | refine blk_alloc ?_ _)); exact BK224.out) hb); have n2_ := Aside0.mk (blk_below (g := gb225) (o := .cells #[.int .i64 t228, .int .i64 t229] 39 (0, 0)) (by (with_reducible repeat (first | refine blk_drewN ?_ _ | refine blk_drew ?_ | refine blk_alloc ?_ _)); exact BK225.out) hb); have n3_ := Aside0.mk (below_step (by repeat (first | (with_reducible first | exact HB.out | apply below_alloc | apply pw_below_drewN | apply below_drew1 | refine below_set ?_ GE224.out | refine below_set ?_ GE225.out) | exact HB.out)) hb); clear HO240; clear BK224; clear BK225; clear HB; have HO240 := n0_; have BK224 := n1_; have BK225 := n2_; have HB := n3_; clear n0_ n1_ n2_ n3_; (try clear hb); (try clear hb2); (try clear hk); (try clear hi)))
                    have n0_ := Aside0.mk (Kd.R_drew HO240.out)
                    have n1_ := Aside0.mk (blk_drew BK224.out)
                    have n2_ := Aside0.mk (blk_drew BK225.out)
                    have n3_ := Aside0.mk (below_drew1 HB.out)
                    clear HO240
                    clear BK224
                    clear BK225
                    clear HB
                    have HO240 := n0_
                    have BK224 := n1_
                    have BK225 := n2_
                    have HB := n3_
                    clear n0_ n1_ n2_ n3_
                    refine start_ (n := 10) (S := fun w' => w'.cell? ⟨gb224, 0, none⟩ = some (.int .i64 t226) ∧ w'.cell? ⟨gb224, 1, none⟩ = some (.int .i64 t227) ∧ w'.cell? ⟨gb225, 0, none⟩ = some (.int .i64 t228) ∧ w'.cell? ⟨gb225, 1, none⟩ = some (.int .i64 t229)) (ds := []) #[false, false, false, false, false, false, false, false, false, false] (by kernel_rfl) rfl rfl ⟨(blk_cell BK224.out 0).trans rfl, (blk_cell BK224.out 1).trans rfl, (blk_cell BK225.out 0).trans rfl, (blk_cell BK225.out 1).trans rfl⟩ (fun hHeld => ?_); refine with_tabW waypointlaw08_FletcherJoins.tab11 waypointlaw08_FletcherJoins.bits11 (fun HT_ HW_ => ?_)
                    generalize w35.drew = w36 at HO240 BK224 BK225 HB hHeld ⊢
                    refine pure_ (i := 2) (N := some 68) (v := ?_) (a' := ?_) #[false, false, true, false, false, false, false, false, false, false] rfl rfl (any_of HT_.out (by kernel_rfl)) (fun _ _ _ h => h) (Or.inl ⟨by rfl, ?_⟩) ?_ ?_
                    rotate_left
                    · intro w'
                      go_simp
                      with_reducible rfl
                    rotate_left
                    · simp only [Act.put, List.setIfInBounds_toArray, List.set_cons_zero, List.set_cons_succ, i64_w, i32_w]
                      rfl
                    refine take_ (i := 0) (N := some 66) (v := ?_) (a' := ?_) #[true, false, true, false, false, false, false, false, false, false] rfl rfl (take_ofW HT_.out HW_.out (by kernel_rfl)) (fun _ _ _ h => h) (Or.inl ⟨by rfl, ?_⟩) hHeld ?_ ?_
                    rotate_left
                    · rintro w' ⟨s0, s1, s2, s3⟩
                      go_simp
                      with_reducible rfl
                    rotate_left
                    · simp only [Act.put, List.setIfInBounds_toArray, List.set_cons_zero, List.set_cons_succ, i64_w, i32_w]
                      rfl
                    refine take_ (i := 1) (N := some 67) (v := ?_) (a' := ?_) #[true, true, true, false, false, false, false, false, false, false] rfl rfl (take_ofW HT_.out HW_.out (by kernel_rfl)) (fun _ _ _ h => h) (Or.inl ⟨by rfl, ?_⟩) hHeld ?_ ?_
                    rotate_left
                    · rintro w' ⟨s0, s1, s2, s3⟩
                      go_simp
                      with_reducible rfl
                    rotate_left
                    · simp only [Act.put, List.setIfInBounds_toArray, List.set_cons_zero, List.set_cons_succ, i64_w, i32_w]
                      rfl
                    refine one_ (i := 3) (N := some 69) #[true, true, true, true, false, false, false, false, false, false] rfl rfl (one_of HT_.out (by kernel_rfl)) (by decide) (fun K hK => ?_)
                    refine goes_ Try.func16 (by kernel_rfl) rfl #[.int .i64 a2] (by rfl) rfl rfl (by (try simp only [List.map_toArray, List.map_cons, List.map_nil]); first | done | rfl | (simp only [List.length_drop, List.length_take]; rfl)) ?_
                    with_reducible refine (waypointref08_Reduced.calls a2 t245 _ A17.out).mono ?_
                    rintro e w' ⟨rfl, ⟨nd, rfl⟩⟩
                    refine ⟨_, rfl, ?_⟩
                    refine hK.out _ _ ⟨(blk_cell BK224.out 0).trans rfl, (blk_cell BK224.out 1).trans rfl, (blk_cell BK225.out 0).trans rfl, (blk_cell BK225.out 1).trans rfl⟩ (fun hHeld => ?_)
                    clear hK K
                    refine norm_ (a' := ?_) ?_ ?_
                    rotate_left
                    · show Act.put _ (some 69) _ = _
                      simp only [Act.put, List.setIfInBounds_toArray, List.set_cons_zero, List.set_cons_succ, i64_w, i32_w]
                      rfl
                    refine one_ (i := 4) (N := some 70) #[true, true, true, true, true, false, false, false, false, false] rfl rfl (one_of HT_.out (by kernel_rfl)) (by decide) (fun K hK => ?_)
                    refine goes_ Try.func15 (by kernel_rfl) rfl #[.agg #[.int .i64 t226, .int .i64 t227], .agg #[.int .i64 t228, .int .i64 t229], .int .i64 t245] (by rfl) rfl rfl (by (try simp only [List.map_toArray, List.map_cons, List.map_nil]); first | done | rfl | (simp only [List.length_drop, List.length_take]; rfl)) ?_
                    with_reducible refine (fletcher_Join.calls t226 t227 t228 t229 t245 t246 t247 _ A18.out).mono ?_
                    rintro e w37 ⟨rfl, hb⟩
                    refine ⟨_, rfl, ?_⟩
                    have n0_ := Aside0.mk (Kd.R_below (by (with_reducible repeat (first | apply Kd.R_alloc | apply Kd.R_drewN | apply Kd.R_drew)); exact HO240.out) hb)
                    have n1_ := Aside0.mk (blk_below (g := gb224) (o := .cells #[.int .i64 t226, .int .i64 t227] 39 (0, 0)) (by (with_reducible repeat (first | refine blk_drewN ?_ _ | refine blk_drew ?_ | refine blk_alloc ?_ _)); exact BK224.out) hb)
                    have n2_ := Aside0.mk (blk_below (g := gb225) (o := .cells #[.int .i64 t228, .int .i64 t229] 39 (0, 0)) (by (with_reducible repeat (first | refine blk_drewN ?_ _ | refine blk_drew ?_ | refine blk_alloc ?_ _)); exact BK225.out) hb)
                    have n3_ := Aside0.mk (below_step (by repeat (first | (with_reducible first | exact HB.out | apply below_alloc | apply pw_below_drewN | apply below_drew1 | refine below_set ?_ GE224.out | refine below_set ?_ GE225.out) | exact HB.out)) hb)
                    clear HO240
                    clear BK224
                    clear BK225
                    clear HB
                    have HO240 := n0_
                    have BK224 := n1_
                    have BK225 := n2_
                    have HB := n3_
                    clear n0_ n1_ n2_ n3_
                    (try clear hb)
                    (try clear hb2)
                    (try clear hk)
                    (try clear hi)
                    refine hK.out _ _ ⟨(blk_cell BK224.out 0).trans rfl, (blk_cell BK224.out 1).trans rfl, (blk_cell BK225.out 0).trans rfl, (blk_cell BK225.out 1).trans rfl⟩ (fun hHeld => ?_)
                    clear hK K
                    refine norm_ (a' := ?_) ?_ ?_
                    rotate_left
                    · show Act.put _ (some 70) _ = _
                      simp only [Act.put, List.setIfInBounds_toArray, List.set_cons_zero, List.set_cons_succ, i64_w, i32_w]
                      rfl
                    refine pure_ (i := 5) (N := some 65) (v := ?_) (a' := ?_) #[true, true, true, true, true, true, false, false, false, false] rfl rfl (any_of HT_.out (by kernel_rfl)) (fun _ _ _ h => h) (Or.inl ⟨by rfl, ?_⟩) ?_ ?_
                    rotate_left
                    · intro w'
                      go_simp
                      with_reducible rfl
                    rotate_left
                    · simp only [Act.put, List.setIfInBounds_toArray, List.set_cons_zero, List.set_cons_succ, i64_w, i32_w]
                      rfl
                    refine pure_ (i := 6) (N := some 71) (v := ?_) (a' := ?_) #[true, true, true, true, true, true, true, false, false, false] rfl rfl (any_of HT_.out (by kernel_rfl)) (fun _ _ _ h => h) (Or.inl ⟨by rfl, ?_⟩) ?_ ?_
                    rotate_left
                    · intro w'
                      go_simp
                      with_reducible rfl
                    rotate_left
                    · simp only [Act.put, List.setIfInBounds_toArray, List.set_cons_zero, List.set_cons_succ, i64_w, i32_w]
                      rfl
                    refine pure_ (i := 7) (N := some 72) (v := ?_) (a' := ?_) #[true, true, true, true, true, true, true, true, false, false] rfl rfl (any_of HT_.out (by kernel_rfl)) (fun _ _ _ h => h) (Or.inl ⟨by rfl, ?_⟩) ?_ ?_
                    rotate_left
                    · intro w'
                      go_simp
                      with_reducible rfl
                    rotate_left
                    · simp only [Act.put, List.setIfInBounds_toArray, List.set_cons_zero, List.set_cons_succ, i64_w, i32_w]
                      rfl
                    refine pure_ (i := 8) (N := some 15) (v := ?_) (a' := ?_) #[true, true, true, true, true, true, true, true, true, false] rfl rfl (any_of HT_.out (by kernel_rfl)) (fun _ _ _ h => h) (Or.inl ⟨by rfl, ?_⟩) ?_ ?_
                    rotate_left
                    · intro w'
                      go_simp
                      with_reducible rfl
                    rotate_left
                    · simp only [Act.put, List.setIfInBounds_toArray, List.set_cons_zero, List.set_cons_succ, i64_w, i32_w]
                      rfl
                    refine pure_ (i := 9) (N := some 16) (v := ?_) (a' := ?_) #[true, true, true, true, true, true, true, true, true, true] rfl rfl (any_of HT_.out (by kernel_rfl)) (fun _ _ _ h => h) (Or.inl ⟨by rfl, ?_⟩) ?_ ?_
                    rotate_left
                    · intro w'
                      go_simp
                      with_reducible rfl
                    rotate_left
                    · simp only [Act.put, List.setIfInBounds_toArray, List.set_cons_zero, List.set_cons_succ, i64_w, i32_w]
                      rfl
                    refine done_ (done_of HT_.out (by kernel_rfl)) ?_
                    try go_wp2
                    go_ret
                    exact ⟨by first | rfl | (simp [errW_none, errW_some] <;> rfl) | (simp [*, errW_none, errW_some] <;> rfl), by repeat (first | (with_reducible first | exact HB.out | apply below_alloc | apply pw_below_drewN | apply below_drew1 | refine below_set ?_ GE224.out | refine below_set ?_ GE225.out) | exact HB.out)⟩
                  · rw [if_neg c21] at H
                    have c21b0 : (t243 == t246) = false := beq_eq_false_iff_ne.mpr c21
                    have c21b1 : (t243 != t246) = true := bne_iff_ne.mpr c21
                    obtain rfl := Option.some.inj H
                    try go_wp2_with (first | ((with_reducible refine gate_dst (N := 7) rfl ?_); (try (refine gate_guard (by rfl) ?_; dsimp only)); refine box_event ?hg (N := 7) ?hd (cs := #[.int .i64 0, .int .i64 0]) (t := 39) ?hr ?_; (case hd => rfl); (case hg => rfl); (case hr => first | (go_simp; done) | (go_simp; rfl)); intro gb224 hg w38 hbox hb; have n0_ := Aside0.mk (below_step (by repeat (first | (with_reducible first | exact HB.out | apply below_alloc | apply pw_below_drewN | apply below_drew1) | exact HB.out)) hb); have n1_ := Aside0.mk (hbox); have n2_ := Aside0.mk ((by rw [hg]; exact (below_size (by repeat (first | (with_reducible first | exact HB.out | apply below_alloc | apply pw_below_drewN | apply below_drew1) | exact HB.out))) : w.heap.size ≤ gb224)); have n3_ := Aside0.mk ((by rw [hg]; exact (below_size (by repeat (first | (with_reducible first | exact HB.out | apply below_alloc | apply pw_below_drewN | apply below_drew1) | exact HB.out))) : w.heap.size ≤ gb224)); clear HB; have HB := n0_; have BK224 := n1_; have GW224 := n2_; have GE224 := n3_; clear n0_ n1_ n2_ n3_; clear hb hbox hg) | ((with_reducible refine gate_dst (N := 8) rfl ?_); (try (refine gate_guard (by rfl) ?_; dsimp only)); refine box_event ?hg (N := 8) ?hd (cs := #[.int .i64 0, .int .i64 0]) (t := 39) ?hr ?_; (case hd => rfl); (case hg => rfl); (case hr => first | (go_simp; done) | (go_simp; rfl)); intro gb225 hg w39 hbox hb; have n0_ := Aside0.mk (blk_below (g := gb224) (o := .cells #[.int .i64 0, .int .i64 0] 39 (0, 0)) (by (with_reducible repeat (first | refine blk_drewN ?_ _ | refine blk_drew ?_ | refine blk_alloc ?_ _)); exact BK224.out) hb); have n1_ := Aside0.mk (below_step (by repeat (first | (with_reducible first | exact HB.out | apply below_alloc | apply pw_below_drewN | apply below_drew1 | refine below_set ?_ GE224.out) | exact HB.out)) hb); have n2_ := Aside0.mk (hbox); have n3_ := Aside0.mk ((by rw [hg]; exact (below_size (by repeat (first | (with_reducible first | exact HB.out | apply below_alloc | apply pw_below_drewN | apply below_drew1 | refine below_set ?_ GE224.out) | exact HB.out))) : w.heap.size ≤ gb225)); have n4_ := Aside0.mk ((by rw [hg]; exact (below_size (by repeat (first | (with_reducible first | exact HB.out | apply below_alloc | apply pw_below_drewN | apply below_drew1 | refine below_set ?_ GE224.out) | exact HB.out))) : w.heap.size ≤ gb225)); have n5_ := Aside0.mk ((by rw [hg]; exact Nat.ne_of_lt (blk_lt (g := gb224) (o := .cells #[.int .i64 0, .int .i64 0] 39 (0, 0)) (by (with_reducible repeat (first | refine blk_drewN ?_ _ | refine blk_drew ?_ | refine blk_alloc ?_ _)); exact BK224.out)) : gb224 ≠ gb225)); have n6_ := Aside0.mk ((by rw [hg]; exact Nat.ne_of_gt (blk_lt (g := gb224) (o := .cells #[.int .i64 0, .int .i64 0] 39 (0, 0)) (by (with_reducible repeat (first | refine blk_drewN ?_ _ | refine blk_drew ?_ | refine blk_alloc ?_ _)); exact BK224.out)) : gb225 ≠ gb224)); clear BK224; clear HB; have BK224 := n0_; have HB := n1_; have BK225 := n2_; have GW225 := n3_; have GE225 := n4_; have NB224_225 := n5_; have NB225_224 := n6_; clear n0_ n1_ n2_ n3_ n4_ n5_ n6_; clear hb hbox hg) | ((with_reducible refine gate_callee (f := 11) rfl ?_); refine goesL_ (some 29) rfl rfl Try.func11 (by kernel_rfl) rfl #[.slice A0 l0.length c0] rfl (by (try simp only [List.map_toArray, List.map_cons, List.map_nil]); first | done | rfl | (simp only [List.length_drop, List.length_take]; rfl)) ?_; (with_reducible refine (waypointref08_Sum.calls kj5 _ _ l0 t226 t227 _ ?side1 ?side2 A10.out).mono ?_); (case side1 => repeat (first | exact (Kd.C_below HR0.out HB.out) | (with_reducible refine Kd.C_alloc ?_ _) | (with_reducible refine Kd.C_drewN ?_ _) | (with_reducible refine Kd.C_drew ?_))); (case side2 => exact HC0.out); rintro e w' ⟨rfl, ⟨nd, rfl⟩⟩; refine ⟨_, rfl, ?_⟩; (try (rw [drewN_self w39]; generalize hq_ : World.drewN w39 _ = w39; have n0_ : Aside0 (w39.heap[gb224]? = some (.cells #[.int .i64 0, .int .i64 0] 39 (0, 0))) := ⟨by rw [← hq_]; exact (by (with_reducible repeat (first | refine blk_drewN ?_ _ | refine blk_drew ?_ | refine blk_alloc ?_ _)); exact BK224.out)⟩; have n1_ : Aside0 (w39.heap[gb225]? = some (.cells #[.int .i64 0, .int .i64 0] 39 (0, 0))) := ⟨by rw [← hq_]; exact (by (with_reducible repeat (first | refine blk_drewN ?_ _ | refine blk_drew ?_ | refine blk_alloc ?_ _)); exact BK225.out)⟩; have n2_ : Aside0 (Below w.heap.size w w39) := ⟨by rw [← hq_]; exact (by repeat (first | (with_reducible first | exact HB.out | apply below_alloc | apply pw_below_drewN | apply below_drew1 | refine below_set ?_ GE224.out | refine below_set ?_ GE225.out) | exact HB.out))⟩; clear BK224 BK225 HB hq_; have BK224 := n0_; have BK225 := n1_; have HB := n2_; clear n0_ n1_ n2_)); have hnb40 := NB224_225.out; have hnc40 := NB225_224.out; have hcz41_0 : w39.cell? ⟨gb224, 0, none⟩ = some (.int .i64 0) := (blk_cell BK224.out 0).trans rfl; have hcz41_1 : w39.cell? ⟨gb224, 1, none⟩ = some (.int .i64 0) := (blk_cell BK224.out 1).trans rfl; have hfz41_0 := blk_frozen BK224.out 0; have hfz41_1 := blk_frozen BK224.out 1) | ((with_reducible refine gate_callee (f := 11) rfl ?_); refine goesL_ (some 36) rfl rfl Try.func11 (by kernel_rfl) rfl #[.slice A1 l1.length c1] rfl (by (try simp only [List.map_toArray, List.map_cons, List.map_nil]); first | done | rfl | (simp only [List.length_drop, List.length_take]; rfl)) ?_; (with_reducible refine (waypointref08_Sum.calls kj5 _ _ l1 t228 t229 _ ?side1 ?side2 A11.out).mono ?_); (case side1 => exact Kd.C_below HR1.out (by repeat (first | (with_reducible first | exact HB.out | apply below_alloc | apply pw_below_drewN | apply below_drew1 | refine below_set ?_ GE224.out | refine below_set ?_ GE225.out) | exact HB.out))); (case side2 => exact HC1.out); rintro e w' ⟨rfl, ⟨nd, rfl⟩⟩; refine ⟨_, rfl, ?_⟩; have hcz42_0 : w39.cell? ⟨gb225, 0, none⟩ = some (.int .i64 0) := (blk_cell BK225.out 0).trans rfl; have hcz42_1 : w39.cell? ⟨gb225, 1, none⟩ = some (.int .i64 0) := (blk_cell BK225.out 1).trans rfl; have hfz42_0 := blk_frozen BK225.out 0; have hfz42_1 := blk_frozen BK225.out 1) | ((with_reducible refine gate_callee (f := 15) rfl ?_); refine goesL_ (some 46) rfl rfl Try.func15 (by kernel_rfl) rfl #[.agg #[.int .i64 t226, .int .i64 t227], .agg #[.int .i64 t228, .int .i64 t229], .int .i64 (l1.length : Int)] rfl (by (try simp only [List.map_toArray, List.map_cons, List.map_nil]); first | done | rfl | (simp only [List.length_drop, List.length_take]; rfl)) ?_; (with_reducible refine (fletcher_Join.calls t226 t227 t228 t229 (l1.length : Int) t230 t231 _ A12.out).mono ?_); rintro e w43 ⟨rfl, hb⟩; refine ⟨_, rfl, ?_⟩; have n0_ := Aside0.mk (blk_below (g := gb224) (o := .cells #[.int .i64 t226, .int .i64 t227] 39 (0, 0)) (by (with_reducible repeat (first | refine blk_drewN ?_ _ | refine blk_drew ?_ | refine blk_alloc ?_ _)); refine blk_far ?_ NB224_225.out _; (with_reducible repeat (first | refine blk_drewN ?_ _ | refine blk_drew ?_ | refine blk_alloc ?_ _)); refine blk_far ?_ NB224_225.out _; (with_reducible repeat (first | refine blk_drewN ?_ _ | refine blk_drew ?_ | refine blk_alloc ?_ _)); refine blk_put (cs := #[.int .i64 t226, .int .i64 0]) ?_ 1 _ rfl; (with_reducible repeat (first | refine blk_drewN ?_ _ | refine blk_drew ?_ | refine blk_alloc ?_ _)); refine blk_put (cs := #[.int .i64 0, .int .i64 0]) ?_ 0 _ rfl; (with_reducible repeat (first | refine blk_drewN ?_ _ | refine blk_drew ?_ | refine blk_alloc ?_ _)); exact BK224.out) hb); have n1_ := Aside0.mk (blk_below (g := gb225) (o := .cells #[.int .i64 t228, .int .i64 t229] 39 (0, 0)) (by (with_reducible repeat (first | refine blk_drewN ?_ _ | refine blk_drew ?_ | refine blk_alloc ?_ _)); refine blk_put (cs := #[.int .i64 t228, .int .i64 0]) ?_ 1 _ rfl; (with_reducible repeat (first | refine blk_drewN ?_ _ | refine blk_drew ?_ | refine blk_alloc ?_ _)); refine blk_put (cs := #[.int .i64 0, .int .i64 0]) ?_ 0 _ rfl; (with_reducible repeat (first | refine blk_drewN ?_ _ | refine blk_drew ?_ | refine blk_alloc ?_ _)); refine blk_far ?_ NB225_224.out _; (with_reducible repeat (first | refine blk_drewN ?_ _ | refine blk_drew ?_ | refine blk_alloc ?_ _)); refine blk_far ?_ NB225_224.out _; (with_reducible repeat (first | refine blk_drewN ?_ _ | refine blk_drew ?_ | refine blk_alloc ?_ _)); exact BK225.out) hb); have n2_ := Aside0.mk (below_step (by repeat (first | (with_reducible first | exact HB.out | apply below_alloc | apply pw_below_drewN | apply below_drew1 | refine below_set ?_ GE224.out | refine below_set ?_ GE225.out) | exact HB.out)) hb); clear BK224; clear BK225; clear HB; have BK224 := n0_; have BK225 := n1_; have HB := n2_; clear n0_ n1_ n2_; (try clear hb); (try clear hb2); (try clear hk); (try clear hi)) | ((with_reducible refine gate_dst (N := 50) rfl ?_); (try (refine gate_guard (by rfl) ?_; dsimp only)); refine Kd.R_lit (Kd.int .u8) _ 5 ?hg (N := 50) ?hd (xs := ([] : List Int)) (inner := []) (ok := fun _ => True) (okp := fun _ => True) ?hr ?hp (fun _ hk => hk) trivial (Below.refl _ _) (Nat.le_refl _) (by simp) ?_; (case hd => rfl); (case hg => rfl); (case hr => first | (go_simp; done) | (go_simp; rfl)); (case hp => exact (Reps.none _ _)); intro v233 w44 ho45 hb hg_ hnew_; clear hg_ hnew_; (first | rw [← Ny232.out] at ho45 | (simp only [Int.reduceToNat] at ho45; rw [← Ny232.out] at ho45)); have n0_ := Aside0.mk (Kd.R_lower ho45 (below_size (by repeat (first | (with_reducible first | exact HB.out | apply below_alloc | apply pw_below_drewN | apply below_drew1 | refine below_set ?_ GE224.out | refine below_set ?_ GE225.out) | exact HB.out)))); have n1_ := Aside0.mk (blk_below (g := gb224) (o := .cells #[.int .i64 t226, .int .i64 t227] 39 (0, 0)) (by (with_reducible repeat (first | refine blk_drewN ?_ _ | refine blk_drew ?_ | refine blk_alloc ?_ _)); exact BK224.out) hb); have n2_ := Aside0.mk (blk_below (g := gb225) (o := .cells #[.int .i64 t228, .int .i64 t229] 39 (0, 0)) (by (with_reducible repeat (first | refine blk_drewN ?_ _ | refine blk_drew ?_ | refine blk_alloc ?_ _)); exact BK225.out) hb); have n3_ := Aside0.mk (below_step (by repeat (first | (with_reducible first | exact HB.out | apply below_alloc | apply pw_below_drewN | apply below_drew1 | refine below_set ?_ GE224.out | refine below_set ?_ GE225.out) | exact HB.out)) hb); clear BK224; clear BK225; clear HB; have HO234 := n0_; have BK224 := n1_; have BK225 := n2_; have HB := n3_; clear n0_ n1_ n2_ n3_; clear hb ho45) | ((with_reducible refine gate_builtin (b := .append) (xs := #[.tmp 50, .tmp 51]) rfl ?_); (try (refine gate_guard (by rfl) ?_; dsimp only)); at_builtin; refine Kd.R_append_rows (Kd.int .u8) (w0 := w) w.heap.size rfl (.tmp 50) (.tmp 51) 22 5 (.int .u8 0) 1 rfl Try.underlying22 info5 rfl (by decide) (by omega) v233 y232 l0 _ _ _ (fun _ => True) (fun _ => False) rfl rfl ?aO ?aR (fun _ _ h => h) (fun _ h => h.elim) ?aF ?aB ?aS ?aL ?_; (case aR => repeat (first | exact (Kd.C_below HR0.out HB.out) | (with_reducible refine Kd.C_alloc ?_ _) | (with_reducible refine Kd.C_drewN ?_ _) | (with_reducible refine Kd.C_drew ?_))); (case aB => exact (by repeat (first | (with_reducible first | exact HB.out | apply below_alloc | apply pw_below_drewN | apply below_drew1 | refine below_set ?_ GE224.out | refine below_set ?_ GE225.out) | exact HB.out))); (case aF => exact (fun _ _ => trivial)); (case aO => exact (by (with_reducible repeat (first | apply Kd.R_alloc | apply Kd.R_drewN | apply Kd.R_drew)); exact HO234.out)); (case aS => exact (below_size (by repeat (first | (with_reducible first | exact HB.out | apply below_alloc | apply pw_below_drewN | apply below_drew1 | refine below_set ?_ GE224.out | refine below_set ?_ GE225.out) | exact HB.out)))); (case aL => have := LMc13.out; omega); intro v236 w46 ho hb hg hat; rw [← Ny235.out] at ho; have n0_ := Aside0.mk (blk_grown (g := gb224) (o := .cells #[.int .i64 t226, .int .i64 t227] 39 (0, 0)) (by (with_reducible repeat (first | refine blk_drewN ?_ _ | refine blk_drew ?_ | refine blk_alloc ?_ _)); exact BK224.out) hg (Kd.R_ne HO234.out BK224.out (by decide))); have n1_ := Aside0.mk (blk_grown (g := gb225) (o := .cells #[.int .i64 t228, .int .i64 t229] 39 (0, 0)) (by (with_reducible repeat (first | refine blk_drewN ?_ _ | refine blk_drew ?_ | refine blk_alloc ?_ _)); exact BK225.out) hg (Kd.R_ne HO234.out BK225.out (by decide))); have n2_ := Aside0.mk (hb); have n3_ := Aside0.mk (ho); clear BK224; clear BK225; clear HB; clear HO234; have BK224 := n0_; have BK225 := n1_; have HB := n2_; have HO237 := n3_; clear n0_ n1_ n2_ n3_; clear ho hb hg hat) | ((with_reducible refine gate_builtin (b := .append) (xs := #[.tmp 52, .tmp 53]) rfl ?_); (try (refine gate_guard (by rfl) ?_; dsimp only)); at_builtin; refine Kd.R_append_rows (Kd.int .u8) (w0 := w) w.heap.size rfl (.tmp 52) (.tmp 53) 22 5 (.int .u8 0) 1 rfl Try.underlying22 info5 rfl (by decide) (by omega) v236 y235 l1 _ _ _ (fun _ => True) (fun _ => False) rfl rfl ?aO ?aR (fun _ _ h => h) (fun _ h => h.elim) ?aF ?aB ?aS ?aL ?_; (case aR => repeat (first | exact (Kd.C_below HR1.out HB.out) | (with_reducible refine Kd.C_alloc ?_ _) | (with_reducible refine Kd.C_drewN ?_ _) | (with_reducible refine Kd.C_drew ?_))); (case aB => exact (by repeat (first | (with_reducible first | exact HB.out | apply below_alloc | apply pw_below_drewN | apply below_drew1 | refine below_set ?_ GE224.out | refine below_set ?_ GE225.out) | exact HB.out))); (case aF => exact (fun _ _ => trivial)); (case aO => exact (by (with_reducible repeat (first | apply Kd.R_alloc | apply Kd.R_drewN | apply Kd.R_drew)); exact HO237.out)); (case aS => exact (below_size (by repeat (first | (with_reducible first | exact HB.out | apply below_alloc | apply pw_below_drewN | apply below_drew1 | refine below_set ?_ GE224.out | refine below_set ?_ GE225.out) | exact HB.out)))); (case aL => have := LMc14.out; omega); intro v239 w47 ho hb hg hat; rw [← Ny238.out] at ho; have n0_ := Aside0.mk (blk_grown (g := gb224) (o := .cells #[.int .i64 t226, .int .i64 t227] 39 (0, 0)) (by (with_reducible repeat (first | refine blk_drewN ?_ _ | refine blk_drew ?_ | refine blk_alloc ?_ _)); exact BK224.out) hg (Kd.R_ne HO237.out BK224.out (by decide))); have n1_ := Aside0.mk (blk_grown (g := gb225) (o := .cells #[.int .i64 t228, .int .i64 t229] 39 (0, 0)) (by (with_reducible repeat (first | refine blk_drewN ?_ _ | refine blk_drew ?_ | refine blk_alloc ?_ _)); exact BK225.out) hg (Kd.R_ne HO237.out BK225.out (by decide))); have n2_ := Aside0.mk (hb); have n3_ := Aside0.mk (ho); clear BK224; clear BK225; clear HB; clear HO237; have BK224 := n0_; have BK225 := n1_; have HB := n2_; have HO240 := n3_; clear n0_ n1_ n2_ n3_; clear ho hb hg hat; obtain ⟨Ao48, co48, eo48⟩ := Kd.R_slice HO240.out; subst eo48) | ((with_reducible refine gate_callee (f := 11) rfl ?_); refine goesL_ (some 55) rfl rfl Try.func11 (by kernel_rfl) rfl #[.slice Ao48 y238.length co48] rfl (by (try simp only [List.map_toArray, List.map_cons, List.map_nil]); first | done | rfl | (simp only [List.length_drop, List.length_take]; rfl)) ?_; (with_reducible refine (waypointref08_Sum.calls kj5 _ _ y238 t241 t242 _ ?side1 ?side2 A15.out).mono ?_); (case side1 => repeat (first | exact (Kd.R_reads' HO240.out).2.2 | (with_reducible refine Kd.C_alloc ?_ _) | (with_reducible refine Kd.C_drewN ?_ _) | (with_reducible refine Kd.C_drew ?_))); (case side2 => exact (Kd.R_reads' HO240.out).2.1); rintro e w' ⟨rfl, ⟨nd, rfl⟩⟩; refine ⟨_, rfl, ?_⟩; have hcz49_0 : w47.cell? ⟨gb224, 0, none⟩ = some (.int .i64 t226) := (blk_cell BK224.out 0).trans rfl; have hcz49_1 : w47.cell? ⟨gb224, 1, none⟩ = some (.int .i64 t227) := (blk_cell BK224.out 1).trans rfl; have hfz49_0 := blk_frozen BK224.out 0; have hfz49_1 := blk_frozen BK224.out 1; have hcz50_0 : w47.cell? ⟨gb225, 0, none⟩ = some (.int .i64 t228) := (blk_cell BK225.out 0).trans rfl; have hcz50_1 : w47.cell? ⟨gb225, 1, none⟩ = some (.int .i64 t229) := (blk_cell BK225.out 1).trans rfl; have hfz50_0 := blk_frozen BK225.out 0; have hfz50_1 := blk_frozen BK225.out 1) | ((with_reducible refine gate_callee (f := 15) rfl ?_); refine goesL_ (some 62) rfl rfl Try.func15 (by kernel_rfl) rfl #[.agg #[.int .i64 t226, .int .i64 t227], .agg #[.int .i64 t228, .int .i64 t229], .int .i64 a2] rfl (by (try simp only [List.map_toArray, List.map_cons, List.map_nil]); first | done | rfl | (simp only [List.length_drop, List.length_take]; rfl)) ?_; (with_reducible refine (fletcher_Join.calls t226 t227 t228 t229 a2 t243 t244 _ A16.out).mono ?_); rintro e w51 ⟨rfl, hb⟩; refine ⟨_, rfl, ?_⟩; have n0_ := Aside0.mk (Kd.R_below (by (with_reducible repeat (first | apply Kd.R_alloc | apply Kd.R_drewN | apply Kd.R_drew)); exact HO240.out) hb); have n1_ := Aside0.mk (blk_below (g := gb224) (o := .cells #[.int .i64 t226, .int .i64 t227] 39 (0, 0)) (by (with_reducible repeat (first | refine blk_drewN ?_ _ | refine blk_drew ?_ | refine blk_alloc ?_ _)); exact BK224.out) hb); have n2_ := Aside0.mk (blk_below (g := gb225) (o := .cells #[.int .i64 t228, .int .i64 t229] 39 (0, 0)) (by (with_reducible repeat (first | refine blk_drewN ?_ _ | refine blk_drew ?_ | refine blk_alloc ?_ _)); exact BK225.out) hb); have n3_ := Aside0.mk (below_step (by repeat (first | (with_reducible first | exact HB.out | apply below_alloc | apply pw_below_drewN | apply below_drew1 | refine below_set ?_ GE224.out | refine below_set ?_ GE225.out) | exact HB.out)) hb); clear HO240; clear BK224; clear BK225; clear HB; have HO240 := n0_; have BK224 := n1_; have BK225 := n2_; have HB := n3_; clear n0_ n1_ n2_ n3_; (try clear hb); (try clear hb2); (try clear hk); (try clear hi)))
                    have n0_ := Aside0.mk (Kd.R_drew HO240.out)
                    have n1_ := Aside0.mk (blk_drew BK224.out)
                    have n2_ := Aside0.mk (blk_drew BK225.out)
                    have n3_ := Aside0.mk (below_drew1 HB.out)
                    clear HO240
                    clear BK224
                    clear BK225
                    clear HB
                    have HO240 := n0_
                    have BK224 := n1_
                    have BK225 := n2_
                    have HB := n3_
                    clear n0_ n1_ n2_ n3_
                    refine start_ (n := 10) (S := fun w' => w'.cell? ⟨gb224, 0, none⟩ = some (.int .i64 t226) ∧ w'.cell? ⟨gb224, 1, none⟩ = some (.int .i64 t227) ∧ w'.cell? ⟨gb225, 0, none⟩ = some (.int .i64 t228) ∧ w'.cell? ⟨gb225, 1, none⟩ = some (.int .i64 t229)) (ds := []) #[false, false, false, false, false, false, false, false, false, false] (by kernel_rfl) rfl rfl ⟨(blk_cell BK224.out 0).trans rfl, (blk_cell BK224.out 1).trans rfl, (blk_cell BK225.out 0).trans rfl, (blk_cell BK225.out 1).trans rfl⟩ (fun hHeld => ?_); refine with_tabW waypointlaw08_FletcherJoins.tab11 waypointlaw08_FletcherJoins.bits11 (fun HT_ HW_ => ?_)
                    generalize w51.drew = w52 at HO240 BK224 BK225 HB hHeld ⊢
                    refine pure_ (i := 2) (N := some 68) (v := ?_) (a' := ?_) #[false, false, true, false, false, false, false, false, false, false] rfl rfl (any_of HT_.out (by kernel_rfl)) (fun _ _ _ h => h) (Or.inl ⟨by rfl, ?_⟩) ?_ ?_
                    rotate_left
                    · intro w'
                      go_simp
                      with_reducible rfl
                    rotate_left
                    · simp only [Act.put, List.setIfInBounds_toArray, List.set_cons_zero, List.set_cons_succ, i64_w, i32_w]
                      rfl
                    refine take_ (i := 0) (N := some 66) (v := ?_) (a' := ?_) #[true, false, true, false, false, false, false, false, false, false] rfl rfl (take_ofW HT_.out HW_.out (by kernel_rfl)) (fun _ _ _ h => h) (Or.inl ⟨by rfl, ?_⟩) hHeld ?_ ?_
                    rotate_left
                    · rintro w' ⟨s0, s1, s2, s3⟩
                      go_simp
                      with_reducible rfl
                    rotate_left
                    · simp only [Act.put, List.setIfInBounds_toArray, List.set_cons_zero, List.set_cons_succ, i64_w, i32_w]
                      rfl
                    refine take_ (i := 1) (N := some 67) (v := ?_) (a' := ?_) #[true, true, true, false, false, false, false, false, false, false] rfl rfl (take_ofW HT_.out HW_.out (by kernel_rfl)) (fun _ _ _ h => h) (Or.inl ⟨by rfl, ?_⟩) hHeld ?_ ?_
                    rotate_left
                    · rintro w' ⟨s0, s1, s2, s3⟩
                      go_simp
                      with_reducible rfl
                    rotate_left
                    · simp only [Act.put, List.setIfInBounds_toArray, List.set_cons_zero, List.set_cons_succ, i64_w, i32_w]
                      rfl
                    refine one_ (i := 3) (N := some 69) #[true, true, true, true, false, false, false, false, false, false] rfl rfl (one_of HT_.out (by kernel_rfl)) (by decide) (fun K hK => ?_)
                    refine goes_ Try.func16 (by kernel_rfl) rfl #[.int .i64 a2] (by rfl) rfl rfl (by (try simp only [List.map_toArray, List.map_cons, List.map_nil]); first | done | rfl | (simp only [List.length_drop, List.length_take]; rfl)) ?_
                    with_reducible refine (waypointref08_Reduced.calls a2 t245 _ A17.out).mono ?_
                    rintro e w' ⟨rfl, ⟨nd, rfl⟩⟩
                    refine ⟨_, rfl, ?_⟩
                    refine hK.out _ _ ⟨(blk_cell BK224.out 0).trans rfl, (blk_cell BK224.out 1).trans rfl, (blk_cell BK225.out 0).trans rfl, (blk_cell BK225.out 1).trans rfl⟩ (fun hHeld => ?_)
                    clear hK K
                    refine norm_ (a' := ?_) ?_ ?_
                    rotate_left
                    · show Act.put _ (some 69) _ = _
                      simp only [Act.put, List.setIfInBounds_toArray, List.set_cons_zero, List.set_cons_succ, i64_w, i32_w]
                      rfl
                    refine one_ (i := 4) (N := some 70) #[true, true, true, true, true, false, false, false, false, false] rfl rfl (one_of HT_.out (by kernel_rfl)) (by decide) (fun K hK => ?_)
                    refine goes_ Try.func15 (by kernel_rfl) rfl #[.agg #[.int .i64 t226, .int .i64 t227], .agg #[.int .i64 t228, .int .i64 t229], .int .i64 t245] (by rfl) rfl rfl (by (try simp only [List.map_toArray, List.map_cons, List.map_nil]); first | done | rfl | (simp only [List.length_drop, List.length_take]; rfl)) ?_
                    with_reducible refine (fletcher_Join.calls t226 t227 t228 t229 t245 t246 t247 _ A18.out).mono ?_
                    rintro e w53 ⟨rfl, hb⟩
                    refine ⟨_, rfl, ?_⟩
                    have n0_ := Aside0.mk (Kd.R_below (by (with_reducible repeat (first | apply Kd.R_alloc | apply Kd.R_drewN | apply Kd.R_drew)); exact HO240.out) hb)
                    have n1_ := Aside0.mk (blk_below (g := gb224) (o := .cells #[.int .i64 t226, .int .i64 t227] 39 (0, 0)) (by (with_reducible repeat (first | refine blk_drewN ?_ _ | refine blk_drew ?_ | refine blk_alloc ?_ _)); exact BK224.out) hb)
                    have n2_ := Aside0.mk (blk_below (g := gb225) (o := .cells #[.int .i64 t228, .int .i64 t229] 39 (0, 0)) (by (with_reducible repeat (first | refine blk_drewN ?_ _ | refine blk_drew ?_ | refine blk_alloc ?_ _)); exact BK225.out) hb)
                    have n3_ := Aside0.mk (below_step (by repeat (first | (with_reducible first | exact HB.out | apply below_alloc | apply pw_below_drewN | apply below_drew1 | refine below_set ?_ GE224.out | refine below_set ?_ GE225.out) | exact HB.out)) hb)
                    clear HO240
                    clear BK224
                    clear BK225
                    clear HB
                    have HO240 := n0_
                    have BK224 := n1_
                    have BK225 := n2_
                    have HB := n3_
                    clear n0_ n1_ n2_ n3_
                    (try clear hb)
                    (try clear hb2)
                    (try clear hk)
                    (try clear hi)
                    refine hK.out _ _ ⟨(blk_cell BK224.out 0).trans rfl, (blk_cell BK224.out 1).trans rfl, (blk_cell BK225.out 0).trans rfl, (blk_cell BK225.out 1).trans rfl⟩ (fun hHeld => ?_)
                    clear hK K
                    refine norm_ (a' := ?_) ?_ ?_
                    rotate_left
                    · show Act.put _ (some 70) _ = _
                      simp only [Act.put, List.setIfInBounds_toArray, List.set_cons_zero, List.set_cons_succ, i64_w, i32_w]
                      rfl
                    refine pure_ (i := 5) (N := some 65) (v := ?_) (a' := ?_) #[true, true, true, true, true, true, false, false, false, false] rfl rfl (any_of HT_.out (by kernel_rfl)) (fun _ _ _ h => h) (Or.inl ⟨by rfl, ?_⟩) ?_ ?_
                    rotate_left
                    · intro w'
                      go_simp
                      with_reducible rfl
                    rotate_left
                    · simp only [Act.put, List.setIfInBounds_toArray, List.set_cons_zero, List.set_cons_succ, i64_w, i32_w]
                      rfl
                    refine pure_ (i := 6) (N := some 71) (v := ?_) (a' := ?_) #[true, true, true, true, true, true, true, false, false, false] rfl rfl (any_of HT_.out (by kernel_rfl)) (fun _ _ _ h => h) (Or.inl ⟨by rfl, ?_⟩) ?_ ?_
                    rotate_left
                    · intro w'
                      go_simp
                      with_reducible rfl
                    rotate_left
                    · simp only [Act.put, List.setIfInBounds_toArray, List.set_cons_zero, List.set_cons_succ, i64_w, i32_w]
                      rfl
                    refine pure_ (i := 7) (N := some 72) (v := ?_) (a' := ?_) #[true, true, true, true, true, true, true, true, false, false] rfl rfl (any_of HT_.out (by kernel_rfl)) (fun _ _ _ h => h) (Or.inl ⟨by rfl, ?_⟩) ?_ ?_
                    rotate_left
                    · intro w'
                      go_simp
                      with_reducible rfl
                    rotate_left
                    · simp only [Act.put, List.setIfInBounds_toArray, List.set_cons_zero, List.set_cons_succ, i64_w, i32_w]
                      rfl
                    refine pure_ (i := 8) (N := some 15) (v := ?_) (a' := ?_) #[true, true, true, true, true, true, true, true, true, false] rfl rfl (any_of HT_.out (by kernel_rfl)) (fun _ _ _ h => h) (Or.inl ⟨by rfl, ?_⟩) ?_ ?_
                    rotate_left
                    · intro w'
                      go_simp
                      with_reducible rfl
                    rotate_left
                    · simp only [Act.put, List.setIfInBounds_toArray, List.set_cons_zero, List.set_cons_succ, i64_w, i32_w]
                      rfl
                    refine pure_ (i := 9) (N := some 16) (v := ?_) (a' := ?_) #[true, true, true, true, true, true, true, true, true, true] rfl rfl (any_of HT_.out (by kernel_rfl)) (fun _ _ _ h => h) (Or.inl ⟨by rfl, ?_⟩) ?_ ?_
                    rotate_left
                    · intro w'
                      go_simp
                      with_reducible rfl
                    rotate_left
                    · simp only [Act.put, List.setIfInBounds_toArray, List.set_cons_zero, List.set_cons_succ, i64_w, i32_w]
                      rfl
                    refine done_ (done_of HT_.out (by kernel_rfl)) ?_
                    try go_wp2
                    go_ret
                    exact ⟨by first | rfl | (simp [errW_none, errW_some] <;> rfl) | (simp [*, errW_none, errW_some] <;> rfl), by repeat (first | (with_reducible first | exact HB.out | apply below_alloc | apply pw_below_drewN | apply below_drew1 | refine below_set ?_ GE224.out | refine below_set ?_ GE225.out) | exact HB.out)⟩
                · rw [if_neg c20] at H
                  have c20b0 : (t231 == t242) = false := beq_eq_false_iff_ne.mpr c20
                  have c20b1 : (t231 != t242) = true := bne_iff_ne.mpr c20
                  obtain rfl := Option.some.inj H
                  try go_wp2_with (first | ((with_reducible refine gate_dst (N := 7) rfl ?_); (try (refine gate_guard (by rfl) ?_; dsimp only)); refine box_event ?hg (N := 7) ?hd (cs := #[.int .i64 0, .int .i64 0]) (t := 39) ?hr ?_; (case hd => rfl); (case hg => rfl); (case hr => first | (go_simp; done) | (go_simp; rfl)); intro gb224 hg w54 hbox hb; have n0_ := Aside0.mk (below_step (by repeat (first | (with_reducible first | exact HB.out | apply below_alloc | apply pw_below_drewN | apply below_drew1) | exact HB.out)) hb); have n1_ := Aside0.mk (hbox); have n2_ := Aside0.mk ((by rw [hg]; exact (below_size (by repeat (first | (with_reducible first | exact HB.out | apply below_alloc | apply pw_below_drewN | apply below_drew1) | exact HB.out))) : w.heap.size ≤ gb224)); have n3_ := Aside0.mk ((by rw [hg]; exact (below_size (by repeat (first | (with_reducible first | exact HB.out | apply below_alloc | apply pw_below_drewN | apply below_drew1) | exact HB.out))) : w.heap.size ≤ gb224)); clear HB; have HB := n0_; have BK224 := n1_; have GW224 := n2_; have GE224 := n3_; clear n0_ n1_ n2_ n3_; clear hb hbox hg) | ((with_reducible refine gate_dst (N := 8) rfl ?_); (try (refine gate_guard (by rfl) ?_; dsimp only)); refine box_event ?hg (N := 8) ?hd (cs := #[.int .i64 0, .int .i64 0]) (t := 39) ?hr ?_; (case hd => rfl); (case hg => rfl); (case hr => first | (go_simp; done) | (go_simp; rfl)); intro gb225 hg w55 hbox hb; have n0_ := Aside0.mk (blk_below (g := gb224) (o := .cells #[.int .i64 0, .int .i64 0] 39 (0, 0)) (by (with_reducible repeat (first | refine blk_drewN ?_ _ | refine blk_drew ?_ | refine blk_alloc ?_ _)); exact BK224.out) hb); have n1_ := Aside0.mk (below_step (by repeat (first | (with_reducible first | exact HB.out | apply below_alloc | apply pw_below_drewN | apply below_drew1 | refine below_set ?_ GE224.out) | exact HB.out)) hb); have n2_ := Aside0.mk (hbox); have n3_ := Aside0.mk ((by rw [hg]; exact (below_size (by repeat (first | (with_reducible first | exact HB.out | apply below_alloc | apply pw_below_drewN | apply below_drew1 | refine below_set ?_ GE224.out) | exact HB.out))) : w.heap.size ≤ gb225)); have n4_ := Aside0.mk ((by rw [hg]; exact (below_size (by repeat (first | (with_reducible first | exact HB.out | apply below_alloc | apply pw_below_drewN | apply below_drew1 | refine below_set ?_ GE224.out) | exact HB.out))) : w.heap.size ≤ gb225)); have n5_ := Aside0.mk ((by rw [hg]; exact Nat.ne_of_lt (blk_lt (g := gb224) (o := .cells #[.int .i64 0, .int .i64 0] 39 (0, 0)) (by (with_reducible repeat (first | refine blk_drewN ?_ _ | refine blk_drew ?_ | refine blk_alloc ?_ _)); exact BK224.out)) : gb224 ≠ gb225)); have n6_ := Aside0.mk ((by rw [hg]; exact Nat.ne_of_gt (blk_lt (g := gb224) (o := .cells #[.int .i64 0, .int .i64 0] 39 (0, 0)) (by (with_reducible repeat (first | refine blk_drewN ?_ _ | refine blk_drew ?_ | refine blk_alloc ?_ _)); exact BK224.out)) : gb225 ≠ gb224)); clear BK224; clear HB; have BK224 := n0_; have HB := n1_; have BK225 := n2_; have GW225 := n3_; have GE225 := n4_; have NB224_225 := n5_; have NB225_224 := n6_; clear n0_ n1_ n2_ n3_ n4_ n5_ n6_; clear hb hbox hg) | ((with_reducible refine gate_callee (f := 11) rfl ?_); refine goesL_ (some 29) rfl rfl Try.func11 (by kernel_rfl) rfl #[.slice A0 l0.length c0] rfl (by (try simp only [List.map_toArray, List.map_cons, List.map_nil]); first | done | rfl | (simp only [List.length_drop, List.length_take]; rfl)) ?_; (with_reducible refine (waypointref08_Sum.calls kj5 _ _ l0 t226 t227 _ ?side1 ?side2 A10.out).mono ?_); (case side1 => repeat (first | exact (Kd.C_below HR0.out HB.out) | (with_reducible refine Kd.C_alloc ?_ _) | (with_reducible refine Kd.C_drewN ?_ _) | (with_reducible refine Kd.C_drew ?_))); (case side2 => exact HC0.out); rintro e w' ⟨rfl, ⟨nd, rfl⟩⟩; refine ⟨_, rfl, ?_⟩; (try (rw [drewN_self w55]; generalize hq_ : World.drewN w55 _ = w55; have n0_ : Aside0 (w55.heap[gb224]? = some (.cells #[.int .i64 0, .int .i64 0] 39 (0, 0))) := ⟨by rw [← hq_]; exact (by (with_reducible repeat (first | refine blk_drewN ?_ _ | refine blk_drew ?_ | refine blk_alloc ?_ _)); exact BK224.out)⟩; have n1_ : Aside0 (w55.heap[gb225]? = some (.cells #[.int .i64 0, .int .i64 0] 39 (0, 0))) := ⟨by rw [← hq_]; exact (by (with_reducible repeat (first | refine blk_drewN ?_ _ | refine blk_drew ?_ | refine blk_alloc ?_ _)); exact BK225.out)⟩; have n2_ : Aside0 (Below w.heap.size w w55) := ⟨by rw [← hq_]; exact (by repeat (first | (with_reducible first | exact HB.out | apply below_alloc | apply pw_below_drewN | apply below_drew1 | refine below_set ?_ GE224.out | refine below_set ?_ GE225.out) | exact HB.out))⟩; clear BK224 BK225 HB hq_; have BK224 := n0_; have BK225 := n1_; have HB := n2_; clear n0_ n1_ n2_)); have hnb56 := NB224_225.out; have hnc56 := NB225_224.out; have hcz57_0 : w55.cell? ⟨gb224, 0, none⟩ = some (.int .i64 0) := (blk_cell BK224.out 0).trans rfl; have hcz57_1 : w55.cell? ⟨gb224, 1, none⟩ = some (.int .i64 0) := (blk_cell BK224.out 1).trans rfl; have hfz57_0 := blk_frozen BK224.out 0; have hfz57_1 := blk_frozen BK224.out 1) | ((with_reducible refine gate_callee (f := 11) rfl ?_); refine goesL_ (some 36) rfl rfl Try.func11 (by kernel_rfl) rfl #[.slice A1 l1.length c1] rfl (by (try simp only [List.map_toArray, List.map_cons, List.map_nil]); first | done | rfl | (simp only [List.length_drop, List.length_take]; rfl)) ?_; (with_reducible refine (waypointref08_Sum.calls kj5 _ _ l1 t228 t229 _ ?side1 ?side2 A11.out).mono ?_); (case side1 => exact Kd.C_below HR1.out (by repeat (first | (with_reducible first | exact HB.out | apply below_alloc | apply pw_below_drewN | apply below_drew1 | refine below_set ?_ GE224.out | refine below_set ?_ GE225.out) | exact HB.out))); (case side2 => exact HC1.out); rintro e w' ⟨rfl, ⟨nd, rfl⟩⟩; refine ⟨_, rfl, ?_⟩; have hcz58_0 : w55.cell? ⟨gb225, 0, none⟩ = some (.int .i64 0) := (blk_cell BK225.out 0).trans rfl; have hcz58_1 : w55.cell? ⟨gb225, 1, none⟩ = some (.int .i64 0) := (blk_cell BK225.out 1).trans rfl; have hfz58_0 := blk_frozen BK225.out 0; have hfz58_1 := blk_frozen BK225.out 1) | ((with_reducible refine gate_callee (f := 15) rfl ?_); refine goesL_ (some 46) rfl rfl Try.func15 (by kernel_rfl) rfl #[.agg #[.int .i64 t226, .int .i64 t227], .agg #[.int .i64 t228, .int .i64 t229], .int .i64 (l1.length : Int)] rfl (by (try simp only [List.map_toArray, List.map_cons, List.map_nil]); first | done | rfl | (simp only [List.length_drop, List.length_take]; rfl)) ?_; (with_reducible refine (fletcher_Join.calls t226 t227 t228 t229 (l1.length : Int) t230 t231 _ A12.out).mono ?_); rintro e w59 ⟨rfl, hb⟩; refine ⟨_, rfl, ?_⟩; have n0_ := Aside0.mk (blk_below (g := gb224) (o := .cells #[.int .i64 t226, .int .i64 t227] 39 (0, 0)) (by (with_reducible repeat (first | refine blk_drewN ?_ _ | refine blk_drew ?_ | refine blk_alloc ?_ _)); refine blk_far ?_ NB224_225.out _; (with_reducible repeat (first | refine blk_drewN ?_ _ | refine blk_drew ?_ | refine blk_alloc ?_ _)); refine blk_far ?_ NB224_225.out _; (with_reducible repeat (first | refine blk_drewN ?_ _ | refine blk_drew ?_ | refine blk_alloc ?_ _)); refine blk_put (cs := #[.int .i64 t226, .int .i64 0]) ?_ 1 _ rfl; (with_reducible repeat (first | refine blk_drewN ?_ _ | refine blk_drew ?_ | refine blk_alloc ?_ _)); refine blk_put (cs := #[.int .i64 0, .int .i64 0]) ?_ 0 _ rfl; (with_reducible repeat (first | refine blk_drewN ?_ _ | refine blk_drew ?_ | refine blk_alloc ?_ _)); exact BK224.out) hb); have n1_ := Aside0.mk (blk_below (g := gb225) (o := .cells #[.int .i64 t228, .int .i64 t229] 39 (0, 0)) (by (with_reducible repeat (first | refine blk_drewN ?_ _ | refine blk_drew ?_ | refine blk_alloc ?_ _)); refine blk_put (cs := #[.int .i64 t228, .int .i64 0]) ?_ 1 _ rfl; (with_reducible repeat (first | refine blk_drewN ?_ _ | refine blk_drew ?_ | refine blk_alloc ?_ _)); refine blk_put (cs := #[.int .i64 0, .int .i64 0]) ?_ 0 _ rfl; (with_reducible repeat (first | refine blk_drewN ?_ _ | refine blk_drew ?_ | refine blk_alloc ?_ _)); refine blk_far ?_ NB225_224.out _; (with_reducible repeat (first | refine blk_drewN ?_ _ | refine blk_drew ?_ | refine blk_alloc ?_ _)); refine blk_far ?_ NB225_224.out _; (with_reducible repeat (first | refine blk_drewN ?_ _ | refine blk_drew ?_ | refine blk_alloc ?_ _)); exact BK225.out) hb); have n2_ := Aside0.mk (below_step (by repeat (first | (with_reducible first | exact HB.out | apply below_alloc | apply pw_below_drewN | apply below_drew1 | refine below_set ?_ GE224.out | refine below_set ?_ GE225.out) | exact HB.out)) hb); clear BK224; clear BK225; clear HB; have BK224 := n0_; have BK225 := n1_; have HB := n2_; clear n0_ n1_ n2_; (try clear hb); (try clear hb2); (try clear hk); (try clear hi)) | ((with_reducible refine gate_dst (N := 50) rfl ?_); (try (refine gate_guard (by rfl) ?_; dsimp only)); refine Kd.R_lit (Kd.int .u8) _ 5 ?hg (N := 50) ?hd (xs := ([] : List Int)) (inner := []) (ok := fun _ => True) (okp := fun _ => True) ?hr ?hp (fun _ hk => hk) trivial (Below.refl _ _) (Nat.le_refl _) (by simp) ?_; (case hd => rfl); (case hg => rfl); (case hr => first | (go_simp; done) | (go_simp; rfl)); (case hp => exact (Reps.none _ _)); intro v233 w60 ho61 hb hg_ hnew_; clear hg_ hnew_; (first | rw [← Ny232.out] at ho61 | (simp only [Int.reduceToNat] at ho61; rw [← Ny232.out] at ho61)); have n0_ := Aside0.mk (Kd.R_lower ho61 (below_size (by repeat (first | (with_reducible first | exact HB.out | apply below_alloc | apply pw_below_drewN | apply below_drew1 | refine below_set ?_ GE224.out | refine below_set ?_ GE225.out) | exact HB.out)))); have n1_ := Aside0.mk (blk_below (g := gb224) (o := .cells #[.int .i64 t226, .int .i64 t227] 39 (0, 0)) (by (with_reducible repeat (first | refine blk_drewN ?_ _ | refine blk_drew ?_ | refine blk_alloc ?_ _)); exact BK224.out) hb); have n2_ := Aside0.mk (blk_below (g := gb225) (o := .cells #[.int .i64 t228, .int .i64 t229] 39 (0, 0)) (by (with_reducible repeat (first | refine blk_drewN ?_ _ | refine blk_drew ?_ | refine blk_alloc ?_ _)); exact BK225.out) hb); have n3_ := Aside0.mk (below_step (by repeat (first | (with_reducible first | exact HB.out | apply below_alloc | apply pw_below_drewN | apply below_drew1 | refine below_set ?_ GE224.out | refine below_set ?_ GE225.out) | exact HB.out)) hb); clear BK224; clear BK225; clear HB; have HO234 := n0_; have BK224 := n1_; have BK225 := n2_; have HB := n3_; clear n0_ n1_ n2_ n3_; clear hb ho61) | ((with_reducible refine gate_builtin (b := .append) (xs := #[.tmp 50, .tmp 51]) rfl ?_); (try (refine gate_guard (by rfl) ?_; dsimp only)); at_builtin; refine Kd.R_append_rows (Kd.int .u8) (w0 := w) w.heap.size rfl (.tmp 50) (.tmp 51) 22 5 (.int .u8 0) 1 rfl Try.underlying22 info5 rfl (by decide) (by omega) v233 y232 l0 _ _ _ (fun _ => True) (fun _ => False) rfl rfl ?aO ?aR (fun _ _ h => h) (fun _ h => h.elim) ?aF ?aB ?aS ?aL ?_; (case aR => repeat (first | exact (Kd.C_below HR0.out HB.out) | (with_reducible refine Kd.C_alloc ?_ _) | (with_reducible refine Kd.C_drewN ?_ _) | (with_reducible refine Kd.C_drew ?_))); (case aB => exact (by repeat (first | (with_reducible first | exact HB.out | apply below_alloc | apply pw_below_drewN | apply below_drew1 | refine below_set ?_ GE224.out | refine below_set ?_ GE225.out) | exact HB.out))); (case aF => exact (fun _ _ => trivial)); (case aO => exact (by (with_reducible repeat (first | apply Kd.R_alloc | apply Kd.R_drewN | apply Kd.R_drew)); exact HO234.out)); (case aS => exact (below_size (by repeat (first | (with_reducible first | exact HB.out | apply below_alloc | apply pw_below_drewN | apply below_drew1 | refine below_set ?_ GE224.out | refine below_set ?_ GE225.out) | exact HB.out)))); (case aL => have := LMc13.out; omega); intro v236 w62 ho hb hg hat; rw [← Ny235.out] at ho; have n0_ := Aside0.mk (blk_grown (g := gb224) (o := .cells #[.int .i64 t226, .int .i64 t227] 39 (0, 0)) (by (with_reducible repeat (first | refine blk_drewN ?_ _ | refine blk_drew ?_ | refine blk_alloc ?_ _)); exact BK224.out) hg (Kd.R_ne HO234.out BK224.out (by decide))); have n1_ := Aside0.mk (blk_grown (g := gb225) (o := .cells #[.int .i64 t228, .int .i64 t229] 39 (0, 0)) (by (with_reducible repeat (first | refine blk_drewN ?_ _ | refine blk_drew ?_ | refine blk_alloc ?_ _)); exact BK225.out) hg (Kd.R_ne HO234.out BK225.out (by decide))); have n2_ := Aside0.mk (hb); have n3_ := Aside0.mk (ho); clear BK224; clear BK225; clear HB; clear HO234; have BK224 := n0_; have BK225 := n1_; have HB := n2_; have HO237 := n3_; clear n0_ n1_ n2_ n3_; clear ho hb hg hat) | ((with_reducible refine gate_builtin (b := .append) (xs := #[.tmp 52, .tmp 53]) rfl ?_); (try (refine gate_guard (by rfl) ?_; dsimp only)); at_builtin; refine Kd.R_append_rows (Kd.int .u8) (w0 := w) w.heap.size rfl (.tmp 52) (.tmp 53) 22 5 (.int .u8 0) 1 rfl Try.underlying22 info5 rfl (by decide) (by omega) v236 y235 l1 _ _ _ (fun _ => True) (fun _ => False) rfl rfl ?aO ?aR (fun _ _ h => h) (fun _ h => h.elim) ?aF ?aB ?aS ?aL ?_; (case aR => repeat (first | exact (Kd.C_below HR1.out HB.out) | (with_reducible refine Kd.C_alloc ?_ _) | (with_reducible refine Kd.C_drewN ?_ _) | (with_reducible refine Kd.C_drew ?_))); (case aB => exact (by repeat (first | (with_reducible first | exact HB.out | apply below_alloc | apply pw_below_drewN | apply below_drew1 | refine below_set ?_ GE224.out | refine below_set ?_ GE225.out) | exact HB.out))); (case aF => exact (fun _ _ => trivial)); (case aO => exact (by (with_reducible repeat (first | apply Kd.R_alloc | apply Kd.R_drewN | apply Kd.R_drew)); exact HO237.out)); (case aS => exact (below_size (by repeat (first | (with_reducible first | exact HB.out | apply below_alloc | apply pw_below_drewN | apply below_drew1 | refine below_set ?_ GE224.out | refine below_set ?_ GE225.out) | exact HB.out)))); (case aL => have := LMc14.out; omega); intro v239 w63 ho hb hg hat; rw [← Ny238.out] at ho; have n0_ := Aside0.mk (blk_grown (g := gb224) (o := .cells #[.int .i64 t226, .int .i64 t227] 39 (0, 0)) (by (with_reducible repeat (first | refine blk_drewN ?_ _ | refine blk_drew ?_ | refine blk_alloc ?_ _)); exact BK224.out) hg (Kd.R_ne HO237.out BK224.out (by decide))); have n1_ := Aside0.mk (blk_grown (g := gb225) (o := .cells #[.int .i64 t228, .int .i64 t229] 39 (0, 0)) (by (with_reducible repeat (first | refine blk_drewN ?_ _ | refine blk_drew ?_ | refine blk_alloc ?_ _)); exact BK225.out) hg (Kd.R_ne HO237.out BK225.out (by decide))); have n2_ := Aside0.mk (hb); have n3_ := Aside0.mk (ho); clear BK224; clear BK225; clear HB; clear HO237; have BK224 := n0_; have BK225 := n1_; have HB := n2_; have HO240 := n3_; clear n0_ n1_ n2_ n3_; clear ho hb hg hat; obtain ⟨Ao64, co64, eo64⟩ := Kd.R_slice HO240.out; subst eo64) | ((with_reducible refine gate_callee (f := 11) rfl ?_); refine goesL_ (some 55) rfl rfl Try.func11 (by kernel_rfl) rfl #[.slice Ao64 y238.length co64] rfl (by (try simp only [List.map_toArray, List.map_cons, List.map_nil]); first | done | rfl | (simp only [List.length_drop, List.length_take]; rfl)) ?_; (with_reducible refine (waypointref08_Sum.calls kj5 _ _ y238 t241 t242 _ ?side1 ?side2 A15.out).mono ?_); (case side1 => repeat (first | exact (Kd.R_reads' HO240.out).2.2 | (with_reducible refine Kd.C_alloc ?_ _) | (with_reducible refine Kd.C_drewN ?_ _) | (with_reducible refine Kd.C_drew ?_))); (case side2 => exact (Kd.R_reads' HO240.out).2.1); rintro e w' ⟨rfl, ⟨nd, rfl⟩⟩; refine ⟨_, rfl, ?_⟩; have hcz65_0 : w63.cell? ⟨gb224, 0, none⟩ = some (.int .i64 t226) := (blk_cell BK224.out 0).trans rfl; have hcz65_1 : w63.cell? ⟨gb224, 1, none⟩ = some (.int .i64 t227) := (blk_cell BK224.out 1).trans rfl; have hfz65_0 := blk_frozen BK224.out 0; have hfz65_1 := blk_frozen BK224.out 1; have hcz66_0 : w63.cell? ⟨gb225, 0, none⟩ = some (.int .i64 t228) := (blk_cell BK225.out 0).trans rfl; have hcz66_1 : w63.cell? ⟨gb225, 1, none⟩ = some (.int .i64 t229) := (blk_cell BK225.out 1).trans rfl; have hfz66_0 := blk_frozen BK225.out 0; have hfz66_1 := blk_frozen BK225.out 1) | ((with_reducible refine gate_callee (f := 15) rfl ?_); refine goesL_ (some 62) rfl rfl Try.func15 (by kernel_rfl) rfl #[.agg #[.int .i64 t226, .int .i64 t227], .agg #[.int .i64 t228, .int .i64 t229], .int .i64 a2] rfl (by (try simp only [List.map_toArray, List.map_cons, List.map_nil]); first | done | rfl | (simp only [List.length_drop, List.length_take]; rfl)) ?_; (with_reducible refine (fletcher_Join.calls t226 t227 t228 t229 a2 t243 t244 _ A16.out).mono ?_); rintro e w67 ⟨rfl, hb⟩; refine ⟨_, rfl, ?_⟩; have n0_ := Aside0.mk (Kd.R_below (by (with_reducible repeat (first | apply Kd.R_alloc | apply Kd.R_drewN | apply Kd.R_drew)); exact HO240.out) hb); have n1_ := Aside0.mk (blk_below (g := gb224) (o := .cells #[.int .i64 t226, .int .i64 t227] 39 (0, 0)) (by (with_reducible repeat (first | refine blk_drewN ?_ _ | refine blk_drew ?_ | refine blk_alloc ?_ _)); exact BK224.out) hb); have n2_ := Aside0.mk (blk_below (g := gb225) (o := .cells #[.int .i64 t228, .int .i64 t229] 39 (0, 0)) (by (with_reducible repeat (first | refine blk_drewN ?_ _ | refine blk_drew ?_ | refine blk_alloc ?_ _)); exact BK225.out) hb); have n3_ := Aside0.mk (below_step (by repeat (first | (with_reducible first | exact HB.out | apply below_alloc | apply pw_below_drewN | apply below_drew1 | refine below_set ?_ GE224.out | refine below_set ?_ GE225.out) | exact HB.out)) hb); clear HO240; clear BK224; clear BK225; clear HB; have HO240 := n0_; have BK224 := n1_; have BK225 := n2_; have HB := n3_; clear n0_ n1_ n2_ n3_; (try clear hb); (try clear hb2); (try clear hk); (try clear hi)))
                  have n0_ := Aside0.mk (Kd.R_drew HO240.out)
                  have n1_ := Aside0.mk (blk_drew BK224.out)
                  have n2_ := Aside0.mk (blk_drew BK225.out)
                  have n3_ := Aside0.mk (below_drew1 HB.out)
                  clear HO240
                  clear BK224
                  clear BK225
                  clear HB
                  have HO240 := n0_
                  have BK224 := n1_
                  have BK225 := n2_
                  have HB := n3_
                  clear n0_ n1_ n2_ n3_
                  refine start_ (n := 10) (S := fun w' => w'.cell? ⟨gb224, 0, none⟩ = some (.int .i64 t226) ∧ w'.cell? ⟨gb224, 1, none⟩ = some (.int .i64 t227) ∧ w'.cell? ⟨gb225, 0, none⟩ = some (.int .i64 t228) ∧ w'.cell? ⟨gb225, 1, none⟩ = some (.int .i64 t229)) (ds := []) #[false, false, false, false, false, false, false, false, false, false] (by kernel_rfl) rfl rfl ⟨(blk_cell BK224.out 0).trans rfl, (blk_cell BK224.out 1).trans rfl, (blk_cell BK225.out 0).trans rfl, (blk_cell BK225.out 1).trans rfl⟩ (fun hHeld => ?_); refine with_tabW waypointlaw08_FletcherJoins.tab11 waypointlaw08_FletcherJoins.bits11 (fun HT_ HW_ => ?_)
                  generalize w67.drew = w68 at HO240 BK224 BK225 HB hHeld ⊢
                  refine pure_ (i := 2) (N := some 68) (v := ?_) (a' := ?_) #[false, false, true, false, false, false, false, false, false, false] rfl rfl (any_of HT_.out (by kernel_rfl)) (fun _ _ _ h => h) (Or.inl ⟨by rfl, ?_⟩) ?_ ?_
                  rotate_left
                  · intro w'
                    go_simp
                    with_reducible rfl
                  rotate_left
                  · simp only [Act.put, List.setIfInBounds_toArray, List.set_cons_zero, List.set_cons_succ, i64_w, i32_w]
                    rfl
                  refine take_ (i := 0) (N := some 66) (v := ?_) (a' := ?_) #[true, false, true, false, false, false, false, false, false, false] rfl rfl (take_ofW HT_.out HW_.out (by kernel_rfl)) (fun _ _ _ h => h) (Or.inl ⟨by rfl, ?_⟩) hHeld ?_ ?_
                  rotate_left
                  · rintro w' ⟨s0, s1, s2, s3⟩
                    go_simp
                    with_reducible rfl
                  rotate_left
                  · simp only [Act.put, List.setIfInBounds_toArray, List.set_cons_zero, List.set_cons_succ, i64_w, i32_w]
                    rfl
                  refine take_ (i := 1) (N := some 67) (v := ?_) (a' := ?_) #[true, true, true, false, false, false, false, false, false, false] rfl rfl (take_ofW HT_.out HW_.out (by kernel_rfl)) (fun _ _ _ h => h) (Or.inl ⟨by rfl, ?_⟩) hHeld ?_ ?_
                  rotate_left
                  · rintro w' ⟨s0, s1, s2, s3⟩
                    go_simp
                    with_reducible rfl
                  rotate_left
                  · simp only [Act.put, List.setIfInBounds_toArray, List.set_cons_zero, List.set_cons_succ, i64_w, i32_w]
                    rfl
                  refine one_ (i := 3) (N := some 69) #[true, true, true, true, false, false, false, false, false, false] rfl rfl (one_of HT_.out (by kernel_rfl)) (by decide) (fun K hK => ?_)
                  refine goes_ Try.func16 (by kernel_rfl) rfl #[.int .i64 a2] (by rfl) rfl rfl (by (try simp only [List.map_toArray, List.map_cons, List.map_nil]); first | done | rfl | (simp only [List.length_drop, List.length_take]; rfl)) ?_
                  with_reducible refine (waypointref08_Reduced.calls a2 t245 _ A17.out).mono ?_
                  rintro e w' ⟨rfl, ⟨nd, rfl⟩⟩
                  refine ⟨_, rfl, ?_⟩
                  refine hK.out _ _ ⟨(blk_cell BK224.out 0).trans rfl, (blk_cell BK224.out 1).trans rfl, (blk_cell BK225.out 0).trans rfl, (blk_cell BK225.out 1).trans rfl⟩ (fun hHeld => ?_)
                  clear hK K
                  refine norm_ (a' := ?_) ?_ ?_
                  rotate_left
                  · show Act.put _ (some 69) _ = _
                    simp only [Act.put, List.setIfInBounds_toArray, List.set_cons_zero, List.set_cons_succ, i64_w, i32_w]
                    rfl
                  refine one_ (i := 4) (N := some 70) #[true, true, true, true, true, false, false, false, false, false] rfl rfl (one_of HT_.out (by kernel_rfl)) (by decide) (fun K hK => ?_)
                  refine goes_ Try.func15 (by kernel_rfl) rfl #[.agg #[.int .i64 t226, .int .i64 t227], .agg #[.int .i64 t228, .int .i64 t229], .int .i64 t245] (by rfl) rfl rfl (by (try simp only [List.map_toArray, List.map_cons, List.map_nil]); first | done | rfl | (simp only [List.length_drop, List.length_take]; rfl)) ?_
                  with_reducible refine (fletcher_Join.calls t226 t227 t228 t229 t245 t246 t247 _ A18.out).mono ?_
                  rintro e w69 ⟨rfl, hb⟩
                  refine ⟨_, rfl, ?_⟩
                  have n0_ := Aside0.mk (Kd.R_below (by (with_reducible repeat (first | apply Kd.R_alloc | apply Kd.R_drewN | apply Kd.R_drew)); exact HO240.out) hb)
                  have n1_ := Aside0.mk (blk_below (g := gb224) (o := .cells #[.int .i64 t226, .int .i64 t227] 39 (0, 0)) (by (with_reducible repeat (first | refine blk_drewN ?_ _ | refine blk_drew ?_ | refine blk_alloc ?_ _)); exact BK224.out) hb)
                  have n2_ := Aside0.mk (blk_below (g := gb225) (o := .cells #[.int .i64 t228, .int .i64 t229] 39 (0, 0)) (by (with_reducible repeat (first | refine blk_drewN ?_ _ | refine blk_drew ?_ | refine blk_alloc ?_ _)); exact BK225.out) hb)
                  have n3_ := Aside0.mk (below_step (by repeat (first | (with_reducible first | exact HB.out | apply below_alloc | apply pw_below_drewN | apply below_drew1 | refine below_set ?_ GE224.out | refine below_set ?_ GE225.out) | exact HB.out)) hb)
                  clear HO240
                  clear BK224
                  clear BK225
                  clear HB
                  have HO240 := n0_
                  have BK224 := n1_
                  have BK225 := n2_
                  have HB := n3_
                  clear n0_ n1_ n2_ n3_
                  (try clear hb)
                  (try clear hb2)
                  (try clear hk)
                  (try clear hi)
                  refine hK.out _ _ ⟨(blk_cell BK224.out 0).trans rfl, (blk_cell BK224.out 1).trans rfl, (blk_cell BK225.out 0).trans rfl, (blk_cell BK225.out 1).trans rfl⟩ (fun hHeld => ?_)
                  clear hK K
                  refine norm_ (a' := ?_) ?_ ?_
                  rotate_left
                  · show Act.put _ (some 70) _ = _
                    simp only [Act.put, List.setIfInBounds_toArray, List.set_cons_zero, List.set_cons_succ, i64_w, i32_w]
                    rfl
                  refine pure_ (i := 5) (N := some 65) (v := ?_) (a' := ?_) #[true, true, true, true, true, true, false, false, false, false] rfl rfl (any_of HT_.out (by kernel_rfl)) (fun _ _ _ h => h) (Or.inl ⟨by rfl, ?_⟩) ?_ ?_
                  rotate_left
                  · intro w'
                    go_simp
                    with_reducible rfl
                  rotate_left
                  · simp only [Act.put, List.setIfInBounds_toArray, List.set_cons_zero, List.set_cons_succ, i64_w, i32_w]
                    rfl
                  refine pure_ (i := 6) (N := some 71) (v := ?_) (a' := ?_) #[true, true, true, true, true, true, true, false, false, false] rfl rfl (any_of HT_.out (by kernel_rfl)) (fun _ _ _ h => h) (Or.inl ⟨by rfl, ?_⟩) ?_ ?_
                  rotate_left
                  · intro w'
                    go_simp
                    with_reducible rfl
                  rotate_left
                  · simp only [Act.put, List.setIfInBounds_toArray, List.set_cons_zero, List.set_cons_succ, i64_w, i32_w]
                    rfl
                  refine pure_ (i := 7) (N := some 72) (v := ?_) (a' := ?_) #[true, true, true, true, true, true, true, true, false, false] rfl rfl (any_of HT_.out (by kernel_rfl)) (fun _ _ _ h => h) (Or.inl ⟨by rfl, ?_⟩) ?_ ?_
                  rotate_left
                  · intro w'
                    go_simp
                    with_reducible rfl
                  rotate_left
                  · simp only [Act.put, List.setIfInBounds_toArray, List.set_cons_zero, List.set_cons_succ, i64_w, i32_w]
                    rfl
                  refine pure_ (i := 8) (N := some 15) (v := ?_) (a' := ?_) #[true, true, true, true, true, true, true, true, true, false] rfl rfl (any_of HT_.out (by kernel_rfl)) (fun _ _ _ h => h) (Or.inl ⟨by rfl, ?_⟩) ?_ ?_
                  rotate_left
                  · intro w'
                    go_simp
                    with_reducible rfl
                  rotate_left
                  · simp only [Act.put, List.setIfInBounds_toArray, List.set_cons_zero, List.set_cons_succ, i64_w, i32_w]
                    rfl
                  refine pure_ (i := 9) (N := some 16) (v := ?_) (a' := ?_) #[true, true, true, true, true, true, true, true, true, true] rfl rfl (any_of HT_.out (by kernel_rfl)) (fun _ _ _ h => h) (Or.inl ⟨by rfl, ?_⟩) ?_ ?_
                  rotate_left
                  · intro w'
                    go_simp
                    with_reducible rfl
                  rotate_left
                  · simp only [Act.put, List.setIfInBounds_toArray, List.set_cons_zero, List.set_cons_succ, i64_w, i32_w]
                    rfl
                  refine done_ (done_of HT_.out (by kernel_rfl)) ?_
                  try go_wp2
                  go_ret
                  exact ⟨by first | rfl | (simp [errW_none, errW_some] <;> rfl) | (simp [*, errW_none, errW_some] <;> rfl), by repeat (first | (with_reducible first | exact HB.out | apply below_alloc | apply pw_below_drewN | apply below_drew1 | refine below_set ?_ GE224.out | refine below_set ?_ GE225.out) | exact HB.out)⟩
              · rw [if_neg c19] at H
                have c19b0 : (t230 == t241) = false := beq_eq_false_iff_ne.mpr c19
                have c19b1 : (t230 != t241) = true := bne_iff_ne.mpr c19
                obtain rfl := Option.some.inj H
                try go_wp2_with (first | ((with_reducible refine gate_dst (N := 7) rfl ?_); (try (refine gate_guard (by rfl) ?_; dsimp only)); refine box_event ?hg (N := 7) ?hd (cs := #[.int .i64 0, .int .i64 0]) (t := 39) ?hr ?_; (case hd => rfl); (case hg => rfl); (case hr => first | (go_simp; done) | (go_simp; rfl)); intro gb224 hg w70 hbox hb; have n0_ := Aside0.mk (below_step (by repeat (first | (with_reducible first | exact HB.out | apply below_alloc | apply pw_below_drewN | apply below_drew1) | exact HB.out)) hb); have n1_ := Aside0.mk (hbox); have n2_ := Aside0.mk ((by rw [hg]; exact (below_size (by repeat (first | (with_reducible first | exact HB.out | apply below_alloc | apply pw_below_drewN | apply below_drew1) | exact HB.out))) : w.heap.size ≤ gb224)); have n3_ := Aside0.mk ((by rw [hg]; exact (below_size (by repeat (first | (with_reducible first | exact HB.out | apply below_alloc | apply pw_below_drewN | apply below_drew1) | exact HB.out))) : w.heap.size ≤ gb224)); clear HB; have HB := n0_; have BK224 := n1_; have GW224 := n2_; have GE224 := n3_; clear n0_ n1_ n2_ n3_; clear hb hbox hg) | ((with_reducible refine gate_dst (N := 8) rfl ?_); (try (refine gate_guard (by rfl) ?_; dsimp only)); refine box_event ?hg (N := 8) ?hd (cs := #[.int .i64 0, .int .i64 0]) (t := 39) ?hr ?_; (case hd => rfl); (case hg => rfl); (case hr => first | (go_simp; done) | (go_simp; rfl)); intro gb225 hg w71 hbox hb; have n0_ := Aside0.mk (blk_below (g := gb224) (o := .cells #[.int .i64 0, .int .i64 0] 39 (0, 0)) (by (with_reducible repeat (first | refine blk_drewN ?_ _ | refine blk_drew ?_ | refine blk_alloc ?_ _)); exact BK224.out) hb); have n1_ := Aside0.mk (below_step (by repeat (first | (with_reducible first | exact HB.out | apply below_alloc | apply pw_below_drewN | apply below_drew1 | refine below_set ?_ GE224.out) | exact HB.out)) hb); have n2_ := Aside0.mk (hbox); have n3_ := Aside0.mk ((by rw [hg]; exact (below_size (by repeat (first | (with_reducible first | exact HB.out | apply below_alloc | apply pw_below_drewN | apply below_drew1 | refine below_set ?_ GE224.out) | exact HB.out))) : w.heap.size ≤ gb225)); have n4_ := Aside0.mk ((by rw [hg]; exact (below_size (by repeat (first | (with_reducible first | exact HB.out | apply below_alloc | apply pw_below_drewN | apply below_drew1 | refine below_set ?_ GE224.out) | exact HB.out))) : w.heap.size ≤ gb225)); have n5_ := Aside0.mk ((by rw [hg]; exact Nat.ne_of_lt (blk_lt (g := gb224) (o := .cells #[.int .i64 0, .int .i64 0] 39 (0, 0)) (by (with_reducible repeat (first | refine blk_drewN ?_ _ | refine blk_drew ?_ | refine blk_alloc ?_ _)); exact BK224.out)) : gb224 ≠ gb225)); have n6_ := Aside0.mk ((by rw [hg]; exact Nat.ne_of_gt (blk_lt (g := gb224) (o := .cells #[.int .i64 0, .int .i64 0] 39 (0, 0)) (by (with_reducible repeat (first | refine blk_drewN ?_ _ | refine blk_drew ?_ | refine blk_alloc ?_ _)); exact BK224.out)) : gb225 ≠ gb224)); clear BK224; clear HB; have BK224 := n0_; have HB := n1_; have BK225 := n2_; have GW225 := n3_; have GE225 := n4_; have NB224_225 := n5_; have NB225_224 := n6_; clear n0_ n1_ n2_ n3_ n4_ n5_ n6_; clear hb hbox hg) | ((with_reducible refine gate_callee (f := 11) rfl ?_); refine goesL_ (some 29) rfl rfl Try.func11 (by kernel_rfl) rfl #[.slice A0 l0.length c0] rfl (by (try simp only [List.map_toArray, List.map_cons, List.map_nil]); first | done | rfl | (simp only [List.length_drop, List.length_take]; rfl)) ?_; (with_reducible refine (waypointref08_Sum.calls kj5 _ _ l0 t226 t227 _ ?side1 ?side2 A10.out).mono ?_); (case side1 => repeat (first | exact (Kd.C_below HR0.out HB.out) | (with_reducible refine Kd.C_alloc ?_ _) | (with_reducible refine Kd.C_drewN ?_ _) | (with_reducible refine Kd.C_drew ?_))); (case side2 => exact HC0.out); rintro e w' ⟨rfl, ⟨nd, rfl⟩⟩; refine ⟨_, rfl, ?_⟩; (try (rw [drewN_self w71]; generalize hq_ : World.drewN w71 _ = w71; have n0_ : Aside0 (w71.heap[gb224]? = some (.cells #[.int .i64 0, .int .i64 0] 39 (0, 0))) := ⟨by rw [← hq_]; exact (by (with_reducible repeat (first | refine blk_drewN ?_ _ | refine blk_drew ?_ | refine blk_alloc ?_ _)); exact BK224.out)⟩; have n1_ : Aside0 (w71.heap[gb225]? = some (.cells #[.int .i64 0, .int .i64 0] 39 (0, 0))) := ⟨by rw [← hq_]; exact (by (with_reducible repeat (first | refine blk_drewN ?_ _ | refine blk_drew ?_ | refine blk_alloc ?_ _)); exact BK225.out)⟩; have n2_ : Aside0 (Below w.heap.size w w71) := ⟨by rw [← hq_]; exact (by repeat (first | (with_reducible first | exact HB.out | apply below_alloc | apply pw_below_drewN | apply below_drew1 | refine below_set ?_ GE224.out | refine below_set ?_ GE225.out) | exact HB.out))⟩; clear BK224 BK225 HB hq_; have BK224 := n0_; have BK225 := n1_; have HB := n2_; clear n0_ n1_ n2_)); have hnb72 := NB224_225.out; have hnc72 := NB225_224.out; have hcz73_0 : w71.cell? ⟨gb224, 0, none⟩ = some (.int .i64 0) := (blk_cell BK224.out 0).trans rfl; have hcz73_1 : w71.cell? ⟨gb224, 1, none⟩ = some (.int .i64 0) := (blk_cell BK224.out 1).trans rfl; have hfz73_0 := blk_frozen BK224.out 0; have hfz73_1 := blk_frozen BK224.out 1) | ((with_reducible refine gate_callee (f := 11) rfl ?_); refine goesL_ (some 36) rfl rfl Try.func11 (by kernel_rfl) rfl #[.slice A1 l1.length c1] rfl (by (try simp only [List.map_toArray, List.map_cons, List.map_nil]); first | done | rfl | (simp only [List.length_drop, List.length_take]; rfl)) ?_; (with_reducible refine (waypointref08_Sum.calls kj5 _ _ l1 t228 t229 _ ?side1 ?side2 A11.out).mono ?_); (case side1 => exact Kd.C_below HR1.out (by repeat (first | (with_reducible first | exact HB.out | apply below_alloc | apply pw_below_drewN | apply below_drew1 | refine below_set ?_ GE224.out | refine below_set ?_ GE225.out) | exact HB.out))); (case side2 => exact HC1.out); rintro e w' ⟨rfl, ⟨nd, rfl⟩⟩; refine ⟨_, rfl, ?_⟩; have hcz74_0 : w71.cell? ⟨gb225, 0, none⟩ = some (.int .i64 0) := (blk_cell BK225.out 0).trans rfl; have hcz74_1 : w71.cell? ⟨gb225, 1, none⟩ = some (.int .i64 0) := (blk_cell BK225.out 1).trans rfl; have hfz74_0 := blk_frozen BK225.out 0; have hfz74_1 := blk_frozen BK225.out 1) | ((with_reducible refine gate_callee (f := 15) rfl ?_); refine goesL_ (some 46) rfl rfl Try.func15 (by kernel_rfl) rfl #[.agg #[.int .i64 t226, .int .i64 t227], .agg #[.int .i64 t228, .int .i64 t229], .int .i64 (l1.length : Int)] rfl (by (try simp only [List.map_toArray, List.map_cons, List.map_nil]); first | done | rfl | (simp only [List.length_drop, List.length_take]; rfl)) ?_; (with_reducible refine (fletcher_Join.calls t226 t227 t228 t229 (l1.length : Int) t230 t231 _ A12.out).mono ?_); rintro e w75 ⟨rfl, hb⟩; refine ⟨_, rfl, ?_⟩; have n0_ := Aside0.mk (blk_below (g := gb224) (o := .cells #[.int .i64 t226, .int .i64 t227] 39 (0, 0)) (by (with_reducible repeat (first | refine blk_drewN ?_ _ | refine blk_drew ?_ | refine blk_alloc ?_ _)); refine blk_far ?_ NB224_225.out _; (with_reducible repeat (first | refine blk_drewN ?_ _ | refine blk_drew ?_ | refine blk_alloc ?_ _)); refine blk_far ?_ NB224_225.out _; (with_reducible repeat (first | refine blk_drewN ?_ _ | refine blk_drew ?_ | refine blk_alloc ?_ _)); refine blk_put (cs := #[.int .i64 t226, .int .i64 0]) ?_ 1 _ rfl; (with_reducible repeat (first | refine blk_drewN ?_ _ | refine blk_drew ?_ | refine blk_alloc ?_ _)); refine blk_put (cs := #[.int .i64 0, .int .i64 0]) ?_ 0 _ rfl; (with_reducible repeat (first | refine blk_drewN ?_ _ | refine blk_drew ?_ | refine blk_alloc ?_ _)); exact BK224.out) hb); have n1_ := Aside0.mk (blk_below (g := gb225) (o := .cells #[.int .i64 t228, .int .i64 t229] 39 (0, 0)) (by (with_reducible repeat (first | refine blk_drewN ?_ _ | refine blk_drew ?_ | refine blk_alloc ?_ _)); refine blk_put (cs := #[.int .i64 t228, .int .i64 0]) ?_ 1 _ rfl; (with_reducible repeat (first | refine blk_drewN ?_ _ | refine blk_drew ?_ | refine blk_alloc ?_ _)); refine blk_put (cs := #[.int .i64 0, .int .i64 0]) ?_ 0 _ rfl; (with_reducible repeat (first | refine blk_drewN ?_ _ | refine blk_drew ?_ | refine blk_alloc ?_ _)); refine blk_far ?_ NB225_224.out _; (with_reducible repeat (first | refine blk_drewN ?_ _ | refine blk_drew ?_ | refine blk_alloc ?_ _)); refine blk_far ?_ NB225_224.out _; (with_reducible repeat (first | refine blk_drewN ?_ _ | refine blk_drew ?_ | refine blk_alloc ?_ _)); exact BK225.out) hb); have n2_ := Aside0.mk (below_step (by repeat (first | (with_reducible first | exact HB.out | apply below_alloc | apply pw_below_drewN | apply below_drew1 | refine below_set ?_ GE224.out | refine below_set ?_ GE225.out) | exact HB.out)) hb); clear BK224; clear BK225; clear HB; have BK224 := n0_; have BK225 := n1_; have HB := n2_; clear n0_ n1_ n2_; (try clear hb); (try clear hb2); (try clear hk); (try clear hi)) | ((with_reducible refine gate_dst (N := 50) rfl ?_); (try (refine gate_guard (by rfl) ?_; dsimp only)); refine Kd.R_lit (Kd.int .u8) _ 5 ?hg (N := 50) ?hd (xs := ([] : List Int)) (inner := []) (ok := fun _ => True) (okp := fun _ => True) ?hr ?hp (fun _ hk => hk) trivial (Below.refl _ _) (Nat.le_refl _) (by simp) ?_; (case hd => rfl); (case hg => rfl); (case hr => first | (go_simp; done) | (go_simp; rfl)); (case hp => exact (Reps.none _ _)); intro v233 w76 ho77 hb hg_ hnew_; clear hg_ hnew_; (first | rw [← Ny232.out] at ho77 | (simp only [Int.reduceToNat] at ho77; rw [← Ny232.out] at ho77)); have n0_ := Aside0.mk (Kd.R_lower ho77 (below_size (by repeat (first | (with_reducible first | exact HB.out | apply below_alloc | apply pw_below_drewN | apply below_drew1 | refine below_set ?_ GE224.out | refine below_set ?_ GE225.out) | exact HB.out)))); have n1_ := Aside0.mk (blk_below (g := gb224) (o := .cells #[.int .i64 t226, .int .i64 t227] 39 (0, 0)) (by (with_reducible repeat (first | refine blk_drewN ?_ _ | refine blk_drew ?_ | refine blk_alloc ?_ _)); exact BK224.out) hb); have n2_ := Aside0.mk (blk_below (g := gb225) (o := .cells #[.int .i64 t228, .int .i64 t229] 39 (0, 0)) (by (with_reducible repeat (first | refine blk_drewN ?_ _ | refine blk_drew ?_ | refine blk_alloc ?_ _)); exact BK225.out) hb); have n3_ := Aside0.mk (below_step (by repeat (first | (with_reducible first | exact HB.out | apply below_alloc | apply pw_below_drewN | apply below_drew1 | refine below_set ?_ GE224.out | refine below_set ?_ GE225.out) | exact HB.out)) hb); clear BK224; clear BK225; clear HB; have HO234 := n0_; have BK224 := n1_; have BK225 := n2_; have HB := n3_; clear n0_ n1_ n2_ n3_; clear hb ho77) | ((with_reducible refine gate_builtin (b := .append) (xs := #[.tmp 50, .tmp 51]) rfl ?_); (try (refine gate_guard (by rfl) ?_; dsimp only)); at_builtin; refine Kd.R_append_rows (Kd.int .u8) (w0 := w) w.heap.size rfl (.tmp 50) (.tmp 51) 22 5 (.int .u8 0) 1 rfl Try.underlying22 info5 rfl (by decide) (by omega) v233 y232 l0 _ _ _ (fun _ => True) (fun _ => False) rfl rfl ?aO ?aR (fun _ _ h => h) (fun _ h => h.elim) ?aF ?aB ?aS ?aL ?_; (case aR => repeat (first | exact (Kd.C_below HR0.out HB.out) | (with_reducible refine Kd.C_alloc ?_ _) | (with_reducible refine Kd.C_drewN ?_ _) | (with_reducible refine Kd.C_drew ?_))); (case aB => exact (by repeat (first | (with_reducible first | exact HB.out | apply below_alloc | apply pw_below_drewN | apply below_drew1 | refine below_set ?_ GE224.out | refine below_set ?_ GE225.out) | exact HB.out))); (case aF => exact (fun _ _ => trivial)); (case aO => exact (by (with_reducible repeat (first | apply Kd.R_alloc | apply Kd.R_drewN | apply Kd.R_drew)); exact HO234.out)); (case aS => exact (below_size (by repeat (first | (with_reducible first | exact HB.out | apply below_alloc | apply pw_below_drewN | apply below_drew1 | refine below_set ?_ GE224.out | refine below_set ?_ GE225.out) | exact HB.out)))); (case aL => have := LMc13.out; omega); intro v236 w78 ho hb hg hat; rw [← Ny235.out] at ho; have n0_ := Aside0.mk (blk_grown (g := gb224) (o := .cells #[.int .i64 t226, .int .i64 t227] 39 (0, 0)) (by (with_reducible repeat (first | refine blk_drewN ?_ _ | refine blk_drew ?_ | refine blk_alloc ?_ _)); exact BK224.out) hg (Kd.R_ne HO234.out BK224.out (by decide))); have n1_ := Aside0.mk (blk_grown (g := gb225) (o := .cells #[.int .i64 t228, .int .i64 t229] 39 (0, 0)) (by (with_reducible repeat (first | refine blk_drewN ?_ _ | refine blk_drew ?_ | refine blk_alloc ?_ _)); exact BK225.out) hg (Kd.R_ne HO234.out BK225.out (by decide))); have n2_ := Aside0.mk (hb); have n3_ := Aside0.mk (ho); clear BK224; clear BK225; clear HB; clear HO234; have BK224 := n0_; have BK225 := n1_; have HB := n2_; have HO237 := n3_; clear n0_ n1_ n2_ n3_; clear ho hb hg hat) | ((with_reducible refine gate_builtin (b := .append) (xs := #[.tmp 52, .tmp 53]) rfl ?_); (try (refine gate_guard (by rfl) ?_; dsimp only)); at_builtin; refine Kd.R_append_rows (Kd.int .u8) (w0 := w) w.heap.size rfl (.tmp 52) (.tmp 53) 22 5 (.int .u8 0) 1 rfl Try.underlying22 info5 rfl (by decide) (by omega) v236 y235 l1 _ _ _ (fun _ => True) (fun _ => False) rfl rfl ?aO ?aR (fun _ _ h => h) (fun _ h => h.elim) ?aF ?aB ?aS ?aL ?_; (case aR => repeat (first | exact (Kd.C_below HR1.out HB.out) | (with_reducible refine Kd.C_alloc ?_ _) | (with_reducible refine Kd.C_drewN ?_ _) | (with_reducible refine Kd.C_drew ?_))); (case aB => exact (by repeat (first | (with_reducible first | exact HB.out | apply below_alloc | apply pw_below_drewN | apply below_drew1 | refine below_set ?_ GE224.out | refine below_set ?_ GE225.out) | exact HB.out))); (case aF => exact (fun _ _ => trivial)); (case aO => exact (by (with_reducible repeat (first | apply Kd.R_alloc | apply Kd.R_drewN | apply Kd.R_drew)); exact HO237.out)); (case aS => exact (below_size (by repeat (first | (with_reducible first | exact HB.out | apply below_alloc | apply pw_below_drewN | apply below_drew1 | refine below_set ?_ GE224.out | refine below_set ?_ GE225.out) | exact HB.out)))); (case aL => have := LMc14.out; omega); intro v239 w79 ho hb hg hat; rw [← Ny238.out] at ho; have n0_ := Aside0.mk (blk_grown (g := gb224) (o := .cells #[.int .i64 t226, .int .i64 t227] 39 (0, 0)) (by (with_reducible repeat (first | refine blk_drewN ?_ _ | refine blk_drew ?_ | refine blk_alloc ?_ _)); exact BK224.out) hg (Kd.R_ne HO237.out BK224.out (by decide))); have n1_ := Aside0.mk (blk_grown (g := gb225) (o := .cells #[.int .i64 t228, .int .i64 t229] 39 (0, 0)) (by (with_reducible repeat (first | refine blk_drewN ?_ _ | refine blk_drew ?_ | refine blk_alloc ?_ _)); exact BK225.out) hg (Kd.R_ne HO237.out BK225.out (by decide))); have n2_ := Aside0.mk (hb); have n3_ := Aside0.mk (ho); clear BK224; clear BK225; clear HB; clear HO237; have BK224 := n0_; have BK225 := n1_; have HB := n2_; have HO240 := n3_; clear n0_ n1_ n2_ n3_; clear ho hb hg hat; obtain ⟨Ao80, co80, eo80⟩ := Kd.R_slice HO240.out; subst eo80) | ((with_reducible refine gate_callee (f := 11) rfl ?_); refine goesL_ (some 55) rfl rfl Try.func11 (by kernel_rfl) rfl #[.slice Ao80 y238.length co80] rfl (by (try simp only [List.map_toArray, List.map_cons, List.map_nil]); first | done | rfl | (simp only [List.length_drop, List.length_take]; rfl)) ?_; (with_reducible refine (waypointref08_Sum.calls kj5 _ _ y238 t241 t242 _ ?side1 ?side2 A15.out).mono ?_); (case side1 => repeat (first | exact (Kd.R_reads' HO240.out).2.2 | (with_reducible refine Kd.C_alloc ?_ _) | (with_reducible refine Kd.C_drewN ?_ _) | (with_reducible refine Kd.C_drew ?_))); (case side2 => exact (Kd.R_reads' HO240.out).2.1); rintro e w' ⟨rfl, ⟨nd, rfl⟩⟩; refine ⟨_, rfl, ?_⟩; have hcz81_0 : w79.cell? ⟨gb224, 0, none⟩ = some (.int .i64 t226) := (blk_cell BK224.out 0).trans rfl; have hcz81_1 : w79.cell? ⟨gb224, 1, none⟩ = some (.int .i64 t227) := (blk_cell BK224.out 1).trans rfl; have hfz81_0 := blk_frozen BK224.out 0; have hfz81_1 := blk_frozen BK224.out 1; have hcz82_0 : w79.cell? ⟨gb225, 0, none⟩ = some (.int .i64 t228) := (blk_cell BK225.out 0).trans rfl; have hcz82_1 : w79.cell? ⟨gb225, 1, none⟩ = some (.int .i64 t229) := (blk_cell BK225.out 1).trans rfl; have hfz82_0 := blk_frozen BK225.out 0; have hfz82_1 := blk_frozen BK225.out 1) | ((with_reducible refine gate_callee (f := 15) rfl ?_); refine goesL_ (some 62) rfl rfl Try.func15 (by kernel_rfl) rfl #[.agg #[.int .i64 t226, .int .i64 t227], .agg #[.int .i64 t228, .int .i64 t229], .int .i64 a2] rfl (by (try simp only [List.map_toArray, List.map_cons, List.map_nil]); first | done | rfl | (simp only [List.length_drop, List.length_take]; rfl)) ?_; (with_reducible refine (fletcher_Join.calls t226 t227 t228 t229 a2 t243 t244 _ A16.out).mono ?_); rintro e w83 ⟨rfl, hb⟩; refine ⟨_, rfl, ?_⟩; have n0_ := Aside0.mk (Kd.R_below (by (with_reducible repeat (first | apply Kd.R_alloc | apply Kd.R_drewN | apply Kd.R_drew)); exact HO240.out) hb); have n1_ := Aside0.mk (blk_below (g := gb224) (o := .cells #[.int .i64 t226, .int .i64 t227] 39 (0, 0)) (by (with_reducible repeat (first | refine blk_drewN ?_ _ | refine blk_drew ?_ | refine blk_alloc ?_ _)); exact BK224.out) hb); have n2_ := Aside0.mk (blk_below (g := gb225) (o := .cells #[.int .i64 t228, .int .i64 t229] 39 (0, 0)) (by (with_reducible repeat (first | refine blk_drewN ?_ _ | refine blk_drew ?_ | refine blk_alloc ?_ _)); exact BK225.out) hb); have n3_ := Aside0.mk (below_step (by repeat (first | (with_reducible first | exact HB.out | apply below_alloc | apply pw_below_drewN | apply below_drew1 | refine below_set ?_ GE224.out | refine below_set ?_ GE225.out) | exact HB.out)) hb); clear HO240; clear BK224; clear BK225; clear HB; have HO240 := n0_; have BK224 := n1_; have BK225 := n2_; have HB := n3_; clear n0_ n1_ n2_ n3_; (try clear hb); (try clear hb2); (try clear hk); (try clear hi)))
                have n0_ := Aside0.mk (Kd.R_drew HO240.out)
                have n1_ := Aside0.mk (blk_drew BK224.out)
                have n2_ := Aside0.mk (blk_drew BK225.out)
                have n3_ := Aside0.mk (below_drew1 HB.out)
                clear HO240
                clear BK224
                clear BK225
                clear HB
                have HO240 := n0_
                have BK224 := n1_
                have BK225 := n2_
                have HB := n3_
                clear n0_ n1_ n2_ n3_
                refine start_ (n := 10) (S := fun w' => w'.cell? ⟨gb224, 0, none⟩ = some (.int .i64 t226) ∧ w'.cell? ⟨gb224, 1, none⟩ = some (.int .i64 t227) ∧ w'.cell? ⟨gb225, 0, none⟩ = some (.int .i64 t228) ∧ w'.cell? ⟨gb225, 1, none⟩ = some (.int .i64 t229)) (ds := []) #[false, false, false, false, false, false, false, false, false, false] (by kernel_rfl) rfl rfl ⟨(blk_cell BK224.out 0).trans rfl, (blk_cell BK224.out 1).trans rfl, (blk_cell BK225.out 0).trans rfl, (blk_cell BK225.out 1).trans rfl⟩ (fun hHeld => ?_); refine with_tabW waypointlaw08_FletcherJoins.tab11 waypointlaw08_FletcherJoins.bits11 (fun HT_ HW_ => ?_)
                generalize w83.drew = w84 at HO240 BK224 BK225 HB hHeld ⊢
                refine pure_ (i := 2) (N := some 68) (v := ?_) (a' := ?_) #[false, false, true, false, false, false, false, false, false, false] rfl rfl (any_of HT_.out (by kernel_rfl)) (fun _ _ _ h => h) (Or.inl ⟨by rfl, ?_⟩) ?_ ?_
                rotate_left
                · intro w'
                  go_simp
                  with_reducible rfl
                rotate_left
                · simp only [Act.put, List.setIfInBounds_toArray, List.set_cons_zero, List.set_cons_succ, i64_w, i32_w]
                  rfl
                refine take_ (i := 0) (N := some 66) (v := ?_) (a' := ?_) #[true, false, true, false, false, false, false, false, false, false] rfl rfl (take_ofW HT_.out HW_.out (by kernel_rfl)) (fun _ _ _ h => h) (Or.inl ⟨by rfl, ?_⟩) hHeld ?_ ?_
                rotate_left
                · rintro w' ⟨s0, s1, s2, s3⟩
                  go_simp
                  with_reducible rfl
                rotate_left
                · simp only [Act.put, List.setIfInBounds_toArray, List.set_cons_zero, List.set_cons_succ, i64_w, i32_w]
                  rfl
                refine take_ (i := 1) (N := some 67) (v := ?_) (a' := ?_) #[true, true, true, false, false, false, false, false, false, false] rfl rfl (take_ofW HT_.out HW_.out (by kernel_rfl)) (fun _ _ _ h => h) (Or.inl ⟨by rfl, ?_⟩) hHeld ?_ ?_
                rotate_left
                · rintro w' ⟨s0, s1, s2, s3⟩
                  go_simp
                  with_reducible rfl
                rotate_left
                · simp only [Act.put, List.setIfInBounds_toArray, List.set_cons_zero, List.set_cons_succ, i64_w, i32_w]
                  rfl
                refine one_ (i := 3) (N := some 69) #[true, true, true, true, false, false, false, false, false, false] rfl rfl (one_of HT_.out (by kernel_rfl)) (by decide) (fun K hK => ?_)
                refine goes_ Try.func16 (by kernel_rfl) rfl #[.int .i64 a2] (by rfl) rfl rfl (by (try simp only [List.map_toArray, List.map_cons, List.map_nil]); first | done | rfl | (simp only [List.length_drop, List.length_take]; rfl)) ?_
                with_reducible refine (waypointref08_Reduced.calls a2 t245 _ A17.out).mono ?_
                rintro e w' ⟨rfl, ⟨nd, rfl⟩⟩
                refine ⟨_, rfl, ?_⟩
                refine hK.out _ _ ⟨(blk_cell BK224.out 0).trans rfl, (blk_cell BK224.out 1).trans rfl, (blk_cell BK225.out 0).trans rfl, (blk_cell BK225.out 1).trans rfl⟩ (fun hHeld => ?_)
                clear hK K
                refine norm_ (a' := ?_) ?_ ?_
                rotate_left
                · show Act.put _ (some 69) _ = _
                  simp only [Act.put, List.setIfInBounds_toArray, List.set_cons_zero, List.set_cons_succ, i64_w, i32_w]
                  rfl
                refine one_ (i := 4) (N := some 70) #[true, true, true, true, true, false, false, false, false, false] rfl rfl (one_of HT_.out (by kernel_rfl)) (by decide) (fun K hK => ?_)
                refine goes_ Try.func15 (by kernel_rfl) rfl #[.agg #[.int .i64 t226, .int .i64 t227], .agg #[.int .i64 t228, .int .i64 t229], .int .i64 t245] (by rfl) rfl rfl (by (try simp only [List.map_toArray, List.map_cons, List.map_nil]); first | done | rfl | (simp only [List.length_drop, List.length_take]; rfl)) ?_
                with_reducible refine (fletcher_Join.calls t226 t227 t228 t229 t245 t246 t247 _ A18.out).mono ?_
                rintro e w85 ⟨rfl, hb⟩
                refine ⟨_, rfl, ?_⟩
                have n0_ := Aside0.mk (Kd.R_below (by (with_reducible repeat (first | apply Kd.R_alloc | apply Kd.R_drewN | apply Kd.R_drew)); exact HO240.out) hb)
                have n1_ := Aside0.mk (blk_below (g := gb224) (o := .cells #[.int .i64 t226, .int .i64 t227] 39 (0, 0)) (by (with_reducible repeat (first | refine blk_drewN ?_ _ | refine blk_drew ?_ | refine blk_alloc ?_ _)); exact BK224.out) hb)
                have n2_ := Aside0.mk (blk_below (g := gb225) (o := .cells #[.int .i64 t228, .int .i64 t229] 39 (0, 0)) (by (with_reducible repeat (first | refine blk_drewN ?_ _ | refine blk_drew ?_ | refine blk_alloc ?_ _)); exact BK225.out) hb)
                have n3_ := Aside0.mk (below_step (by repeat (first | (with_reducible first | exact HB.out | apply below_alloc | apply pw_below_drewN | apply below_drew1 | refine below_set ?_ GE224.out | refine below_set ?_ GE225.out) | exact HB.out)) hb)
                clear HO240
                clear BK224
                clear BK225
                clear HB
                have HO240 := n0_
                have BK224 := n1_
                have BK225 := n2_
                have HB := n3_
                clear n0_ n1_ n2_ n3_
                (try clear hb)
                (try clear hb2)
                (try clear hk)
                (try clear hi)
                refine hK.out _ _ ⟨(blk_cell BK224.out 0).trans rfl, (blk_cell BK224.out 1).trans rfl, (blk_cell BK225.out 0).trans rfl, (blk_cell BK225.out 1).trans rfl⟩ (fun hHeld => ?_)
                clear hK K
                refine norm_ (a' := ?_) ?_ ?_
                rotate_left
                · show Act.put _ (some 70) _ = _
                  simp only [Act.put, List.setIfInBounds_toArray, List.set_cons_zero, List.set_cons_succ, i64_w, i32_w]
                  rfl
                refine pure_ (i := 5) (N := some 65) (v := ?_) (a' := ?_) #[true, true, true, true, true, true, false, false, false, false] rfl rfl (any_of HT_.out (by kernel_rfl)) (fun _ _ _ h => h) (Or.inl ⟨by rfl, ?_⟩) ?_ ?_
                rotate_left
                · intro w'
                  go_simp
                  with_reducible rfl
                rotate_left
                · simp only [Act.put, List.setIfInBounds_toArray, List.set_cons_zero, List.set_cons_succ, i64_w, i32_w]
                  rfl
                refine pure_ (i := 6) (N := some 71) (v := ?_) (a' := ?_) #[true, true, true, true, true, true, true, false, false, false] rfl rfl (any_of HT_.out (by kernel_rfl)) (fun _ _ _ h => h) (Or.inl ⟨by rfl, ?_⟩) ?_ ?_
                rotate_left
                · intro w'
                  go_simp
                  with_reducible rfl
                rotate_left
                · simp only [Act.put, List.setIfInBounds_toArray, List.set_cons_zero, List.set_cons_succ, i64_w, i32_w]
                  rfl
                refine pure_ (i := 7) (N := some 72) (v := ?_) (a' := ?_) #[true, true, true, true, true, true, true, true, false, false] rfl rfl (any_of HT_.out (by kernel_rfl)) (fun _ _ _ h => h) (Or.inl ⟨by rfl, ?_⟩) ?_ ?_
                rotate_left
                · intro w'
                  go_simp
                  with_reducible rfl
                rotate_left
                · simp only [Act.put, List.setIfInBounds_toArray, List.set_cons_zero, List.set_cons_succ, i64_w, i32_w]
                  rfl
                refine pure_ (i := 8) (N := some 15) (v := ?_) (a' := ?_) #[true, true, true, true, true, true, true, true, true, false] rfl rfl (any_of HT_.out (by kernel_rfl)) (fun _ _ _ h => h) (Or.inl ⟨by rfl, ?_⟩) ?_ ?_
                rotate_left
                · intro w'
                  go_simp
                  with_reducible rfl
                rotate_left
                · simp only [Act.put, List.setIfInBounds_toArray, List.set_cons_zero, List.set_cons_succ, i64_w, i32_w]
                  rfl
                refine pure_ (i := 9) (N := some 16) (v := ?_) (a' := ?_) #[true, true, true, true, true, true, true, true, true, true] rfl rfl (any_of HT_.out (by kernel_rfl)) (fun _ _ _ h => h) (Or.inl ⟨by rfl, ?_⟩) ?_ ?_
                rotate_left
                · intro w'
                  go_simp
                  with_reducible rfl
                rotate_left
                · simp only [Act.put, List.setIfInBounds_toArray, List.set_cons_zero, List.set_cons_succ, i64_w, i32_w]
                  rfl
                refine done_ (done_of HT_.out (by kernel_rfl)) ?_
                try go_wp2
                go_ret
                exact ⟨by first | rfl | (simp [errW_none, errW_some] <;> rfl) | (simp [*, errW_none, errW_some] <;> rfl), by repeat (first | (with_reducible first | exact HB.out | apply below_alloc | apply pw_below_drewN | apply below_drew1 | refine below_set ?_ GE224.out | refine below_set ?_ GE225.out) | exact HB.out)⟩
            · rw [if_neg c14] at H
              exact absurd H (by simp)
          · rw [if_neg c13] at H
            exact absurd H (by simp)
  · replace c5 := Bool.eq_false_iff.mpr c5
    subst c5
    have H1 : (some false) = some r := by rw [if_neg (show ¬ (false = true) by decide)] at H; exact H
    clear H
    have H := H1
    clear H1
    obtain rfl := Option.some.inj H
    go_enter Try.func8, Try.ntmps8
    go_wp2_with (first | ((with_reducible refine gate_callee (f := 9) rfl ?_); refine goesL_ (some 17) rfl rfl Try.func9 (by kernel_rfl) rfl #[] rfl (by (try simp only [List.map_toArray, List.map_cons, List.map_nil]); first | done | rfl | (simp only [List.length_drop, List.length_take]; rfl)) ?_; (with_reducible refine (waypointlaw08_awake.calls k  false _ A4.out).mono ?_); rintro e w86 ⟨rfl, hb⟩; refine ⟨_, rfl, ?_⟩; have n0_ := Aside0.mk (below_step (by repeat (first | (with_reducible first | exact HB.out | apply below_alloc | apply pw_below_drewN | apply below_drew1) | exact HB.out)) hb); clear HB; have HB := n0_; clear n0_; (try clear hb); (try clear hb2); (try clear hk); (try clear hi)))
    go_ret
    exact ⟨by first | rfl | (simp [errW_none, errW_some] <;> rfl) | (simp [*, errW_none, errW_some] <;> rfl), by repeat (first | (with_reducible first | exact HB.out | apply below_alloc | apply pw_below_drewN | apply below_drew1) | exact HB.out)⟩

/-- THE ONE PURE STATEMENT of waypointlaw08_FletcherJoins: yours. -/
def waypointlaw08_FletcherJoins.Pure : Prop := ∀ (l0 : List Int) (l1 : List Int) (a2 : Int), l0.length ≤ maxLen → l0.length * 1 ≤ 140737488351232 → (∀ x ∈ l0, (Lit.int .u8 x).wf = true) → l1.length ≤ maxLen → l1.length * 1 ≤ 140737488351232 → (∀ x ∈ l1, (Lit.int .u8 x).wf = true) → (Lit.int .i64 a2).wf = true → ∃ k, waypointlaw08_FletcherJoins.f k l0 l1 a2 = some true
theorem waypointlaw08_FletcherJoins.walk (P : waypointlaw08_FletcherJoins.Pure) (a0 : Option Addr) (len0 cap0 : Nat) (z0 : List Int) (a1 : Option Addr) (len1 cap1 : Nat) (z1 : List Int) (a2 : Int) (w : World) (w0 : (a0 = none ∧ len0 = 0 ∧ cap0 = 0 ∧ z0 = []) ∨ ∃ x, a0 = some x ∧ len0 ≤ cap0 ∧ cap0 ≤ maxLen ∧ z0.length = cap0 ∧ (∀ i, i < z0.length → w.cell? (x.add i) = some (.int .u8 (z0.getD i 0))) ∧ ∀ n ∈ z0, (Lit.int .u8 n).wf = true) (y0 : len0 * 1 ≤ 140737488351232) (w1 : (a1 = none ∧ len1 = 0 ∧ cap1 = 0 ∧ z1 = []) ∨ ∃ x, a1 = some x ∧ len1 ≤ cap1 ∧ cap1 ≤ maxLen ∧ z1.length = cap1 ∧ (∀ i, i < z1.length → w.cell? (x.add i) = some (.int .u8 (z1.getD i 0))) ∧ ∀ n ∈ z1, (Lit.int .u8 n).wf = true) (y1 : len1 * 1 ≤ 140737488351232) (w2 : (Lit.int .i64 a2).wf = true) :
    Calls Try.prog 8 #[.slice a0 len0 cap0, .slice a1 len1 cap1, .int .i64 a2] w fun e w' => e = .returned (.bool true) ∧ Below w.heap.size w w' := by
  obtain ⟨l0, rfl, hr0, hm0, hw0, hc0⟩ := ReadsInt.ofRowC w0
  obtain ⟨l1, rfl, hr1, hm1, hw1, hc1⟩ := ReadsInt.ofRowC w1
  obtain ⟨k, h⟩ := P l0 l1 a2 hm0 y0 hw0 hm1 y1 hw1 w2
  refine (waypointlaw08_FletcherJoins.calls k _ _ l0 _ _ l1 a2 true w (Kd.C_of_reads (d := (0 : Int)) (h1 := fun _ => rfl) hr0) hc0 (Kd.C_of_reads (d := (0 : Int)) (h1 := fun _ => rfl) hr1) hc1 h).mono ?_
  rintro e w' ⟨rfl, hd⟩
  exact ⟨rfl, hd⟩

end Go.Proofs.Ytandnmkllijnhaa.PT08

-- WRITTEN BY mygen.py, a program of mine over the kit's print; Lean checks every row
import Derived.Test.YtfoagppeddflnaaPT070
import Derived.Test.YtfoagppeddflnaaPT076
import Derived.Test.YtfoagppeddflnaaPT078
import Derived.Test.YtfoagppeddflnaaPT0717
namespace Go.Proofs.Ytfoagppeddflnaa.PT07
open Go.RowKit Go.Proofs.YtfoagppeddflnaaW.PrintWords Go.Proofs.YtfoagppeddflnaaW.PrintLast Go.Proofs.YtfoagppeddflnaaW.PrintMore
attribute [local go_sem] max2_int min2_int max_two min_two max_three min_three max_four min_four   -- for this text's walks alone
set_option linter.unusedVariables false
set_option linter.unusedSimpArgs false

/-! ### waypointlaw07_CodecValues: function 7 -/
def waypointlaw07_CodecValues.l0 : Nat → List (S43) → Int → List (List Int) → Int → Int → Option (Bool)
  | 0, _, _, _, _, _ => none
  | k + 1, x0, x1, x5, x6, x7 => if x7 < (x0.length : Int) then (if 0 ≤ x7 then (if ((rd_T43 x0 x7).f0) = x1 then (if x6 ≥ (x5.length : Int) then (some false) else (if 0 ≤ x6 then (if x6 < (x5.length : Int) then (if (strOfNums (rd_L2 x5 x6)).toList = (strOfNums ((rd_T43 x0 x7).f1)).toList then (waypointlaw07_CodecValues.l0 k x0 x1 x5 (wrap64 (x6 + 1)) (wrap64 (x7 + 1))) else (some false)) else (none)) else (none))) else (waypointlaw07_CodecValues.l0 k x0 x1 x5 x6 (wrap64 (x7 + 1)))) else (none)) else (some (x6 == (x5.length : Int)))
def waypointlaw07_CodecValues.f (k : Nat) (l0 : List (S43)) (a1 : Int) : Option (Bool) := (waypointlaw07_awake.f k).bind fun t307 => (if t307 = true then (if (l0.length : Int) > 40 then (some true) else ((waypointlaw07_own.f k l0).bind fun t308 => ((codec_Values.f k t308 a1).bind fun t311 => (waypointlaw07_CodecValues.l0 k l0 a1 t311 0 0)))) else (some false))
theorem waypointlaw07_CodecValues.mono_l : ∀ k, (∀ y0 y1 y2 y3 y4, LeO (waypointlaw07_CodecValues.l0 k y0 y1 y2 y3 y4) (waypointlaw07_CodecValues.l0 (k + 1) y0 y1 y2 y3 y4))
  | 0 => fun _ _ _ _ _ r h => by simp [waypointlaw07_CodecValues.l0] at h
  | k + 1 => by
    have ih0 := waypointlaw07_CodecValues.mono_l k
    · intro y0 y1 y2 y3 y4
      unfold waypointlaw07_CodecValues.l0
      repeat' first
      | (with_reducible exact ih0 _ _ _ _ _)
      | (with_reducible exact codec_Values.mono _ _ _)
      | (with_reducible exact waypointlaw07_awake.mono _)
      | (with_reducible exact waypointlaw07_own.mono _ _)
      | (with_reducible exact LeO.refl _)
      | (with_reducible exact LeO.none _)
      | (with_reducible refine LeO.ite ?_ ?_)
      | (with_reducible refine LeO.bind ?_ (fun _ => ?_))
      | exact ih0 _ _ _ _ _
      | exact codec_Values.mono _ _ _
      | exact waypointlaw07_awake.mono _
      | exact waypointlaw07_own.mono _ _
      | exact LeO.none _
      | refine LeO.ite ?_ ?_
      | refine LeO.bind ?_ (fun _ => ?_)
theorem waypointlaw07_CodecValues.mono : ∀ a0 a1 k, LeO (waypointlaw07_CodecValues.f k a0 a1) (waypointlaw07_CodecValues.f (k + 1) a0 a1) := by
  intro a0 a1 k
  have ih0 := waypointlaw07_CodecValues.mono_l k
  unfold waypointlaw07_CodecValues.f
  repeat' first
      | (with_reducible exact ih0 _ _ _ _ _)
      | (with_reducible exact codec_Values.mono _ _ _)
      | (with_reducible exact waypointlaw07_awake.mono _)
      | (with_reducible exact waypointlaw07_own.mono _ _)
      | (with_reducible exact LeO.refl _)
      | (with_reducible exact LeO.none _)
      | (with_reducible refine LeO.ite ?_ ?_)
      | (with_reducible refine LeO.bind ?_ (fun _ => ?_))
      | exact ih0 _ _ _ _ _
      | exact codec_Values.mono _ _ _
      | exact waypointlaw07_awake.mono _
      | exact waypointlaw07_own.mono _ _
      | exact LeO.none _
      | refine LeO.ite ?_ ?_
      | refine LeO.bind ?_ (fun _ => ?_)
set_option maxHeartbeats 8000000 in
set_option maxRecDepth 100000 in
theorem waypointlaw07_CodecValues.calls (k : Nat) (A0 : Option Addr) (c0 : Nat) (l0 : List (S43)) (a1 : Int) (r : Bool) (w : World) (hr0 : Kd.C k43 w A0 l0.length l0) (hc0 : l0.length ≤ c0) (h : waypointlaw07_CodecValues.f k l0 a1 = some r) :
    Calls Try.prog 7 #[.slice A0 l0.length c0, .int .i64 a1] w fun e w' => e = .returned (.bool r) ∧ Below w.heap.size w w' := by
  have HR0 := Aside0.mk hr0
  have HC0 := Aside0.mk hc0
  clear hr0 hc0
  have HB := Aside0.mk (Below.refl w.heap.size w)
  have H : ((waypointlaw07_awake.f k).bind fun t307 => (if t307 = true then (if (l0.length : Int) > 40 then (some true) else ((waypointlaw07_own.f k l0).bind fun t308 => ((codec_Values.f k t308 a1).bind fun t311 => (waypointlaw07_CodecValues.l0 k l0 a1 t311 0 0)))) else (some false))) = some r := h
  clear h
  replace H := Option.bind_eq_some_iff.mp H
  obtain ⟨t307, A30, H⟩ := H
  replace H : (if t307 = true then (if (l0.length : Int) > 40 then (some true) else ((waypointlaw07_own.f k l0).bind fun t308 => ((codec_Values.f k t308 a1).bind fun t311 => (waypointlaw07_CodecValues.l0 k l0 a1 t311 0 0)))) else (some false)) = some r := H
  have A3 := Aside0.mk A30
  clear A30
  by_cases c4 : t307 = true
  · subst c4
    have H1 : (if (l0.length : Int) > 40 then (some true) else ((waypointlaw07_own.f k l0).bind fun t308 => ((codec_Values.f k t308 a1).bind fun t311 => (waypointlaw07_CodecValues.l0 k l0 a1 t311 0 0)))) = some r := by rw [if_pos rfl] at H; exact H
    clear H
    have H := H1
    clear H1
    by_cases c5 : (l0.length : Int) > 40
    · rw [if_pos c5] at H
      have c5b0 : decide (40 < (l0.length : Int)) = true := decide_eq_true c5
      have c5b1 : decide (40 < l0.length) = true := decide_eq_true (by omega)
      clear c5
      obtain rfl := Option.some.inj H
      go_enter Try.func7, Try.ntmps7
      go_wp2_with (first | (go_at_call 10; (with_reducible refine (waypointlaw07_awake.calls k  true _ A3.out).mono ?_); rintro e w6 ⟨rfl, hb⟩; have n0_ := Aside0.mk (below_step (by repeat (first | (with_reducible first | exact HB.out | apply below_alloc | apply pw_below_drewN | apply below_drew1) | exact HB.out)) hb); clear HB; have HB := n0_; clear n0_; (try clear hb); (try clear hb2); (try clear hk); (try clear hi)))
      repeat (go_quiet (first | (go_at_call 10; (with_reducible refine (waypointlaw07_awake.calls k  true _ A3.out).mono ?_); rintro e w6 ⟨rfl, hb⟩; have n0_ := Aside0.mk (below_step (by repeat (first | (with_reducible first | exact HB.out | apply below_alloc | apply pw_below_drewN | apply below_drew1) | exact HB.out)) hb); clear HB; have HB := n0_; clear n0_; (try clear hb); (try clear hb2); (try clear hk); (try clear hi))); try go_wp2_with (first | (go_at_call 10; (with_reducible refine (waypointlaw07_awake.calls k  true _ A3.out).mono ?_); rintro e w6 ⟨rfl, hb⟩; have n0_ := Aside0.mk (below_step (by repeat (first | (with_reducible first | exact HB.out | apply below_alloc | apply pw_below_drewN | apply below_drew1) | exact HB.out)) hb); clear HB; have HB := n0_; clear n0_; (try clear hb); (try clear hb2); (try clear hk); (try clear hi))))
      go_ret
      exact ⟨by first | rfl | (simp [errW_none, errW_some] <;> rfl) | (simp [*, errW_none, errW_some] <;> rfl), by repeat (first | (with_reducible first | exact HB.out | apply below_alloc | apply pw_below_drewN | apply below_drew1) | exact HB.out)⟩
    · rw [if_neg c5] at H
      have c5b0 : decide (40 < (l0.length : Int)) = false := decide_eq_false c5
      have c5b1 : decide (40 < l0.length) = false := decide_eq_false (by omega)
      clear c5
      replace H := Option.bind_eq_some_iff.mp H
      obtain ⟨t308, A70, H⟩ := H
      replace H : ((codec_Values.f k t308 a1).bind fun t311 => (waypointlaw07_CodecValues.l0 k l0 a1 t311 0 0)) = some r := H
      have A7 := Aside0.mk A70
      clear A70
      replace H := Option.bind_eq_some_iff.mp H
      obtain ⟨t311, A80, H⟩ := H
      replace H : (waypointlaw07_CodecValues.l0 k l0 a1 t311 0 0) = some r := H
      have A8 := Aside0.mk A80
      clear A80
      have H' := Aside0.mk H
      clear H
      go_enter Try.func7, Try.ntmps7
      go_wp2_with (first | (go_at_call 10; (with_reducible refine (waypointlaw07_awake.calls k  true _ A3.out).mono ?_); rintro e w9 ⟨rfl, hb⟩; have n0_ := Aside0.mk (below_step (by repeat (first | (with_reducible first | exact HB.out | apply below_alloc | apply pw_below_drewN | apply below_drew1) | exact HB.out)) hb); clear HB; have HB := n0_; clear n0_; (try clear hb); (try clear hb2); (try clear hk); (try clear hi)) | (go_at_call 12; (with_reducible refine (waypointlaw07_own.calls k (fun k_ => k_ < w.heap.size) _ _ l0 t308 _ ?side1 A7.out).mono ?_); (case side1 => exact Kd.V_mk HC0.out (Kd.F_below (Kd.C_F k43_heap HR0.out) (by repeat (first | (with_reducible first | exact HB.out | apply below_alloc | apply pw_below_drewN | apply below_drew1) | exact HB.out)))); rintro e w10 ⟨v309, rfl, ho0, hb⟩; have n0_ := Aside0.mk (Kd.N_lower (Kd.N_mono (ok' := fun k_ => True) ho0 (fun k_ hk_ => trivial)) (below_size (by repeat (first | (with_reducible first | exact HB.out | apply below_alloc | apply pw_below_drewN | apply below_drew1) | exact HB.out)))); have n1_ := Aside0.mk (below_step (by repeat (first | (with_reducible first | exact HB.out | apply below_alloc | apply pw_below_drewN | apply below_drew1) | exact HB.out)) hb); clear HB; have HO310 := n0_; have HB := n1_; clear n0_ n1_; (try clear hb); (try clear hb2); (try clear hk); (try clear hi); (try clear ho0); obtain ⟨Ao11, co11, eo11⟩ := Kd.N_slice HO310.out; subst eo11) | (go_at_call 19; (with_reducible refine (codec_Values.calls k _ _ t308 a1 t311 _ ?side1 ?side2 A8.out).mono ?_); (case side1 => repeat (first | exact (Kd.N_reads' HO310.out).2.2 | (with_reducible refine Kd.C_alloc ?_ _) | (with_reducible refine Kd.C_drewN ?_ _) | (with_reducible refine Kd.C_drew ?_))); (case side2 => exact (Kd.N_reads' HO310.out).2.1); rintro e w12 ⟨v312, rfl, ho0, hb⟩; have n0_ := Aside0.mk (Kd.N_elder' (by (with_reducible repeat (first | apply Kd.N_alloc | apply Kd.N_drewN | apply Kd.N_drew)); exact HO310.out) (Kd.S_base ho0) hb); have n1_ := Aside0.mk (Kd.N_lower (Kd.N_mono (ok' := fun k_ => some k_ ≠ (.slice Ao11 t308.length co11 : Value).ownBlock) (Kd.S_N (Kd.S_bound ho0)) (fun k_ hk_ => (Kd.fresh' (Kd.N_lt (by (with_reducible repeat (first | apply Kd.N_alloc | apply Kd.N_drewN | apply Kd.N_drew)); exact HO310.out)) k_ hk_.2.1))) (below_size (by repeat (first | (with_reducible first | exact HB.out | apply below_alloc | apply pw_below_drewN | apply below_drew1) | exact HB.out)))); have n2_ := Aside0.mk (below_step (by repeat (first | (with_reducible first | exact HB.out | apply below_alloc | apply pw_below_drewN | apply below_drew1) | exact HB.out)) hb); clear HO310; clear HB; have HO310 := n0_; have HO313 := n1_; have HB := n2_; clear n0_ n1_ n2_; (try clear hb); (try clear hb2); (try clear hk); (try clear hi); (try clear ho0)))
      repeat (go_quiet (first | (go_at_call 10; (with_reducible refine (waypointlaw07_awake.calls k  true _ A3.out).mono ?_); rintro e w9 ⟨rfl, hb⟩; have n0_ := Aside0.mk (below_step (by repeat (first | (with_reducible first | exact HB.out | apply below_alloc | apply pw_below_drewN | apply below_drew1) | exact HB.out)) hb); clear HB; have HB := n0_; clear n0_; (try clear hb); (try clear hb2); (try clear hk); (try clear hi)) | (go_at_call 12; (with_reducible refine (waypointlaw07_own.calls k (fun k_ => k_ < w.heap.size) _ _ l0 t308 _ ?side1 A7.out).mono ?_); (case side1 => exact Kd.V_mk HC0.out (Kd.F_below (Kd.C_F k43_heap HR0.out) (by repeat (first | (with_reducible first | exact HB.out | apply below_alloc | apply pw_below_drewN | apply below_drew1) | exact HB.out)))); rintro e w10 ⟨v309, rfl, ho0, hb⟩; have n0_ := Aside0.mk (Kd.N_lower (Kd.N_mono (ok' := fun k_ => True) ho0 (fun k_ hk_ => trivial)) (below_size (by repeat (first | (with_reducible first | exact HB.out | apply below_alloc | apply pw_below_drewN | apply below_drew1) | exact HB.out)))); have n1_ := Aside0.mk (below_step (by repeat (first | (with_reducible first | exact HB.out | apply below_alloc | apply pw_below_drewN | apply below_drew1) | exact HB.out)) hb); clear HB; have HO310 := n0_; have HB := n1_; clear n0_ n1_; (try clear hb); (try clear hb2); (try clear hk); (try clear hi); (try clear ho0); obtain ⟨Ao11, co11, eo11⟩ := Kd.N_slice HO310.out; subst eo11) | (go_at_call 19; (with_reducible refine (codec_Values.calls k _ _ t308 a1 t311 _ ?side1 ?side2 A8.out).mono ?_); (case side1 => repeat (first | exact (Kd.N_reads' HO310.out).2.2 | (with_reducible refine Kd.C_alloc ?_ _) | (with_reducible refine Kd.C_drewN ?_ _) | (with_reducible refine Kd.C_drew ?_))); (case side2 => exact (Kd.N_reads' HO310.out).2.1); rintro e w12 ⟨v312, rfl, ho0, hb⟩; have n0_ := Aside0.mk (Kd.N_elder' (by (with_reducible repeat (first | apply Kd.N_alloc | apply Kd.N_drewN | apply Kd.N_drew)); exact HO310.out) (Kd.S_base ho0) hb); have n1_ := Aside0.mk (Kd.N_lower (Kd.N_mono (ok' := fun k_ => some k_ ≠ (.slice Ao11 t308.length co11 : Value).ownBlock) (Kd.S_N (Kd.S_bound ho0)) (fun k_ hk_ => (Kd.fresh' (Kd.N_lt (by (with_reducible repeat (first | apply Kd.N_alloc | apply Kd.N_drewN | apply Kd.N_drew)); exact HO310.out)) k_ hk_.2.1))) (below_size (by repeat (first | (with_reducible first | exact HB.out | apply below_alloc | apply pw_below_drewN | apply below_drew1) | exact HB.out)))); have n2_ := Aside0.mk (below_step (by repeat (first | (with_reducible first | exact HB.out | apply below_alloc | apply pw_below_drewN | apply below_drew1) | exact HB.out)) hb); clear HO310; clear HB; have HO310 := n0_; have HO313 := n1_; have HB := n2_; clear n0_ n1_ n2_; (try clear hb); (try clear hb2); (try clear hk); (try clear hi); (try clear ho0))); try go_wp2_with (first | (go_at_call 10; (with_reducible refine (waypointlaw07_awake.calls k  true _ A3.out).mono ?_); rintro e w9 ⟨rfl, hb⟩; have n0_ := Aside0.mk (below_step (by repeat (first | (with_reducible first | exact HB.out | apply below_alloc | apply pw_below_drewN | apply below_drew1) | exact HB.out)) hb); clear HB; have HB := n0_; clear n0_; (try clear hb); (try clear hb2); (try clear hk); (try clear hi)) | (go_at_call 12; (with_reducible refine (waypointlaw07_own.calls k (fun k_ => k_ < w.heap.size) _ _ l0 t308 _ ?side1 A7.out).mono ?_); (case side1 => exact Kd.V_mk HC0.out (Kd.F_below (Kd.C_F k43_heap HR0.out) (by repeat (first | (with_reducible first | exact HB.out | apply below_alloc | apply pw_below_drewN | apply below_drew1) | exact HB.out)))); rintro e w10 ⟨v309, rfl, ho0, hb⟩; have n0_ := Aside0.mk (Kd.N_lower (Kd.N_mono (ok' := fun k_ => True) ho0 (fun k_ hk_ => trivial)) (below_size (by repeat (first | (with_reducible first | exact HB.out | apply below_alloc | apply pw_below_drewN | apply below_drew1) | exact HB.out)))); have n1_ := Aside0.mk (below_step (by repeat (first | (with_reducible first | exact HB.out | apply below_alloc | apply pw_below_drewN | apply below_drew1) | exact HB.out)) hb); clear HB; have HO310 := n0_; have HB := n1_; clear n0_ n1_; (try clear hb); (try clear hb2); (try clear hk); (try clear hi); (try clear ho0); obtain ⟨Ao11, co11, eo11⟩ := Kd.N_slice HO310.out; subst eo11) | (go_at_call 19; (with_reducible refine (codec_Values.calls k _ _ t308 a1 t311 _ ?side1 ?side2 A8.out).mono ?_); (case side1 => repeat (first | exact (Kd.N_reads' HO310.out).2.2 | (with_reducible refine Kd.C_alloc ?_ _) | (with_reducible refine Kd.C_drewN ?_ _) | (with_reducible refine Kd.C_drew ?_))); (case side2 => exact (Kd.N_reads' HO310.out).2.1); rintro e w12 ⟨v312, rfl, ho0, hb⟩; have n0_ := Aside0.mk (Kd.N_elder' (by (with_reducible repeat (first | apply Kd.N_alloc | apply Kd.N_drewN | apply Kd.N_drew)); exact HO310.out) (Kd.S_base ho0) hb); have n1_ := Aside0.mk (Kd.N_lower (Kd.N_mono (ok' := fun k_ => some k_ ≠ (.slice Ao11 t308.length co11 : Value).ownBlock) (Kd.S_N (Kd.S_bound ho0)) (fun k_ hk_ => (Kd.fresh' (Kd.N_lt (by (with_reducible repeat (first | apply Kd.N_alloc | apply Kd.N_drewN | apply Kd.N_drew)); exact HO310.out)) k_ hk_.2.1))) (below_size (by repeat (first | (with_reducible first | exact HB.out | apply below_alloc | apply pw_below_drewN | apply below_drew1) | exact HB.out)))); have n2_ := Aside0.mk (below_step (by repeat (first | (with_reducible first | exact HB.out | apply below_alloc | apply pw_below_drewN | apply below_drew1) | exact HB.out)) hb); clear HO310; clear HB; have HO310 := n0_; have HO313 := n1_; have HB := n2_; clear n0_ n1_ n2_; (try clear hb); (try clear hb2); (try clear hk); (try clear hi); (try clear ho0))))
      go_loopg [6, 7] k (fun kq v6 v7 w' => ∃ (x6_1 : Int) (x7_1 : Int), v6 = .int .i64 x6_1 ∧ v7 = .int .i64 x7_1 ∧ Aside0 (waypointlaw07_CodecValues.l0 kq l0 a1 t311 x6_1 x7_1 = some r) ∧ Aside0 (kq ≤ k) ∧ Aside0 (Kd.N (Kd.slice 5 (Kd.int .u8)) 27 w' w.heap.size (fun _ => True) v312 t311) ∧ Aside0 (Below w.heap.size w w'))
      case atStart => exact ⟨(0), (0), (by first | rfl | (simp; done) | (simp [*]; done)), (by first | rfl | (simp; done) | (simp [*]; done)), H', ⟨Nat.le_refl _⟩, ⟨by (with_reducible repeat (first | apply Kd.N_alloc | apply Kd.N_drewN | apply Kd.N_drew)); exact Kd.N_mono HO313.out (fun _ hk => trivial)⟩, ⟨by repeat (first | (with_reducible first | exact HB.out | apply below_alloc | apply pw_below_drewN | apply below_drew1) | exact HB.out)⟩⟩
      case round =>
        clear H'
        try clear p2
        try clear c4
        try clear c5
        try clear c5b0
        try clear c5b1
        try clear c7
        obtain ⟨x6_1, x7_1, rfl, rfl, HA, HK1, HO_5, HB⟩ := hrel
        cases gk with
        | zero => exact absurd HA.out (by simp [waypointlaw07_CodecValues.l0])
        | succ k1 =>
          have H := HA.out
          clear HA
          simp only [waypointlaw07_CodecValues.l0] at H
          by_cases c13 : x7_1 < (l0.length : Int)
          · rw [if_pos c13] at H
            have c13b0 : decide (x7_1 < (l0.length : Int)) = true := decide_eq_true c13
            clear c13
            by_cases c14 : 0 ≤ x7_1
            · rw [if_pos c14] at H
              have c14b0 : decide (0 ≤ x7_1) = true := decide_eq_true c14
              clear c14
              by_cases c15 : ((rd_T43 l0 x7_1).f0) = a1
              · rw [if_pos c15] at H
                have c15b0 : (((rd_T43 l0 x7_1).f0) == a1) = true := beq_iff_eq.mpr c15
                have c15b1 : (((rd_T43 l0 x7_1).f0) != a1) = false := bne_eq_false_iff_eq.mpr c15
                clear c15
                by_cases c16 : x6_1 ≥ (t311.length : Int)
                · rw [if_pos c16] at H
                  have c16b0 : decide ((t311.length : Int) ≤ x6_1) = true := decide_eq_true c16
                  clear c16
                  obtain rfl := Option.some.inj H
                  have p314 : 0 ≤ (x7_1 : Int) := of_decide_eq_true (by first | (with_reducible assumption) | assumption)
                  have q314 : x7_1 < (l0.length : Int) := of_decide_eq_true (by first | (with_reducible assumption) | assumption)
                  obtain ⟨ad314, A314_1, c314_1, e314, hx314_0, hx314_1, hl314_1, hi314_1⟩ := at_T43 HR0.out x7_1 p314 q314
                  cases e314
                  replace hx314_0 := (HB.out.cell (World.block_lt_of_cell? w _ hx314_0)).trans hx314_0
                  replace hx314_1 := (HB.out.cell (World.block_lt_of_cell? w _ hx314_1)).trans hx314_1
                  have HR314_1 := Aside0.mk hi314_1
                  have HC314_1 := Aside0.mk hl314_1
                  clear hi314_1 hl314_1
                  replace p314 := eq_true p314
                  replace q314 := eq_true q314
                  obtain ⟨Ao17, co17, eo17⟩ := Kd.N_slice HO_5.out
                  subst eo17
                  go_wp2
                  repeat (go_quiet (fail); try go_wp2)
                  go_ret
                  exact ⟨by first | rfl | (simp [errW_none, errW_some] <;> rfl) | (simp [*, errW_none, errW_some] <;> rfl), by repeat (first | (with_reducible first | exact HB.out | apply below_alloc | apply pw_below_drewN | apply below_drew1) | exact HB.out)⟩
                · rw [if_neg c16] at H
                  have c16b0 : decide ((t311.length : Int) ≤ x6_1) = false := decide_eq_false c16
                  clear c16
                  by_cases c18 : 0 ≤ x6_1
                  · rw [if_pos c18] at H
                    have c18b0 : decide (0 ≤ x6_1) = true := decide_eq_true c18
                    clear c18
                    by_cases c19 : x6_1 < (t311.length : Int)
                    · rw [if_pos c19] at H
                      have c19b0 : decide (x6_1 < (t311.length : Int)) = true := decide_eq_true c19
                      clear c19
                      by_cases c20 : (strOfNums (rd_L2 t311 x6_1)).toList = (strOfNums ((rd_T43 l0 x7_1).f1)).toList
                      · rw [if_pos c20] at H
                        have c20b0 : ((strOfNums (rd_L2 t311 x6_1)).toList == (strOfNums ((rd_T43 l0 x7_1).f1)).toList) = true := beq_iff_eq.mpr c20
                        have c20b1 : ((strOfNums (rd_L2 t311 x6_1)).toList != (strOfNums ((rd_T43 l0 x7_1).f1)).toList) = false := bne_eq_false_iff_eq.mpr c20
                        clear c20
                        have H' := Aside0.mk H
                        clear H
                        have p314 : 0 ≤ (x7_1 : Int) := of_decide_eq_true (by first | (with_reducible assumption) | assumption)
                        have q314 : x7_1 < (l0.length : Int) := of_decide_eq_true (by first | (with_reducible assumption) | assumption)
                        obtain ⟨ad314, A314_1, c314_1, e314, hx314_0, hx314_1, hl314_1, hi314_1⟩ := at_T43 HR0.out x7_1 p314 q314
                        cases e314
                        replace hx314_0 := (HB.out.cell (World.block_lt_of_cell? w _ hx314_0)).trans hx314_0
                        replace hx314_1 := (HB.out.cell (World.block_lt_of_cell? w _ hx314_1)).trans hx314_1
                        have HR314_1 := Aside0.mk hi314_1
                        have HC314_1 := Aside0.mk hl314_1
                        clear hi314_1 hl314_1
                        replace p314 := eq_true p314
                        replace q314 := eq_true q314
                        obtain ⟨Ao21, co21, eo21⟩ := Kd.N_slice HO_5.out
                        subst eo21
                        have p315 : 0 ≤ (x6_1 : Int) := of_decide_eq_true (by first | (with_reducible assumption) | assumption)
                        have q315 : x6_1 < (t311.length : Int) := of_decide_eq_true (by first | (with_reducible assumption) | assumption)
                        obtain ⟨ad315, A315_0, c315_0, e315, hx315_0, hl315_0, hi315_0⟩ := at_L2 (Kd.N_reads' HO_5.out).2.2 x6_1 p315 q315
                        cases e315
                        obtain ⟨ce315, hce315, hMe315, hcc315⟩ := Kd.N_get HO_5.out [] x6_1 p315 (by first | exact q315 | exact of_decide_eq_true (by first | (with_reducible assumption) | assumption) | (have e_ := (Kd.N_reads' HO_5.out).1; omega))
                        obtain ⟨ua315_0, uc315_0, rfl, ul315_0, ge315_0⟩ := Kd.FK_slice_open hMe315
                        have hv315_0 := hcc315 0 _ rfl
                        rw [Nat.add_zero, show ((Kd.slice 5 (Kd.int .u8))).sz = 1 from rfl, Nat.mul_one] at hv315_0
                        replace hv315_0 := Option.some.inj (hv315_0.symm.trans hx315_0)
                        injection hv315_0 with hva_ hvn_ hvc_
                        rw [hva_] at ge315_0
                        rw [hvc_] at ul315_0
                        have HL315_0 := Aside0.mk (show Kd.V (Kd.int .u8) 5 _ w.heap.size _ _ (rd_L2 t311 x6_1) from Kd.V_mk ul315_0 ge315_0)
                        clear hva_ hvn_ hvc_ ge315_0 ul315_0
                        clear hcc315 hce315
                        have HR315_0 := Aside0.mk hi315_0
                        have HC315_0 := Aside0.mk hl315_0
                        clear hi315_0 hl315_0
                        replace p315 := eq_true p315
                        replace q315 := eq_true q315
                        have hcv22 := Kd.C_string (P := Try.prog) (A := A315_0) (c := c315_0) Try.underlying27 Try.underlying5 Try.underlying9 (by repeat (first | (with_reducible exact HR315_0.out) | (with_reducible refine Kd.C_alloc ?_ _) | (with_reducible refine Kd.C_drewN ?_ _) | (with_reducible refine Kd.C_drew ?_) | exact HR315_0.out))
                        have hcv22n := fun n_ => Kd.C_string (P := Try.prog) (A := A315_0) (c := c315_0) Try.underlying27 Try.underlying5 Try.underlying9 (Kd.C_drewN (by repeat (first | (with_reducible exact HR315_0.out) | (with_reducible refine Kd.C_alloc ?_ _) | (with_reducible refine Kd.C_drewN ?_ _) | (with_reducible refine Kd.C_drew ?_) | exact HR315_0.out)) n_)
                        have p316 : 0 ≤ (x7_1 : Int) := of_decide_eq_true (by first | (with_reducible assumption) | assumption)
                        have q316 : x7_1 < (l0.length : Int) := of_decide_eq_true (by first | (with_reducible assumption) | assumption)
                        obtain ⟨ad316, A316_1, c316_1, e316, hx316_0, hx316_1, hl316_1, hi316_1⟩ := at_T43 HR0.out x7_1 p316 q316
                        obtain rfl : ad314 = ad316 := (by injection e316)
                        replace hx316_0 := (HB.out.cell (World.block_lt_of_cell? w _ hx316_0)).trans hx316_0
                        replace hx316_1 := (HB.out.cell (World.block_lt_of_cell? w _ hx316_1)).trans hx316_1
                        have HR316_1 := Aside0.mk hi316_1
                        have HC316_1 := Aside0.mk hl316_1
                        clear hi316_1 hl316_1
                        replace p316 := eq_true p316
                        replace q316 := eq_true q316
                        have ea_ := Option.some.inj (hx314_1.symm.trans hx316_1)
                        injection ea_ with ea_ en_ ec_
                        subst ea_
                        subst ec_
                        clear en_
                        have hcv23 := Kd.C_string (P := Try.prog) (A := A314_1) (c := c314_1) Try.underlying27 Try.underlying5 Try.underlying9 (Kd.C_below HR316_1.out HB.out)
                        have hcv23n := fun n_ => Kd.C_string (P := Try.prog) (A := A314_1) (c := c314_1) Try.underlying27 Try.underlying5 Try.underlying9 (Kd.C_drewN (Kd.C_below HR316_1.out HB.out) n_)
                        go_wp2
                        repeat (go_quiet (fail); try go_wp2)
                        go_roundg k1
                        case measure => have := HK1.out; omega
                        case rel => exact ⟨(wrap64 (x6_1 + 1)), (wrap64 (x7_1 + 1)), (by first | rfl | (simp; done) | (simp [*]; done)), (by first | rfl | (simp; done) | (simp [*]; done)), H', ⟨by have := HK1.out; omega⟩, ⟨by (with_reducible repeat (first | apply Kd.N_alloc | apply Kd.N_drewN | apply Kd.N_drew)); exact HO_5.out⟩, ⟨by repeat (first | (with_reducible first | exact HB.out | apply below_alloc | apply pw_below_drewN | apply below_drew1) | exact HB.out)⟩⟩
                      · rw [if_neg c20] at H
                        have c20b0 : ((strOfNums (rd_L2 t311 x6_1)).toList == (strOfNums ((rd_T43 l0 x7_1).f1)).toList) = false := beq_eq_false_iff_ne.mpr c20
                        have c20b1 : ((strOfNums (rd_L2 t311 x6_1)).toList != (strOfNums ((rd_T43 l0 x7_1).f1)).toList) = true := bne_iff_ne.mpr c20
                        obtain rfl := Option.some.inj H
                        have p314 : 0 ≤ (x7_1 : Int) := of_decide_eq_true (by first | (with_reducible assumption) | assumption)
                        have q314 : x7_1 < (l0.length : Int) := of_decide_eq_true (by first | (with_reducible assumption) | assumption)
                        obtain ⟨ad314, A314_1, c314_1, e314, hx314_0, hx314_1, hl314_1, hi314_1⟩ := at_T43 HR0.out x7_1 p314 q314
                        cases e314
                        replace hx314_0 := (HB.out.cell (World.block_lt_of_cell? w _ hx314_0)).trans hx314_0
                        replace hx314_1 := (HB.out.cell (World.block_lt_of_cell? w _ hx314_1)).trans hx314_1
                        have HR314_1 := Aside0.mk hi314_1
                        have HC314_1 := Aside0.mk hl314_1
                        clear hi314_1 hl314_1
                        replace p314 := eq_true p314
                        replace q314 := eq_true q314
                        obtain ⟨Ao24, co24, eo24⟩ := Kd.N_slice HO_5.out
                        subst eo24
                        have p315 : 0 ≤ (x6_1 : Int) := of_decide_eq_true (by first | (with_reducible assumption) | assumption)
                        have q315 : x6_1 < (t311.length : Int) := of_decide_eq_true (by first | (with_reducible assumption) | assumption)
                        obtain ⟨ad315, A315_0, c315_0, e315, hx315_0, hl315_0, hi315_0⟩ := at_L2 (Kd.N_reads' HO_5.out).2.2 x6_1 p315 q315
                        cases e315
                        obtain ⟨ce315, hce315, hMe315, hcc315⟩ := Kd.N_get HO_5.out [] x6_1 p315 (by first | exact q315 | exact of_decide_eq_true (by first | (with_reducible assumption) | assumption) | (have e_ := (Kd.N_reads' HO_5.out).1; omega))
                        obtain ⟨ua315_0, uc315_0, rfl, ul315_0, ge315_0⟩ := Kd.FK_slice_open hMe315
                        have hv315_0 := hcc315 0 _ rfl
                        rw [Nat.add_zero, show ((Kd.slice 5 (Kd.int .u8))).sz = 1 from rfl, Nat.mul_one] at hv315_0
                        replace hv315_0 := Option.some.inj (hv315_0.symm.trans hx315_0)
                        injection hv315_0 with hva_ hvn_ hvc_
                        rw [hva_] at ge315_0
                        rw [hvc_] at ul315_0
                        have HL315_0 := Aside0.mk (show Kd.V (Kd.int .u8) 5 _ w.heap.size _ _ (rd_L2 t311 x6_1) from Kd.V_mk ul315_0 ge315_0)
                        clear hva_ hvn_ hvc_ ge315_0 ul315_0
                        clear hcc315 hce315
                        have HR315_0 := Aside0.mk hi315_0
                        have HC315_0 := Aside0.mk hl315_0
                        clear hi315_0 hl315_0
                        replace p315 := eq_true p315
                        replace q315 := eq_true q315
                        have hcv25 := Kd.C_string (P := Try.prog) (A := A315_0) (c := c315_0) Try.underlying27 Try.underlying5 Try.underlying9 (by repeat (first | (with_reducible exact HR315_0.out) | (with_reducible refine Kd.C_alloc ?_ _) | (with_reducible refine Kd.C_drewN ?_ _) | (with_reducible refine Kd.C_drew ?_) | exact HR315_0.out))
                        have hcv25n := fun n_ => Kd.C_string (P := Try.prog) (A := A315_0) (c := c315_0) Try.underlying27 Try.underlying5 Try.underlying9 (Kd.C_drewN (by repeat (first | (with_reducible exact HR315_0.out) | (with_reducible refine Kd.C_alloc ?_ _) | (with_reducible refine Kd.C_drewN ?_ _) | (with_reducible refine Kd.C_drew ?_) | exact HR315_0.out)) n_)
                        have p316 : 0 ≤ (x7_1 : Int) := of_decide_eq_true (by first | (with_reducible assumption) | assumption)
                        have q316 : x7_1 < (l0.length : Int) := of_decide_eq_true (by first | (with_reducible assumption) | assumption)
                        obtain ⟨ad316, A316_1, c316_1, e316, hx316_0, hx316_1, hl316_1, hi316_1⟩ := at_T43 HR0.out x7_1 p316 q316
                        obtain rfl : ad314 = ad316 := (by injection e316)
                        replace hx316_0 := (HB.out.cell (World.block_lt_of_cell? w _ hx316_0)).trans hx316_0
                        replace hx316_1 := (HB.out.cell (World.block_lt_of_cell? w _ hx316_1)).trans hx316_1
                        have HR316_1 := Aside0.mk hi316_1
                        have HC316_1 := Aside0.mk hl316_1
                        clear hi316_1 hl316_1
                        replace p316 := eq_true p316
                        replace q316 := eq_true q316
                        have ea_ := Option.some.inj (hx314_1.symm.trans hx316_1)
                        injection ea_ with ea_ en_ ec_
                        subst ea_
                        subst ec_
                        clear en_
                        have hcv26 := Kd.C_string (P := Try.prog) (A := A314_1) (c := c314_1) Try.underlying27 Try.underlying5 Try.underlying9 (Kd.C_below HR316_1.out HB.out)
                        have hcv26n := fun n_ => Kd.C_string (P := Try.prog) (A := A314_1) (c := c314_1) Try.underlying27 Try.underlying5 Try.underlying9 (Kd.C_drewN (Kd.C_below HR316_1.out HB.out) n_)
                        go_wp2
                        repeat (go_quiet (fail); try go_wp2)
                        go_ret
                        exact ⟨by first | rfl | (simp [errW_none, errW_some] <;> rfl) | (simp [*, errW_none, errW_some] <;> rfl), by repeat (first | (with_reducible first | exact HB.out | apply below_alloc | apply pw_below_drewN | apply below_drew1) | exact HB.out)⟩
                    · rw [if_neg c19] at H
                      exact absurd H (by simp)
                  · rw [if_neg c18] at H
                    exact absurd H (by simp)
              · rw [if_neg c15] at H
                have c15b0 : (((rd_T43 l0 x7_1).f0) == a1) = false := beq_eq_false_iff_ne.mpr c15
                have c15b1 : (((rd_T43 l0 x7_1).f0) != a1) = true := bne_iff_ne.mpr c15
                have H' := Aside0.mk H
                clear H
                have p314 : 0 ≤ (x7_1 : Int) := of_decide_eq_true (by first | (with_reducible assumption) | assumption)
                have q314 : x7_1 < (l0.length : Int) := of_decide_eq_true (by first | (with_reducible assumption) | assumption)
                obtain ⟨ad314, A314_1, c314_1, e314, hx314_0, hx314_1, hl314_1, hi314_1⟩ := at_T43 HR0.out x7_1 p314 q314
                cases e314
                replace hx314_0 := (HB.out.cell (World.block_lt_of_cell? w _ hx314_0)).trans hx314_0
                replace hx314_1 := (HB.out.cell (World.block_lt_of_cell? w _ hx314_1)).trans hx314_1
                have HR314_1 := Aside0.mk hi314_1
                have HC314_1 := Aside0.mk hl314_1
                clear hi314_1 hl314_1
                replace p314 := eq_true p314
                replace q314 := eq_true q314
                go_wp2
                repeat (go_quiet (fail); try go_wp2)
                go_roundg k1
                case measure => have := HK1.out; omega
                case rel => exact ⟨(x6_1), (wrap64 (x7_1 + 1)), (by first | rfl | (simp; done) | (simp [*]; done)), (by first | rfl | (simp; done) | (simp [*]; done)), H', ⟨by have := HK1.out; omega⟩, ⟨by (with_reducible repeat (first | apply Kd.N_alloc | apply Kd.N_drewN | apply Kd.N_drew)); exact HO_5.out⟩, ⟨by repeat (first | (with_reducible first | exact HB.out | apply below_alloc | apply pw_below_drewN | apply below_drew1) | exact HB.out)⟩⟩
            · rw [if_neg c14] at H
              exact absurd H (by simp)
          · rw [if_neg c13] at H
            have c13b0 : decide (x7_1 < (l0.length : Int)) = false := decide_eq_false c13
            clear c13
            obtain rfl := Option.some.inj H
            obtain ⟨Ao27, co27, eo27⟩ := Kd.N_slice HO_5.out
            subst eo27
            go_wp2
            repeat (go_quiet (fail); try go_wp2)
            go_ret
            exact ⟨by first | rfl | (simp [errW_none, errW_some] <;> rfl) | (simp [*, errW_none, errW_some] <;> rfl), by repeat (first | (with_reducible first | exact HB.out | apply below_alloc | apply pw_below_drewN | apply below_drew1) | exact HB.out)⟩
  · replace c4 := Bool.eq_false_iff.mpr c4
    subst c4
    have H1 : (some false) = some r := by rw [if_neg (show ¬ (false = true) by decide)] at H; exact H
    clear H
    have H := H1
    clear H1
    obtain rfl := Option.some.inj H
    go_enter Try.func7, Try.ntmps7
    go_wp2_with (first | (go_at_call 10; (with_reducible refine (waypointlaw07_awake.calls k  false _ A3.out).mono ?_); rintro e w28 ⟨rfl, hb⟩; have n0_ := Aside0.mk (below_step (by repeat (first | (with_reducible first | exact HB.out | apply below_alloc | apply pw_below_drewN | apply below_drew1) | exact HB.out)) hb); clear HB; have HB := n0_; clear n0_; (try clear hb); (try clear hb2); (try clear hk); (try clear hi)))
    repeat (go_quiet (first | (go_at_call 10; (with_reducible refine (waypointlaw07_awake.calls k  false _ A3.out).mono ?_); rintro e w28 ⟨rfl, hb⟩; have n0_ := Aside0.mk (below_step (by repeat (first | (with_reducible first | exact HB.out | apply below_alloc | apply pw_below_drewN | apply below_drew1) | exact HB.out)) hb); clear HB; have HB := n0_; clear n0_; (try clear hb); (try clear hb2); (try clear hk); (try clear hi))); try go_wp2_with (first | (go_at_call 10; (with_reducible refine (waypointlaw07_awake.calls k  false _ A3.out).mono ?_); rintro e w28 ⟨rfl, hb⟩; have n0_ := Aside0.mk (below_step (by repeat (first | (with_reducible first | exact HB.out | apply below_alloc | apply pw_below_drewN | apply below_drew1) | exact HB.out)) hb); clear HB; have HB := n0_; clear n0_; (try clear hb); (try clear hb2); (try clear hk); (try clear hi))))
    go_ret
    exact ⟨by first | rfl | (simp [errW_none, errW_some] <;> rfl) | (simp [*, errW_none, errW_some] <;> rfl), by repeat (first | (with_reducible first | exact HB.out | apply below_alloc | apply pw_below_drewN | apply below_drew1) | exact HB.out)⟩

end Go.Proofs.Ytfoagppeddflnaa.PT07

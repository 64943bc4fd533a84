-- WRITTEN BY mygen.py, a program of mine over the kit's print; Lean checks every row
import Derived.Test.YtfoagppeddflnaaPT070
namespace Go.Proofs.Ytfoagppeddflnaa.PT07
open Go.RowKit Go.Proofs.YtfoagppeddflnaaW.PrintWords Go.Proofs.YtfoagppeddflnaaW.PrintLast Go.Proofs.YtfoagppeddflnaaW.PrintMore
attribute [local go_sem] max2_int min2_int max_two min_two max_three min_three max_four min_four   -- for this text's walks alone
set_option linter.unusedVariables false
set_option linter.unusedSimpArgs false

/-! ### waypointlaw07_own: function 12 -/
def waypointlaw07_own.l0 : Nat → List (S43) → List (S56) → Int → Option ((List (S56)))
  | 0, _, _, _ => none
  | k + 1, x0, x3, x4 => if x4 < (x0.length : Int) then (if 0 ≤ x4 then (if x3.length < 4398046511104 then (waypointlaw07_own.l0 k x0 (x3 ++ [(⟨(rd_T43 x0 x4).f0, (rd_T43 x0 x4).f1⟩ : S56)]) (wrap64 (x4 + 1))) else (none)) else (none)) else (some x3)
def waypointlaw07_own.f (k : Nat) (l0 : List (S43)) : Option ((List (S56))) := waypointlaw07_own.l0 k l0 ([] : List (S56)) 0
theorem waypointlaw07_own.mono_l : ∀ k, (∀ y0 y1 y2, LeO (waypointlaw07_own.l0 k y0 y1 y2) (waypointlaw07_own.l0 (k + 1) y0 y1 y2))
  | 0 => fun _ _ _ r h => by simp [waypointlaw07_own.l0] at h
  | k + 1 => by
    have ih0 := waypointlaw07_own.mono_l k
    · intro y0 y1 y2
      unfold waypointlaw07_own.l0
      repeat' first
      | (with_reducible exact ih0 _ _ _)
      | (with_reducible exact LeO.refl _)
      | (with_reducible exact LeO.none _)
      | (with_reducible refine LeO.ite ?_ ?_)
      | (with_reducible refine LeO.bind ?_ (fun _ => ?_))
      | exact ih0 _ _ _
      | exact LeO.none _
      | refine LeO.ite ?_ ?_
      | refine LeO.bind ?_ (fun _ => ?_)
theorem waypointlaw07_own.mono : ∀ a0 k, LeO (waypointlaw07_own.f k a0) (waypointlaw07_own.f (k + 1) a0) := by
  intro a0 k
  have ih0 := waypointlaw07_own.mono_l k
  unfold waypointlaw07_own.f
  repeat' first
      | (with_reducible exact ih0 _ _ _)
      | (with_reducible exact LeO.refl _)
      | (with_reducible exact LeO.none _)
      | (with_reducible refine LeO.ite ?_ ?_)
      | (with_reducible refine LeO.bind ?_ (fun _ => ?_))
      | exact ih0 _ _ _
      | exact LeO.none _
      | refine LeO.ite ?_ ?_
      | refine LeO.bind ?_ (fun _ => ?_)
set_option maxHeartbeats 8000000 in
set_option maxRecDepth 100000 in
theorem waypointlaw07_own.calls (k : Nat) (P0_ : Nat → Prop) (A0 : Option Addr) (c0 : Nat) (l0 : List (S43)) (r : List (S56)) (w : World) (hs0 : Kd.V k43 43 w w.heap.size (fun k_ => P0_ k_) (.slice A0 l0.length c0) l0) (h : waypointlaw07_own.f k l0 = some r) :
    Calls Try.prog 12 #[.slice A0 l0.length c0] w fun e w' => ∃ v0_ : Value, e = .returned (v0_) ∧ Kd.N k56 56 w' w.heap.size (fun k_ => (P0_ k_ ∨ w.heap.size ≤ k_)) v0_ r ∧ Below w.heap.size w w' := by
  have hu43 := Try.underlying43
  have HO0 := Aside0.mk (show Kd.V k43 43 w w.heap.size (fun k_ => (P0_ k_ ∨ w.heap.size ≤ k_)) (.slice A0 l0.length c0) l0 from Kd.V_mono hs0 (fun k_ hk => .inl hk))
  have HB := Aside0.mk (Below.refl w.heap.size w)
  have H : (waypointlaw07_own.l0 k l0 ([] : List (S56)) 0) = some r := h
  clear h
  have H' := Aside0.mk H
  clear H
  go_enter Try.func12, Try.ntmps12
  go_wp2
  go_loopg [3, 4] k (fun kq v3 v4 w' => ∃ (x3_1 : List (S56)) (x4_1 : Int), v4 = .int .i64 x4_1 ∧ Aside0 (waypointlaw07_own.l0 kq l0 x3_1 x4_1 = some r) ∧ Aside0 (kq ≤ k) ∧ Aside0 (Kd.V k43 43 w' w.heap.size (fun k_ => (P0_ k_ ∨ w.heap.size ≤ k_) ∧ some k_ ≠ (v3 : Value).ownBlock) (.slice A0 l0.length c0) l0) ∧ Aside0 (Kd.N k56 56 w' w.heap.size (fun k_ => (P0_ k_ ∨ w.heap.size ≤ k_)) v3 x3_1) ∧ Aside0 (Below w.heap.size w w'))
  case atStart => exact ⟨(([] : List (S56))), (0), (by first | rfl | (simp; done) | (simp [*]; done)), H', ⟨Nat.le_refl _⟩, ⟨by (with_reducible repeat (first | apply Kd.V_alloc | apply Kd.V_drewN | apply Kd.V_drew)); exact Kd.V_mono HO0.out (fun _ hk => ⟨hk, (by simp [Value.ownBlock])⟩)⟩, ⟨by first | exact Kd.S_nil _ _ _ _ _ | exact Kd.N_nil _ _ _ _ _ | exact Kd.V_nil _ _ _ _ _ | exact Kd.Q_nil _ _ _ _ _ | exact Kd.R_nil _ _ _ _ _⟩, ⟨by repeat (first | (with_reducible first | exact HB.out | apply below_alloc | apply pw_below_drewN | apply below_drew1) | exact HB.out)⟩⟩
  case round =>
    clear H'
    try clear c1
    obtain ⟨x3_1, x4_1, rfl, HA, HK1, HO_0, HO_3, HB⟩ := hrel
    cases gk with
    | zero => exact absurd HA.out (by simp [waypointlaw07_own.l0])
    | succ k1 =>
      have H := HA.out
      clear HA
      simp only [waypointlaw07_own.l0] at H
      by_cases c2 : x4_1 < (l0.length : Int)
      · rw [if_pos c2] at H
        have c2b0 : decide (x4_1 < (l0.length : Int)) = true := decide_eq_true c2
        clear c2
        by_cases c3 : 0 ≤ x4_1
        · rw [if_pos c3] at H
          have c3b0 : decide (0 ≤ x4_1) = true := decide_eq_true c3
          clear c3
          by_cases c4 : x3_1.length < 4398046511104
          · rw [if_pos c4] at H
            have LMc4 := Aside0.mk c4
            clear c4
            obtain ⟨y159, hy159⟩ : ∃ y_ : List (S56), y_ = (x3_1 ++ [(⟨(rd_T43 l0 x4_1).f0, (rd_T43 l0 x4_1).f1⟩ : S56)]) := ⟨_, rfl⟩
            replace H : (waypointlaw07_own.l0 k1 l0 y159 (wrap64 (x4_1 + 1))) = some r := by first | (rw [hy159]; with_reducible exact H) | (have H2_ := (Option.bind_some _ _).symm.trans H; rw [hy159]; with_reducible exact H2_) | (have H2_ := (Option.bind_some _ _).symm.trans H; with_reducible exact H2_) | with_reducible exact H | (rw [hy159]; exact H) | exact H
            have Ny159 := Aside0.mk hy159
            clear hy159
            have H' := Aside0.mk H
            clear H
            have p158 : 0 ≤ (x4_1 : Int) := of_decide_eq_true (by first | (with_reducible assumption) | assumption)
            have q158 : x4_1 < (l0.length : Int) := of_decide_eq_true (by first | (with_reducible assumption) | assumption)
            obtain ⟨ad158, A158_1, c158_1, e158, hx158_0, hx158_1, hl158_1, hi158_1⟩ := at_T43 (Kd.V_reads' HO_0.out).2.2 x4_1 p158 q158
            cases e158
            obtain ⟨ce158, hce158, hMe158, hcc158⟩ := Kd.V_get HO_0.out z43 x4_1 p158 (by first | exact q158 | exact of_decide_eq_true (by first | (with_reducible assumption) | assumption) | (have e_ := (Kd.V_reads' HO_0.out).1; omega))
            obtain ⟨ua158_1, uc158_1, rfl, ul158_1, ge158_1⟩ := k43_openF hMe158
            have hv158_1 := hcc158 1 _ rfl
            rw [add_field _ _ 1 (by omega)] at hv158_1
            replace hv158_1 := Option.some.inj (hv158_1.symm.trans hx158_1)
            injection hv158_1 with hva_ hvn_ hvc_
            rw [hva_] at ge158_1
            rw [hvc_] at ul158_1
            have HL158_1 := Aside0.mk (show Kd.V (Kd.int .u8) 5 _ w.heap.size _ _ ((rd_T43 l0 x4_1).f1) from Kd.V_mk ul158_1 ge158_1)
            clear hva_ hvn_ hvc_ ge158_1 ul158_1
            clear hcc158 hce158
            have HR158_1 := Aside0.mk hi158_1
            have HC158_1 := Aside0.mk hl158_1
            clear hi158_1 hl158_1
            replace p158 := eq_true p158
            replace q158 := eq_true q158
            go_wp2_with (first | ((with_reducible refine gate_builtin (b := .append) (xs := #[.tmp 11, .tmp 16]) rfl ?_); at_builtin; refine Kd.N_append k56 (w0 := w) w.heap.size rfl (.tmp 11) (.tmp 16) 25 56 (.agg #[(.int .i64 0), (.slice none 0 0)]) 32 rfl Try.underlying25 info56 rfl (by decide) (by omega) u3 x3_1 (⟨(rd_T43 l0 x4_1).f0, (rd_T43 l0 x4_1).f1⟩ : S56) [.int .i64 ((rd_T43 l0 x4_1).f0), .slice A158_1 ((rd_T43 l0 x4_1).f1).length c158_1] (fun k_ => (P0_ k_ ∨ w.heap.size ≤ k_)) (fun k_ => ((fun k_ => (P0_ k_ ∨ w.heap.size ≤ k_))) k_ ∧ some k_ ≠ (u3 : Value).ownBlock) rfl rfl ?aP (fun _ hk => hk) ?aF ?aO ?aB ?aS ?aL ?_; (case aP => exact (k56_mkF _ _ (⟨(rd_T43 l0 x4_1).f0, (rd_T43 l0 x4_1).f1⟩ : S56) (Kd.V_reads' (Kd.V_mono (ok' := (fun k_ => ((fun k_ => (P0_ k_ ∨ w.heap.size ≤ k_))) k_ ∧ some k_ ≠ (u3 : Value).ownBlock)) (HL158_1.out) (fun k_ hk => ⟨hk.1, hk.2⟩))).2.1 (Kd.V_F (Kd.V_mono (ok' := (fun k_ => ((fun k_ => (P0_ k_ ∨ w.heap.size ≤ k_))) k_ ∧ some k_ ≠ (u3 : Value).ownBlock)) (HL158_1.out) (fun k_ hk => ⟨hk.1, hk.2⟩))))); (case aB => exact (by repeat (first | (with_reducible first | exact HB.out | apply below_alloc | apply pw_below_drewN | apply below_drew1) | exact HB.out))); (case aF => exact (fun k_ hk => (.inr (Nat.le_trans (below_size (by repeat (first | (with_reducible first | exact HB.out | apply below_alloc | apply pw_below_drewN | apply below_drew1) | exact HB.out))) hk)))); (case aO => exact (by (with_reducible repeat (first | apply Kd.N_alloc | apply Kd.N_drewN | apply Kd.N_drew)); exact HO_3.out)); (case aS => exact (below_size (by repeat (first | (with_reducible first | exact HB.out | apply below_alloc | apply pw_below_drewN | apply below_drew1) | exact HB.out)))); (case aL => have := LMc4.out; omega); intro v160 w5 ho hb hg hat; rw [← Ny159.out] at ho; have n0_ := Aside0.mk (Kd.V_afterv (ok := (fun k_ => (P0_ k_ ∨ w.heap.size ≤ k_))) (by (with_reducible repeat (first | apply Kd.V_alloc | apply Kd.V_drewN | apply Kd.V_drew)); exact HO_0.out) hg hat); have n1_ := Aside0.mk (Kd.V_afterv (ok := (fun k_ => (P0_ k_ ∨ w.heap.size ≤ k_))) (by (with_reducible repeat (first | apply Kd.V_alloc | apply Kd.V_drewN | apply Kd.V_drew)); exact HL158_1.out) hg hat); have n2_ := Aside0.mk (hb); have n3_ := Aside0.mk (ho); clear HO_0; clear HL158_1; clear HB; clear HO_3; have HO_0 := n0_; have HL158_1 := n1_; have HB := n2_; have HO161 := n3_; clear n0_ n1_ n2_ n3_; clear ho hb hg hat))
            go_roundg k1
            case measure => have := HK1.out; omega
            case rel => exact ⟨(y159), (wrap64 (x4_1 + 1)), (by first | rfl | (simp; done) | (simp [*]; done)), H', ⟨by have := HK1.out; omega⟩, ⟨by (with_reducible repeat (first | apply Kd.V_alloc | apply Kd.V_drewN | apply Kd.V_drew)); exact HO_0.out⟩, ⟨by (with_reducible repeat (first | apply Kd.N_alloc | apply Kd.N_drewN | apply Kd.N_drew)); exact HO161.out⟩, ⟨by repeat (first | (with_reducible first | exact HB.out | apply below_alloc | apply pw_below_drewN | apply below_drew1) | exact HB.out)⟩⟩
          · rw [if_neg c4] at H
            exact absurd H (by simp)
        · rw [if_neg c3] at H
          exact absurd H (by simp)
      · rw [if_neg c2] at H
        have c2b0 : decide (x4_1 < (l0.length : Int)) = false := decide_eq_false c2
        clear c2
        obtain rfl := Option.some.inj H
        go_wp2
        go_ret
        exact ⟨_, by first | rfl | (simp [errW_none, errW_some] <;> rfl) | (simp [*, errW_none, errW_some] <;> rfl), by (with_reducible repeat (first | apply Kd.N_alloc | apply Kd.N_drewN | apply Kd.N_drew)); exact HO_3.out, by repeat (first | (with_reducible first | exact HB.out | apply below_alloc | apply pw_below_drewN | apply below_drew1) | exact HB.out)⟩

end Go.Proofs.Ytfoagppeddflnaa.PT07

-- WRITTEN BY mygen.py, a program of mine over the kit's print; Lean checks every row
import Derived.Test.YtopdnkihecomnaaPT340
import Derived.Test.YtopdnkihecomnaaPT347
import Derived.Test.YtopdnkihecomnaaPT3416
namespace Go.Proofs.Ytopdnkihecomnaa.PT34
open Go.RowKit Go.Proofs.YtopdnkihecomnaaW.PrintWords Go.Proofs.YtopdnkihecomnaaW.PrintLast Go.Proofs.YtopdnkihecomnaaW.PrintMore
attribute [local go_sem] max2_int min2_int max_two min_two max_three min_three max_four min_four   -- for this text's walks alone
set_option linter.unusedVariables false
set_option linter.unusedSimpArgs false

/-! ### waypointlaw34_HelloHandshake: function 7 -/
def waypointlaw34_HelloHandshake.l0 : Nat → List (S45) → Int → Int → Int → Int → Int → Int → Option (Bool)
  | 0, _, _, _, _, _, _, _ => none
  | k + 1, x0, x5, x8, x221000, x221001, x222000, x222001 => if x8 < (x0.length : Int) then (if 0 ≤ x8 then ((waypointlaw34_exchange.f k x221000 x221001 x222000 x222001 x5 ((rd_T45 x0 x8).f0) ((rd_T45 x0 x8).f1)).bind fun bt223 => (waypointlaw34_HelloHandshake.l0 k x0 x5 (wrap64 (x8 + 1)) bt223.1 bt223.2.1 bt223.2.2.1 bt223.2.2.2)) else (none)) else ((waypointlaw34_exchange.f k x221000 x221001 x222000 x222001 x5 false false).bind fun bt227 => ((waypointlaw34_exchange.f k bt227.1 bt227.2.1 bt227.2.2.1 bt227.2.2.2 x5 false false).bind fun bt231 => (if bt231.1 = 2 then (some (bt231.2.2.1 == 2)) else (some false))))
def waypointlaw34_HelloHandshake.f (k : Nat) (l0 : List (S45)) (a1 : Int) : Option (Bool) := (waypointlaw34_awake.f k).bind fun t219 => (if t219 = true then (if (l0.length : Int) > 40 then (some true) else (waypointlaw34_HelloHandshake.l0 k l0 (wrap64 (2 + (Int.tmod (wrap64 (a1)) 19))) 0 0 0 0 0)) else (some false))
theorem waypointlaw34_HelloHandshake.mono_l : ∀ k, (∀ y0 y1 y2 y3 y4 y5 y6, LeO (waypointlaw34_HelloHandshake.l0 k y0 y1 y2 y3 y4 y5 y6) (waypointlaw34_HelloHandshake.l0 (k + 1) y0 y1 y2 y3 y4 y5 y6))
  | 0 => fun _ _ _ _ _ _ _ r h => by simp [waypointlaw34_HelloHandshake.l0] at h
  | k + 1 => by
    have ih0 := waypointlaw34_HelloHandshake.mono_l k
    · intro y0 y1 y2 y3 y4 y5 y6
      unfold waypointlaw34_HelloHandshake.l0
      repeat' first
      | (with_reducible exact ih0 _ _ _ _ _ _ _)
      | (with_reducible exact waypointlaw34_awake.mono _)
      | (with_reducible exact waypointlaw34_exchange.mono _ _ _ _ _ _ _ _)
      | (with_reducible exact LeO.refl _)
      | (with_reducible exact LeO.none _)
      | (with_reducible refine LeO.ite ?_ ?_)
      | (with_reducible refine LeO.bind ?_ (fun _ => ?_))
      | exact ih0 _ _ _ _ _ _ _
      | exact waypointlaw34_awake.mono _
      | exact waypointlaw34_exchange.mono _ _ _ _ _ _ _ _
      | exact LeO.none _
      | refine LeO.ite ?_ ?_
      | refine LeO.bind ?_ (fun _ => ?_)
theorem waypointlaw34_HelloHandshake.mono : ∀ a0 a1 k, LeO (waypointlaw34_HelloHandshake.f k a0 a1) (waypointlaw34_HelloHandshake.f (k + 1) a0 a1) := by
  intro a0 a1 k
  have ih0 := waypointlaw34_HelloHandshake.mono_l k
  unfold waypointlaw34_HelloHandshake.f
  repeat' first
      | (with_reducible exact ih0 _ _ _ _ _ _ _)
      | (with_reducible exact waypointlaw34_awake.mono _)
      | (with_reducible exact waypointlaw34_exchange.mono _ _ _ _ _ _ _ _)
      | (with_reducible exact LeO.refl _)
      | (with_reducible exact LeO.none _)
      | (with_reducible refine LeO.ite ?_ ?_)
      | (with_reducible refine LeO.bind ?_ (fun _ => ?_))
      | exact ih0 _ _ _ _ _ _ _
      | exact waypointlaw34_awake.mono _
      | exact waypointlaw34_exchange.mono _ _ _ _ _ _ _ _
      | exact LeO.none _
      | refine LeO.ite ?_ ?_
      | refine LeO.bind ?_ (fun _ => ?_)
def waypointlaw34_HelloHandshake.T10 : Bool × List (List Nat × List Nat) := (true, [([], []), ([], []), ([], []), ([], []), ([], []), ([3, 4], [3, 4]), ([5], [5]), ([0, 1, 2, 6], [0, 1, 2, 6]), ([7], [7]), ([8], [8]), ([8], [8]), ([9, 7, 0, 1, 2, 3, 4, 5, 6, 7, 8, 9], [9]), ([10, 11, 0, 1, 2, 3, 4, 5, 6, 7, 8, 9, 10, 11], [10])])
def waypointlaw34_HelloHandshake.B10 : List Nat := [0, 0, 0, 0, 0, 24, 56, 127, 255, 511, 511, 1023, 4095]
theorem waypointlaw34_HelloHandshake.tab10 : rtab .any (opsOf Try.f7 10) = waypointlaw34_HelloHandshake.T10 := by kernel_rfl
theorem waypointlaw34_HelloHandshake.bits10 : waitsOk waypointlaw34_HelloHandshake.T10.2 waypointlaw34_HelloHandshake.B10 = true := by kernel_rfl
set_option maxHeartbeats 8000000 in
set_option maxRecDepth 100000 in
theorem waypointlaw34_HelloHandshake.calls (k : Nat) (A0 : Option Addr) (c0 : Nat) (l0 : List (S45)) (a1 : Int) (r : Bool) (w : World) (hr0 : Kd.C k45 w A0 l0.length l0) (hc0 : l0.length ≤ c0) (h : waypointlaw34_HelloHandshake.f k l0 a1 = some r) :
    Calls Try.prog 7 #[.slice A0 l0.length c0, .int .u8 a1] w fun e w' => e = .returned (.bool r) ∧ Below w.heap.size w w' := by
  have hu25 := Try.underlying25
  have hu45 := Try.underlying45
  have HR0 := Aside0.mk hr0
  have HC0 := Aside0.mk hc0
  clear hr0 hc0
  have HB := Aside0.mk (Below.refl w.heap.size w)
  have H : ((waypointlaw34_awake.f k).bind fun t219 => (if t219 = true then (if (l0.length : Int) > 40 then (some true) else (waypointlaw34_HelloHandshake.l0 k l0 (wrap64 (2 + (Int.tmod (wrap64 (a1)) 19))) 0 0 0 0 0)) else (some false))) = some r := h
  clear h
  replace H := Option.bind_eq_some_iff.mp H
  obtain ⟨t219, A30, H⟩ := H
  replace H : (if t219 = true then (if (l0.length : Int) > 40 then (some true) else (waypointlaw34_HelloHandshake.l0 k l0 (wrap64 (2 + (Int.tmod (wrap64 (a1)) 19))) 0 0 0 0 0)) else (some false)) = some r := H
  have A3 := Aside0.mk A30
  clear A30
  by_cases c4 : t219 = true
  · subst c4
    have H1 : (if (l0.length : Int) > 40 then (some true) else (waypointlaw34_HelloHandshake.l0 k l0 (wrap64 (2 + (Int.tmod (wrap64 (a1)) 19))) 0 0 0 0 0)) = some r := by rw [if_pos rfl] at H; exact H
    clear H
    have H := H1
    clear H1
    by_cases c5 : (l0.length : Int) > 40
    · rw [if_pos c5] at H
      have c5b0 : decide (40 < (l0.length : Int)) = true := decide_eq_true c5
      have c5b1 : decide (40 < l0.length) = true := decide_eq_true (by omega)
      clear c5
      obtain rfl := Option.some.inj H
      go_enter Try.func7, Try.ntmps7
      go_wp2_with (first | ((with_reducible refine gate_callee (f := 10) rfl ?_); refine goesL_ (some 9) rfl rfl Try.func10 (by kernel_rfl) rfl #[] rfl (by (try simp only [List.map_toArray, List.map_cons, List.map_nil]); first | done | rfl | (simp only [List.length_drop, List.length_take]; rfl)) ?_; (with_reducible refine (waypointlaw34_awake.calls k  true _ A3.out).mono ?_); rintro e w6 ⟨rfl, hb⟩; refine ⟨_, rfl, ?_⟩; have n0_ := Aside0.mk (below_step (by repeat (first | (with_reducible first | exact HB.out | apply below_alloc | apply pw_below_drewN | apply below_drew1) | exact HB.out)) hb); clear HB; have HB := n0_; clear n0_; (try clear hb); (try clear hb2); (try clear hk); (try clear hi)))
      go_ret
      exact ⟨by first | rfl | (simp [errW_none, errW_some] <;> rfl) | (simp [*, errW_none, errW_some] <;> rfl), by repeat (first | (with_reducible first | exact HB.out | apply below_alloc | apply pw_below_drewN | apply below_drew1) | exact HB.out)⟩
    · rw [if_neg c5] at H
      have c5b0 : decide (40 < (l0.length : Int)) = false := decide_eq_false c5
      have c5b1 : decide (40 < l0.length) = false := decide_eq_false (by omega)
      clear c5
      have H' := Aside0.mk H
      clear H
      go_enter Try.func7, Try.ntmps7
      go_wp2_with (first | ((with_reducible refine gate_callee (f := 10) rfl ?_); refine goesL_ (some 9) rfl rfl Try.func10 (by kernel_rfl) rfl #[] rfl (by (try simp only [List.map_toArray, List.map_cons, List.map_nil]); first | done | rfl | (simp only [List.length_drop, List.length_take]; rfl)) ?_; (with_reducible refine (waypointlaw34_awake.calls k  true _ A3.out).mono ?_); rintro e w7 ⟨rfl, hb⟩; refine ⟨_, rfl, ?_⟩; have n0_ := Aside0.mk (below_step (by repeat (first | (with_reducible first | exact HB.out | apply below_alloc | apply pw_below_drewN | apply below_drew1) | exact HB.out)) hb); clear HB; have HB := n0_; clear n0_; (try clear hb); (try clear hb2); (try clear hk); (try clear hi)) | ((with_reducible refine gate_dst (N := 6) rfl ?_); refine box_event ?hg (N := 6) ?hd (cs := #[.int .i64 0, .int .i64 0]) (t := 25) ?hr ?_; (case hd => rfl); (case hg => rfl); (case hr => first | (go_simp; done) | (go_simp; rfl)); intro gb220 hg w8 hbox hb; have n0_ := Aside0.mk (below_step (by repeat (first | (with_reducible first | exact HB.out | apply below_alloc | apply pw_below_drewN | apply below_drew1) | exact HB.out)) hb); have n1_ := Aside0.mk (hbox); have n2_ := Aside0.mk ((by rw [hg]; exact (below_size (by repeat (first | (with_reducible first | exact HB.out | apply below_alloc | apply pw_below_drewN | apply below_drew1) | exact HB.out))) : w.heap.size ≤ gb220)); have n3_ := Aside0.mk ((by rw [hg]; exact (below_size (by repeat (first | (with_reducible first | exact HB.out | apply below_alloc | apply pw_below_drewN | apply below_drew1) | exact HB.out))) : w.heap.size ≤ gb220)); clear HB; have HB := n0_; have BK220 := n1_; have GW220 := n2_; have GE220 := n3_; clear n0_ n1_ n2_ n3_; clear hb hbox hg) | ((with_reducible refine gate_dst (N := 7) rfl ?_); refine box_event ?hg (N := 7) ?hd (cs := #[.int .i64 0, .int .i64 0]) (t := 25) ?hr ?_; (case hd => rfl); (case hg => rfl); (case hr => first | (go_simp; done) | (go_simp; rfl)); intro gb221 hg w9 hbox hb; have n0_ := Aside0.mk (blk_below (g := gb220) (o := .cells #[.int .i64 0, .int .i64 0] 25 (0, 0)) (by (with_reducible repeat (first | refine blk_drewN ?_ _ | refine blk_drew ?_ | refine blk_alloc ?_ _)); exact BK220.out) hb); have n1_ := Aside0.mk (below_step (by repeat (first | (with_reducible first | exact HB.out | apply below_alloc | apply pw_below_drewN | apply below_drew1 | refine below_set ?_ GE220.out) | exact HB.out)) hb); have n2_ := Aside0.mk (hbox); have n3_ := Aside0.mk ((by rw [hg]; exact (below_size (by repeat (first | (with_reducible first | exact HB.out | apply below_alloc | apply pw_below_drewN | apply below_drew1 | refine below_set ?_ GE220.out) | exact HB.out))) : w.heap.size ≤ gb221)); have n4_ := Aside0.mk ((by rw [hg]; exact (below_size (by repeat (first | (with_reducible first | exact HB.out | apply below_alloc | apply pw_below_drewN | apply below_drew1 | refine below_set ?_ GE220.out) | exact HB.out))) : w.heap.size ≤ gb221)); have n5_ := Aside0.mk ((by rw [hg]; exact Nat.ne_of_lt (blk_lt (g := gb220) (o := .cells #[.int .i64 0, .int .i64 0] 25 (0, 0)) (by (with_reducible repeat (first | refine blk_drewN ?_ _ | refine blk_drew ?_ | refine blk_alloc ?_ _)); exact BK220.out)) : gb220 ≠ gb221)); have n6_ := Aside0.mk ((by rw [hg]; exact Nat.ne_of_gt (blk_lt (g := gb220) (o := .cells #[.int .i64 0, .int .i64 0] 25 (0, 0)) (by (with_reducible repeat (first | refine blk_drewN ?_ _ | refine blk_drew ?_ | refine blk_alloc ?_ _)); exact BK220.out)) : gb221 ≠ gb220)); clear BK220; clear HB; have BK220 := n0_; have HB := n1_; have BK221 := n2_; have GW221 := n3_; have GE221 := n4_; have NB220_221 := n5_; have NB221_220 := n6_; clear n0_ n1_ n2_ n3_ n4_ n5_ n6_; clear hb hbox hg))
      go_loopg [8] k (fun kq v8 w' => ∃ (x8_1 : Int) (x221000_1 : Int) (x221001_1 : Int) (x222000_1 : Int) (x222001_1 : Int), v8 = .int .i64 x8_1 ∧ Aside0 (waypointlaw34_HelloHandshake.l0 kq l0 (wrap64 (2 + (Int.tmod (wrap64 (a1)) 19))) x8_1 x221000_1 x221001_1 x222000_1 x222001_1 = some r) ∧ Aside0 (kq ≤ k) ∧ Aside0 (w'.heap[gb220]? = some (.cells #[.int .i64 x221000_1, .int .i64 x221001_1] 25 (0, 0))) ∧ Aside0 (w'.heap[gb221]? = some (.cells #[.int .i64 x222000_1, .int .i64 x222001_1] 25 (0, 0))) ∧ Aside0 (Below w.heap.size w w'))
      case atStart => exact ⟨(0), (0), (0), (0), (0), (by first | rfl | (simp; done) | (simp [*]; done)), H', ⟨Nat.le_refl _⟩, ⟨by (with_reducible repeat (first | refine blk_drewN ?_ _ | refine blk_drew ?_ | refine blk_alloc ?_ _)); exact BK220.out⟩, ⟨by (with_reducible repeat (first | refine blk_drewN ?_ _ | refine blk_drew ?_ | refine blk_alloc ?_ _)); exact BK221.out⟩, ⟨by repeat (first | (with_reducible first | exact HB.out | apply below_alloc | apply pw_below_drewN | apply below_drew1 | refine below_set ?_ GE220.out | refine below_set ?_ GE221.out) | exact HB.out)⟩⟩
      case round =>
        clear H'
        try clear c1
        try clear p2
        try clear c4
        try clear c5
        try clear c5b0
        try clear c5b1
        try clear p6
        try clear c7
        obtain ⟨x8_1, x221000_1, x221001_1, x222000_1, x222001_1, rfl, HA, HK1, BK220, BK221, HB⟩ := hrel
        cases gk with
        | zero => exact absurd HA.out (by simp [waypointlaw34_HelloHandshake.l0])
        | succ k1 =>
          have H := HA.out
          clear HA
          simp only [waypointlaw34_HelloHandshake.l0] at H
          by_cases c10 : x8_1 < (l0.length : Int)
          · rw [if_pos c10] at H
            have c10b0 : decide (x8_1 < (l0.length : Int)) = true := decide_eq_true c10
            clear c10
            by_cases c11 : 0 ≤ x8_1
            · rw [if_pos c11] at H
              have c11b0 : decide (0 ≤ x8_1) = true := decide_eq_true c11
              clear c11
              replace H := Option.bind_eq_some_iff.mp H
              obtain ⟨⟨t223, t224, t225, t226⟩, A120, H⟩ := H
              replace H : (waypointlaw34_HelloHandshake.l0 k1 l0 (wrap64 (2 + (Int.tmod (wrap64 (a1)) 19))) (wrap64 (x8_1 + 1)) t223 t224 t225 t226) = some r := H
              have A12 := Aside0.mk A120
              clear A120
              have H' := Aside0.mk H
              clear H
              try go_wp2
              have n0_ := Aside0.mk (blk_drew BK220.out)
              have n1_ := Aside0.mk (blk_drew BK221.out)
              have n2_ := Aside0.mk (below_drew1 HB.out)
              clear BK220
              clear BK221
              clear HB
              have BK220 := n0_
              have BK221 := n1_
              have HB := n2_
              clear n0_ n1_ n2_
              have p222 : 0 ≤ (x8_1 : Int) := of_decide_eq_true (by first | (with_reducible assumption) | assumption)
              have q222 : x8_1 < (l0.length : Int) := of_decide_eq_true (by first | (with_reducible assumption) | assumption)
              obtain ⟨ad222, e222, hx222_0, hx222_1⟩ := at_T45 HR0.out x8_1 p222 q222
              have hw222_1 := hx222_1
              have hw222_0 := hx222_0
              cases e222
              replace hx222_0 := (HB.out.cell (World.block_lt_of_cell? w _ hx222_0)).trans hx222_0
              replace hx222_1 := (HB.out.cell (World.block_lt_of_cell? w _ hx222_1)).trans hx222_1
              replace p222 := eq_true p222
              replace q222 := eq_true q222
              refine start_ (n := 13) (S := fun w' => w'.cell? ⟨gb220, 0, none⟩ = some (.int .i64 x221000_1) ∧ w'.cell? ⟨gb220, 1, none⟩ = some (.int .i64 x221001_1) ∧ w'.cell? ⟨gb221, 0, none⟩ = some (.int .i64 x222000_1) ∧ w'.cell? ⟨gb221, 1, none⟩ = some (.int .i64 x222001_1) ∧ w'.cell? (ad222.add ((x8_1).toNat * 2)) = some (.bool ((rd_T45 l0 x8_1).f0)) ∧ w'.cell? ⟨(ad222.add ((x8_1).toNat * 2)).block, (ad222.add ((x8_1).toNat * 2)).off + 1, none⟩ = some (.bool ((rd_T45 l0 x8_1).f1))) (ds := [11, 12]) #[false, false, false, false, false, false, false, false, false, false, false, false, false] (by kernel_rfl) rfl rfl ⟨(blk_cell BK220.out 0).trans rfl, (blk_cell BK220.out 1).trans rfl, (blk_cell BK221.out 0).trans rfl, (blk_cell BK221.out 1).trans rfl, ((HB.out.cell (World.block_lt_of_cell? w _ hw222_0)).trans hw222_0), ((HB.out.cell (World.block_lt_of_cell? w _ hw222_1)).trans hw222_1)⟩ (fun hHeld => ?_); refine with_tabW waypointlaw34_HelloHandshake.tab10 waypointlaw34_HelloHandshake.bits10 (fun HT_ HW_ => ?_)
              generalize wr.drew = w13 at BK220 BK221 HB hx222_0 hx222_1 hHeld ⊢
              refine pure_ (i := 2) (N := some 27) (v := ?_) (a' := ?_) #[false, false, true, false, false, false, false, false, false, false, false, false, false] rfl rfl (any_of HT_.out (by kernel_rfl)) (fun _ _ _ h => h) (Or.inl ⟨by rfl, ?_⟩) ?_ ?_
              rotate_left
              · intro w'
                go_simp
                with_reducible rfl
              rotate_left
              · simp only [Act.put, List.setIfInBounds_toArray, List.set_cons_zero, List.set_cons_succ, i64_w, i32_w]
                rfl
              refine pure_ (i := 3) (N := some 28) (v := ?_) (a' := ?_) #[false, false, true, true, false, false, false, false, false, false, false, false, false] rfl rfl (any_of HT_.out (by kernel_rfl)) (fun _ _ _ h => h) (Or.inl ⟨by rfl, ?_⟩) ?_ ?_
              rotate_left
              · intro w'
                go_simp
                with_reducible rfl
              rotate_left
              · simp only [Act.put, List.setIfInBounds_toArray, List.set_cons_zero, List.set_cons_succ, i64_w, i32_w]
                rfl
              refine pure_ (i := 4) (N := some 29) (v := ?_) (a' := ?_) #[false, false, true, true, true, false, false, false, false, false, false, false, false] rfl rfl (any_of HT_.out (by kernel_rfl)) (fun _ _ _ h => h) (Or.inl ⟨by rfl, ?_⟩) ?_ ?_
              rotate_left
              · intro w'
                go_simp
                with_reducible rfl
              rotate_left
              · simp only [Act.put, List.setIfInBounds_toArray, List.set_cons_zero, List.set_cons_succ, i64_w, i32_w]
                rfl
              refine pure_ (i := 5) (N := some 30) (v := ?_) (a' := ?_) #[false, false, true, true, true, true, false, false, false, false, false, false, false] rfl rfl (any_of HT_.out (by kernel_rfl)) (fun _ _ _ h => h) (Or.inl ⟨by rfl, ?_⟩) ?_ ?_
              rotate_left
              · intro w'
                go_simp
                with_reducible rfl
              rotate_left
              · simp only [Act.put, List.setIfInBounds_toArray, List.set_cons_zero, List.set_cons_succ, i64_w, i32_w]
                rfl
              refine take_ (i := 0) (N := some 25) (v := ?_) (a' := ?_) #[true, false, true, true, true, true, false, false, false, false, false, false, false] rfl rfl (take_ofW HT_.out HW_.out (by kernel_rfl)) (fun _ _ _ h => h) (Or.inl ⟨by rfl, ?_⟩) hHeld ?_ ?_
              rotate_left
              · rintro w' ⟨s0, s1, s2, s3, s4, s5⟩
                go_simp
                with_reducible rfl
              rotate_left
              · simp only [Act.put, List.setIfInBounds_toArray, List.set_cons_zero, List.set_cons_succ, i64_w, i32_w]
                rfl
              refine take_ (i := 1) (N := some 26) (v := ?_) (a' := ?_) #[true, true, true, true, true, true, false, false, false, false, false, false, false] rfl rfl (take_ofW HT_.out HW_.out (by kernel_rfl)) (fun _ _ _ h => h) (Or.inl ⟨by rfl, ?_⟩) hHeld ?_ ?_
              rotate_left
              · rintro w' ⟨s0, s1, s2, s3, s4, s5⟩
                go_simp
                with_reducible rfl
              rotate_left
              · simp only [Act.put, List.setIfInBounds_toArray, List.set_cons_zero, List.set_cons_succ, i64_w, i32_w]
                rfl
              refine take_ (i := 6) (N := some 31) (v := ?_) (a' := ?_) #[true, true, true, true, true, true, true, false, false, false, false, false, false] rfl rfl (take_ofW HT_.out HW_.out (by kernel_rfl)) (fun _ _ _ h => h) (Or.inl ⟨by rfl, ?_⟩) hHeld ?_ ?_
              rotate_left
              · rintro w' ⟨s0, s1, s2, s3, s4, s5⟩
                go_simp
                with_reducible rfl
              rotate_left
              · simp only [Act.put, List.setIfInBounds_toArray, List.set_cons_zero, List.set_cons_succ, i64_w, i32_w]
                rfl
              refine one_ (i := 7) (N := some 32) #[true, true, true, true, true, true, true, true, false, false, false, false, false] rfl rfl (one_of HT_.out (by kernel_rfl)) (by decide) (fun K hK => ?_)
              refine goes_ Try.func18 (by kernel_rfl) rfl #[.agg #[.int .i64 x221000_1, .int .i64 x221001_1], .agg #[.int .i64 x222000_1, .int .i64 x222001_1], .int .i64 (wrap64 (2 + (Int.tmod (wrap64 (a1)) 19))), .agg #[.bool ((rd_T45 l0 x8_1).f0), .bool ((rd_T45 l0 x8_1).f1)]] (by rfl) rfl rfl (by (try simp only [List.map_toArray, List.map_cons, List.map_nil]); first | done | rfl | (simp only [List.length_drop, List.length_take]; rfl)) ?_
              with_reducible refine (waypointlaw34_exchange.calls k1 x221000_1 x221001_1 x222000_1 x222001_1 (wrap64 (2 + (Int.tmod (wrap64 (a1)) 19))) ((rd_T45 l0 x8_1).f0) ((rd_T45 l0 x8_1).f1) t223 t224 t225 t226 _ A12.out).mono ?_
              rintro e w14 ⟨rfl, hb⟩
              refine ⟨_, rfl, ?_⟩
              have n0_ := Aside0.mk (blk_below (g := gb220) (o := .cells #[.int .i64 x221000_1, .int .i64 x221001_1] 25 (0, 0)) (by (with_reducible repeat (first | refine blk_drewN ?_ _ | refine blk_drew ?_ | refine blk_alloc ?_ _)); exact BK220.out) hb)
              have n1_ := Aside0.mk (blk_below (g := gb221) (o := .cells #[.int .i64 x222000_1, .int .i64 x222001_1] 25 (0, 0)) (by (with_reducible repeat (first | refine blk_drewN ?_ _ | refine blk_drew ?_ | refine blk_alloc ?_ _)); exact BK221.out) hb)
              have n2_ := Aside0.mk (below_step (by repeat (first | (with_reducible first | exact HB.out | apply below_alloc | apply pw_below_drewN | apply below_drew1 | refine below_set ?_ GE220.out | refine below_set ?_ GE221.out) | exact HB.out)) hb)
              clear BK220
              clear BK221
              clear HB
              have BK220 := n0_
              have BK221 := n1_
              have HB := n2_
              clear n0_ n1_ n2_
              (try clear hb)
              (try clear hb2)
              (try clear hk)
              (try clear hi)
              refine hK.out _ _ ⟨(blk_cell BK220.out 0).trans rfl, (blk_cell BK220.out 1).trans rfl, (blk_cell BK221.out 0).trans rfl, (blk_cell BK221.out 1).trans rfl, ((HB.out.cell (World.block_lt_of_cell? w _ hw222_0)).trans hw222_0), ((HB.out.cell (World.block_lt_of_cell? w _ hw222_1)).trans hw222_1)⟩ (fun hHeld => ?_)
              clear hK K
              refine norm_ (a' := ?_) ?_ ?_
              rotate_left
              · show Act.put _ (some 32) _ = _
                simp only [Act.put, List.setIfInBounds_toArray, List.set_cons_zero, List.set_cons_succ, i64_w, i32_w]
                rfl
              refine pure_ (i := 8) (N := some 24) (v := ?_) (a' := ?_) #[true, true, true, true, true, true, true, true, true, false, false, false, false] rfl rfl (any_of HT_.out (by kernel_rfl)) (fun _ _ _ h => h) (Or.inl ⟨by rfl, ?_⟩) ?_ ?_
              rotate_left
              · intro w'
                go_simp
                with_reducible rfl
              rotate_left
              · simp only [Act.put, List.setIfInBounds_toArray, List.set_cons_zero, List.set_cons_succ, i64_w, i32_w]
                rfl
              refine pure_ (i := 9) (N := some 33) (v := ?_) (a' := ?_) #[true, true, true, true, true, true, true, true, true, true, false, false, false] rfl rfl (any_of HT_.out (by kernel_rfl)) (fun _ _ _ h => h) (Or.inl ⟨by rfl, ?_⟩) ?_ ?_
              rotate_left
              · intro w'
                go_simp
                with_reducible rfl
              rotate_left
              · simp only [Act.put, List.setIfInBounds_toArray, List.set_cons_zero, List.set_cons_succ, i64_w, i32_w]
                rfl
              refine pure_ (i := 10) (N := some 34) (v := ?_) (a' := ?_) #[true, true, true, true, true, true, true, true, true, true, true, false, false] rfl rfl (any_of HT_.out (by kernel_rfl)) (fun _ _ _ h => h) (Or.inl ⟨by rfl, ?_⟩) ?_ ?_
              rotate_left
              · intro w'
                go_simp
                with_reducible rfl
              rotate_left
              · simp only [Act.put, List.setIfInBounds_toArray, List.set_cons_zero, List.set_cons_succ, i64_w, i32_w]
                rfl
              refine last_ (i := 11) (N := none) #[true, true, true, true, true, true, true, true, true, true, true, true, false] rfl rfl (one_of HT_.out (by kernel_rfl)) (by decide) (fun K hK => ?_)
              have hs15 : w14.cell? ⟨gb220, 0, none⟩ = some (.int .i64 x221000_1) := (blk_cell BK220.out 0).trans rfl
              have hfs15 := blk_frozen BK220.out 0
              have hns15_1 := NB221_220.out
              have hms15_1 := NB220_221.out
              have hs16 : w14.cell? ⟨gb220, 1, none⟩ = some (.int .i64 x221001_1) := (blk_cell BK220.out 1).trans rfl
              have hfs16 := blk_frozen BK220.out 1
              have hns16_1 := NB221_220.out
              have hms16_1 := NB220_221.out
              refine skip_ (w1 := ?_) (by rfl) rfl ?_ ?_
              rotate_left
              · go_simp
                rfl
              refine hK.out _ _ ?_
              clear hK K
              refine last_ (i := 12) (N := none) #[true, true, true, true, true, true, true, true, true, true, true, true, true] rfl rfl (one_of HT_.out (by kernel_rfl)) (by decide) (fun K hK => ?_)
              have hs17 : w14.cell? ⟨gb221, 0, none⟩ = some (.int .i64 x222000_1) := (blk_cell BK221.out 0).trans rfl
              have hfs17 := blk_frozen BK221.out 0
              have hns17_0 := NB220_221.out
              have hms17_0 := NB221_220.out
              have hs18 : w14.cell? ⟨gb221, 1, none⟩ = some (.int .i64 x222001_1) := (blk_cell BK221.out 1).trans rfl
              have hfs18 := blk_frozen BK221.out 1
              have hns18_0 := NB220_221.out
              have hms18_0 := NB221_220.out
              refine skip_ (w1 := ?_) (by rfl) rfl ?_ ?_
              rotate_left
              · go_simp
                rfl
              refine hK.out _ _ ?_
              clear hK K
              refine done_ (done_of HT_.out (by kernel_rfl)) ?_
              try go_wp2
              go_roundg k1
              case measure => have := HK1.out; omega
              case rel => exact ⟨(wrap64 (x8_1 + 1)), (t223), (t224), (t225), (t226), (by first | rfl | (simp; done) | (simp [*]; done)), H', ⟨by have := HK1.out; omega⟩, ⟨by (with_reducible repeat (first | refine blk_drewN ?_ _ | refine blk_drew ?_ | refine blk_alloc ?_ _)); refine blk_far ?_ NB220_221.out _; (with_reducible repeat (first | refine blk_drewN ?_ _ | refine blk_drew ?_ | refine blk_alloc ?_ _)); refine blk_far ?_ NB220_221.out _; (with_reducible repeat (first | refine blk_drewN ?_ _ | refine blk_drew ?_ | refine blk_alloc ?_ _)); refine blk_put (cs := #[.int .i64 t223, .int .i64 x221001_1]) ?_ 1 _ rfl; (with_reducible repeat (first | refine blk_drewN ?_ _ | refine blk_drew ?_ | refine blk_alloc ?_ _)); refine blk_put (cs := #[.int .i64 x221000_1, .int .i64 x221001_1]) ?_ 0 _ rfl; (with_reducible repeat (first | refine blk_drewN ?_ _ | refine blk_drew ?_ | refine blk_alloc ?_ _)); exact BK220.out⟩, ⟨by (with_reducible repeat (first | refine blk_drewN ?_ _ | refine blk_drew ?_ | refine blk_alloc ?_ _)); refine blk_put (cs := #[.int .i64 t225, .int .i64 x222001_1]) ?_ 1 _ rfl; (with_reducible repeat (first | refine blk_drewN ?_ _ | refine blk_drew ?_ | refine blk_alloc ?_ _)); refine blk_put (cs := #[.int .i64 x222000_1, .int .i64 x222001_1]) ?_ 0 _ rfl; (with_reducible repeat (first | refine blk_drewN ?_ _ | refine blk_drew ?_ | refine blk_alloc ?_ _)); refine blk_far ?_ NB221_220.out _; (with_reducible repeat (first | refine blk_drewN ?_ _ | refine blk_drew ?_ | refine blk_alloc ?_ _)); refine blk_far ?_ NB221_220.out _; (with_reducible repeat (first | refine blk_drewN ?_ _ | refine blk_drew ?_ | refine blk_alloc ?_ _)); exact BK221.out⟩, ⟨by repeat (first | (with_reducible first | exact HB.out | apply below_alloc | apply pw_below_drewN | apply below_drew1 | refine below_set ?_ GE220.out | refine below_set ?_ GE221.out) | exact HB.out)⟩⟩
            · rw [if_neg c11] at H
              exact absurd H (by simp)
          · rw [if_neg c10] at H
            have c10b0 : decide (x8_1 < (l0.length : Int)) = false := decide_eq_false c10
            clear c10
            replace H := Option.bind_eq_some_iff.mp H
            obtain ⟨⟨t227, t228, t229, t230⟩, A190, H⟩ := H
            replace H : ((waypointlaw34_exchange.f k1 t227 t228 t229 t230 (wrap64 (2 + (Int.tmod (wrap64 (a1)) 19))) false false).bind fun bt231 => (if bt231.1 = 2 then (some (bt231.2.2.1 == 2)) else (some false))) = some r := H
            have A19 := Aside0.mk A190
            clear A190
            replace H := Option.bind_eq_some_iff.mp H
            obtain ⟨⟨t231, t232, t233, t234⟩, A200, H⟩ := H
            replace H : (if t231 = 2 then (some (t233 == 2)) else (some false)) = some r := H
            have A20 := Aside0.mk A200
            clear A200
            by_cases c21 : t231 = 2
            · rw [if_pos c21] at H
              have c21b0 : (t231 == 2) = true := beq_iff_eq.mpr c21
              have c21b1 : (t231 != 2) = false := bne_eq_false_iff_eq.mpr c21
              clear c21
              obtain rfl := Option.some.inj H
              have hnb22 := NB220_221.out
              have hnc22 := NB221_220.out
              have hcz23_0 : wr.cell? ⟨gb220, 0, none⟩ = some (.int .i64 x221000_1) := (blk_cell BK220.out 0).trans rfl
              have hcz23_1 : wr.cell? ⟨gb220, 1, none⟩ = some (.int .i64 x221001_1) := (blk_cell BK220.out 1).trans rfl
              have hfz23_0 := blk_frozen BK220.out 0
              have hfz23_1 := blk_frozen BK220.out 1
              have hcz24_0 : wr.cell? ⟨gb221, 0, none⟩ = some (.int .i64 x222000_1) := (blk_cell BK221.out 0).trans rfl
              have hcz24_1 : wr.cell? ⟨gb221, 1, none⟩ = some (.int .i64 x222001_1) := (blk_cell BK221.out 1).trans rfl
              have hfz24_0 := blk_frozen BK221.out 0
              have hfz24_1 := blk_frozen BK221.out 1
              go_wp2_with (first | ((with_reducible refine gate_callee (f := 18) rfl ?_); refine goesL_ (some 40) rfl rfl Try.func18 (by kernel_rfl) rfl #[.agg #[.int .i64 x221000_1, .int .i64 x221001_1], .agg #[.int .i64 x222000_1, .int .i64 x222001_1], .int .i64 (wrap64 (2 + (Int.tmod (wrap64 (a1)) 19))), .agg #[.bool false, .bool false]] rfl (by (try simp only [List.map_toArray, List.map_cons, List.map_nil]); first | done | rfl | (simp only [List.length_drop, List.length_take]; rfl)) ?_; (with_reducible refine (waypointlaw34_exchange.calls k1 x221000_1 x221001_1 x222000_1 x222001_1 (wrap64 (2 + (Int.tmod (wrap64 (a1)) 19))) false false t227 t228 t229 t230 _ A19.out).mono ?_); rintro e w25 ⟨rfl, hb⟩; refine ⟨_, rfl, ?_⟩; have n0_ := Aside0.mk (blk_below (g := gb220) (o := .cells #[.int .i64 x221000_1, .int .i64 x221001_1] 25 (0, 0)) (by (with_reducible repeat (first | refine blk_drewN ?_ _ | refine blk_drew ?_ | refine blk_alloc ?_ _)); exact BK220.out) hb); have n1_ := Aside0.mk (blk_below (g := gb221) (o := .cells #[.int .i64 x222000_1, .int .i64 x222001_1] 25 (0, 0)) (by (with_reducible repeat (first | refine blk_drewN ?_ _ | refine blk_drew ?_ | refine blk_alloc ?_ _)); exact BK221.out) hb); have n2_ := Aside0.mk (below_step (by repeat (first | (with_reducible first | exact HB.out | apply below_alloc | apply pw_below_drewN | apply below_drew1 | refine below_set ?_ GE220.out | refine below_set ?_ GE221.out) | exact HB.out)) hb); clear BK220; clear BK221; clear HB; have BK220 := n0_; have BK221 := n1_; have HB := n2_; clear n0_ n1_ n2_; (try clear hb); (try clear hb2); (try clear hk); (try clear hi); have hcz26_0 : w25.cell? ⟨gb220, 0, none⟩ = some (.int .i64 x221000_1) := (blk_cell BK220.out 0).trans rfl; have hcz26_1 : w25.cell? ⟨gb220, 1, none⟩ = some (.int .i64 x221001_1) := (blk_cell BK220.out 1).trans rfl; have hfz26_0 := blk_frozen BK220.out 0; have hfz26_1 := blk_frozen BK220.out 1; have hcz27_0 : w25.cell? ⟨gb221, 0, none⟩ = some (.int .i64 x222000_1) := (blk_cell BK221.out 0).trans rfl; have hcz27_1 : w25.cell? ⟨gb221, 1, none⟩ = some (.int .i64 x222001_1) := (blk_cell BK221.out 1).trans rfl; have hfz27_0 := blk_frozen BK221.out 0; have hfz27_1 := blk_frozen BK221.out 1) | ((with_reducible refine gate_callee (f := 18) rfl ?_); refine goesL_ (some 48) rfl rfl Try.func18 (by kernel_rfl) rfl #[.agg #[.int .i64 t227, .int .i64 t228], .agg #[.int .i64 t229, .int .i64 t230], .int .i64 (wrap64 (2 + (Int.tmod (wrap64 (a1)) 19))), .agg #[.bool false, .bool false]] rfl (by (try simp only [List.map_toArray, List.map_cons, List.map_nil]); first | done | rfl | (simp only [List.length_drop, List.length_take]; rfl)) ?_; (with_reducible refine (waypointlaw34_exchange.calls k1 t227 t228 t229 t230 (wrap64 (2 + (Int.tmod (wrap64 (a1)) 19))) false false t231 t232 t233 t234 _ A20.out).mono ?_); rintro e w28 ⟨rfl, hb⟩; refine ⟨_, rfl, ?_⟩; have n0_ := Aside0.mk (blk_below (g := gb220) (o := .cells #[.int .i64 t227, .int .i64 t228] 25 (0, 0)) (by (with_reducible repeat (first | refine blk_drewN ?_ _ | refine blk_drew ?_ | refine blk_alloc ?_ _)); refine blk_far ?_ NB220_221.out _; (with_reducible repeat (first | refine blk_drewN ?_ _ | refine blk_drew ?_ | refine blk_alloc ?_ _)); refine blk_far ?_ NB220_221.out _; (with_reducible repeat (first | refine blk_drewN ?_ _ | refine blk_drew ?_ | refine blk_alloc ?_ _)); refine blk_put (cs := #[.int .i64 t227, .int .i64 x221001_1]) ?_ 1 _ rfl; (with_reducible repeat (first | refine blk_drewN ?_ _ | refine blk_drew ?_ | refine blk_alloc ?_ _)); refine blk_put (cs := #[.int .i64 x221000_1, .int .i64 x221001_1]) ?_ 0 _ rfl; (with_reducible repeat (first | refine blk_drewN ?_ _ | refine blk_drew ?_ | refine blk_alloc ?_ _)); exact BK220.out) hb); have n1_ := Aside0.mk (blk_below (g := gb221) (o := .cells #[.int .i64 t229, .int .i64 t230] 25 (0, 0)) (by (with_reducible repeat (first | refine blk_drewN ?_ _ | refine blk_drew ?_ | refine blk_alloc ?_ _)); refine blk_put (cs := #[.int .i64 t229, .int .i64 x222001_1]) ?_ 1 _ rfl; (with_reducible repeat (first | refine blk_drewN ?_ _ | refine blk_drew ?_ | refine blk_alloc ?_ _)); refine blk_put (cs := #[.int .i64 x222000_1, .int .i64 x222001_1]) ?_ 0 _ rfl; (with_reducible repeat (first | refine blk_drewN ?_ _ | refine blk_drew ?_ | refine blk_alloc ?_ _)); refine blk_far ?_ NB221_220.out _; (with_reducible repeat (first | refine blk_drewN ?_ _ | refine blk_drew ?_ | refine blk_alloc ?_ _)); refine blk_far ?_ NB221_220.out _; (with_reducible repeat (first | refine blk_drewN ?_ _ | refine blk_drew ?_ | refine blk_alloc ?_ _)); exact BK221.out) hb); have n2_ := Aside0.mk (below_step (by repeat (first | (with_reducible first | exact HB.out | apply below_alloc | apply pw_below_drewN | apply below_drew1 | refine below_set ?_ GE220.out | refine below_set ?_ GE221.out) | exact HB.out)) hb); clear BK220; clear BK221; clear HB; have BK220 := n0_; have BK221 := n1_; have HB := n2_; clear n0_ n1_ n2_; (try clear hb); (try clear hb2); (try clear hk); (try clear hi); have hcz29_0 : w28.cell? ⟨gb220, 0, none⟩ = some (.int .i64 t227) := (blk_cell BK220.out 0).trans rfl; have hcz29_1 : w28.cell? ⟨gb220, 1, none⟩ = some (.int .i64 t228) := (blk_cell BK220.out 1).trans rfl; have hfz29_0 := blk_frozen BK220.out 0; have hfz29_1 := blk_frozen BK220.out 1; have hcz30_0 : w28.cell? ⟨gb221, 0, none⟩ = some (.int .i64 t229) := (blk_cell BK221.out 0).trans rfl; have hcz30_1 : w28.cell? ⟨gb221, 1, none⟩ = some (.int .i64 t230) := (blk_cell BK221.out 1).trans rfl; have hfz30_0 := blk_frozen BK221.out 0; have hfz30_1 := blk_frozen BK221.out 1))
              go_ret
              exact ⟨by first | rfl | (simp [errW_none, errW_some] <;> rfl) | (simp [*, errW_none, errW_some] <;> rfl), by repeat (first | (with_reducible first | exact HB.out | apply below_alloc | apply pw_below_drewN | apply below_drew1 | refine below_set ?_ GE220.out | refine below_set ?_ GE221.out) | exact HB.out)⟩
            · rw [if_neg c21] at H
              have c21b0 : (t231 == 2) = false := beq_eq_false_iff_ne.mpr c21
              have c21b1 : (t231 != 2) = true := bne_iff_ne.mpr c21
              obtain rfl := Option.some.inj H
              have hnb31 := NB220_221.out
              have hnc31 := NB221_220.out
              have hcz32_0 : wr.cell? ⟨gb220, 0, none⟩ = some (.int .i64 x221000_1) := (blk_cell BK220.out 0).trans rfl
              have hcz32_1 : wr.cell? ⟨gb220, 1, none⟩ = some (.int .i64 x221001_1) := (blk_cell BK220.out 1).trans rfl
              have hfz32_0 := blk_frozen BK220.out 0
              have hfz32_1 := blk_frozen BK220.out 1
              have hcz33_0 : wr.cell? ⟨gb221, 0, none⟩ = some (.int .i64 x222000_1) := (blk_cell BK221.out 0).trans rfl
              have hcz33_1 : wr.cell? ⟨gb221, 1, none⟩ = some (.int .i64 x222001_1) := (blk_cell BK221.out 1).trans rfl
              have hfz33_0 := blk_frozen BK221.out 0
              have hfz33_1 := blk_frozen BK221.out 1
              go_wp2_with (first | ((with_reducible refine gate_callee (f := 18) rfl ?_); refine goesL_ (some 40) rfl rfl Try.func18 (by kernel_rfl) rfl #[.agg #[.int .i64 x221000_1, .int .i64 x221001_1], .agg #[.int .i64 x222000_1, .int .i64 x222001_1], .int .i64 (wrap64 (2 + (Int.tmod (wrap64 (a1)) 19))), .agg #[.bool false, .bool false]] rfl (by (try simp only [List.map_toArray, List.map_cons, List.map_nil]); first | done | rfl | (simp only [List.length_drop, List.length_take]; rfl)) ?_; (with_reducible refine (waypointlaw34_exchange.calls k1 x221000_1 x221001_1 x222000_1 x222001_1 (wrap64 (2 + (Int.tmod (wrap64 (a1)) 19))) false false t227 t228 t229 t230 _ A19.out).mono ?_); rintro e w34 ⟨rfl, hb⟩; refine ⟨_, rfl, ?_⟩; have n0_ := Aside0.mk (blk_below (g := gb220) (o := .cells #[.int .i64 x221000_1, .int .i64 x221001_1] 25 (0, 0)) (by (with_reducible repeat (first | refine blk_drewN ?_ _ | refine blk_drew ?_ | refine blk_alloc ?_ _)); exact BK220.out) hb); have n1_ := Aside0.mk (blk_below (g := gb221) (o := .cells #[.int .i64 x222000_1, .int .i64 x222001_1] 25 (0, 0)) (by (with_reducible repeat (first | refine blk_drewN ?_ _ | refine blk_drew ?_ | refine blk_alloc ?_ _)); exact BK221.out) hb); have n2_ := Aside0.mk (below_step (by repeat (first | (with_reducible first | exact HB.out | apply below_alloc | apply pw_below_drewN | apply below_drew1 | refine below_set ?_ GE220.out | refine below_set ?_ GE221.out) | exact HB.out)) hb); clear BK220; clear BK221; clear HB; have BK220 := n0_; have BK221 := n1_; have HB := n2_; clear n0_ n1_ n2_; (try clear hb); (try clear hb2); (try clear hk); (try clear hi); have hcz35_0 : w34.cell? ⟨gb220, 0, none⟩ = some (.int .i64 x221000_1) := (blk_cell BK220.out 0).trans rfl; have hcz35_1 : w34.cell? ⟨gb220, 1, none⟩ = some (.int .i64 x221001_1) := (blk_cell BK220.out 1).trans rfl; have hfz35_0 := blk_frozen BK220.out 0; have hfz35_1 := blk_frozen BK220.out 1; have hcz36_0 : w34.cell? ⟨gb221, 0, none⟩ = some (.int .i64 x222000_1) := (blk_cell BK221.out 0).trans rfl; have hcz36_1 : w34.cell? ⟨gb221, 1, none⟩ = some (.int .i64 x222001_1) := (blk_cell BK221.out 1).trans rfl; have hfz36_0 := blk_frozen BK221.out 0; have hfz36_1 := blk_frozen BK221.out 1) | ((with_reducible refine gate_callee (f := 18) rfl ?_); refine goesL_ (some 48) rfl rfl Try.func18 (by kernel_rfl) rfl #[.agg #[.int .i64 t227, .int .i64 t228], .agg #[.int .i64 t229, .int .i64 t230], .int .i64 (wrap64 (2 + (Int.tmod (wrap64 (a1)) 19))), .agg #[.bool false, .bool false]] rfl (by (try simp only [List.map_toArray, List.map_cons, List.map_nil]); first | done | rfl | (simp only [List.length_drop, List.length_take]; rfl)) ?_; (with_reducible refine (waypointlaw34_exchange.calls k1 t227 t228 t229 t230 (wrap64 (2 + (Int.tmod (wrap64 (a1)) 19))) false false t231 t232 t233 t234 _ A20.out).mono ?_); rintro e w37 ⟨rfl, hb⟩; refine ⟨_, rfl, ?_⟩; have n0_ := Aside0.mk (blk_below (g := gb220) (o := .cells #[.int .i64 t227, .int .i64 t228] 25 (0, 0)) (by (with_reducible repeat (first | refine blk_drewN ?_ _ | refine blk_drew ?_ | refine blk_alloc ?_ _)); refine blk_far ?_ NB220_221.out _; (with_reducible repeat (first | refine blk_drewN ?_ _ | refine blk_drew ?_ | refine blk_alloc ?_ _)); refine blk_far ?_ NB220_221.out _; (with_reducible repeat (first | refine blk_drewN ?_ _ | refine blk_drew ?_ | refine blk_alloc ?_ _)); refine blk_put (cs := #[.int .i64 t227, .int .i64 x221001_1]) ?_ 1 _ rfl; (with_reducible repeat (first | refine blk_drewN ?_ _ | refine blk_drew ?_ | refine blk_alloc ?_ _)); refine blk_put (cs := #[.int .i64 x221000_1, .int .i64 x221001_1]) ?_ 0 _ rfl; (with_reducible repeat (first | refine blk_drewN ?_ _ | refine blk_drew ?_ | refine blk_alloc ?_ _)); exact BK220.out) hb); have n1_ := Aside0.mk (blk_below (g := gb221) (o := .cells #[.int .i64 t229, .int .i64 t230] 25 (0, 0)) (by (with_reducible repeat (first | refine blk_drewN ?_ _ | refine blk_drew ?_ | refine blk_alloc ?_ _)); refine blk_put (cs := #[.int .i64 t229, .int .i64 x222001_1]) ?_ 1 _ rfl; (with_reducible repeat (first | refine blk_drewN ?_ _ | refine blk_drew ?_ | refine blk_alloc ?_ _)); refine blk_put (cs := #[.int .i64 x222000_1, .int .i64 x222001_1]) ?_ 0 _ rfl; (with_reducible repeat (first | refine blk_drewN ?_ _ | refine blk_drew ?_ | refine blk_alloc ?_ _)); refine blk_far ?_ NB221_220.out _; (with_reducible repeat (first | refine blk_drewN ?_ _ | refine blk_drew ?_ | refine blk_alloc ?_ _)); refine blk_far ?_ NB221_220.out _; (with_reducible repeat (first | refine blk_drewN ?_ _ | refine blk_drew ?_ | refine blk_alloc ?_ _)); exact BK221.out) hb); have n2_ := Aside0.mk (below_step (by repeat (first | (with_reducible first | exact HB.out | apply below_alloc | apply pw_below_drewN | apply below_drew1 | refine below_set ?_ GE220.out | refine below_set ?_ GE221.out) | exact HB.out)) hb); clear BK220; clear BK221; clear HB; have BK220 := n0_; have BK221 := n1_; have HB := n2_; clear n0_ n1_ n2_; (try clear hb); (try clear hb2); (try clear hk); (try clear hi); have hcz38_0 : w37.cell? ⟨gb220, 0, none⟩ = some (.int .i64 t227) := (blk_cell BK220.out 0).trans rfl; have hcz38_1 : w37.cell? ⟨gb220, 1, none⟩ = some (.int .i64 t228) := (blk_cell BK220.out 1).trans rfl; have hfz38_0 := blk_frozen BK220.out 0; have hfz38_1 := blk_frozen BK220.out 1; have hcz39_0 : w37.cell? ⟨gb221, 0, none⟩ = some (.int .i64 t229) := (blk_cell BK221.out 0).trans rfl; have hcz39_1 : w37.cell? ⟨gb221, 1, none⟩ = some (.int .i64 t230) := (blk_cell BK221.out 1).trans rfl; have hfz39_0 := blk_frozen BK221.out 0; have hfz39_1 := blk_frozen BK221.out 1))
              go_ret
              exact ⟨by first | rfl | (simp [errW_none, errW_some] <;> rfl) | (simp [*, errW_none, errW_some] <;> rfl), by repeat (first | (with_reducible first | exact HB.out | apply below_alloc | apply pw_below_drewN | apply below_drew1 | refine below_set ?_ GE220.out | refine below_set ?_ GE221.out) | exact HB.out)⟩
  · replace c4 := Bool.eq_false_iff.mpr c4
    subst c4
    have H1 : (some false) = some r := by rw [if_neg (show ¬ (false = true) by decide)] at H; exact H
    clear H
    have H := H1
    clear H1
    obtain rfl := Option.some.inj H
    go_enter Try.func7, Try.ntmps7
    go_wp2_with (first | ((with_reducible refine gate_callee (f := 10) rfl ?_); refine goesL_ (some 9) rfl rfl Try.func10 (by kernel_rfl) rfl #[] rfl (by (try simp only [List.map_toArray, List.map_cons, List.map_nil]); first | done | rfl | (simp only [List.length_drop, List.length_take]; rfl)) ?_; (with_reducible refine (waypointlaw34_awake.calls k  false _ A3.out).mono ?_); rintro e w40 ⟨rfl, hb⟩; refine ⟨_, rfl, ?_⟩; have n0_ := Aside0.mk (below_step (by repeat (first | (with_reducible first | exact HB.out | apply below_alloc | apply pw_below_drewN | apply below_drew1) | exact HB.out)) hb); clear HB; have HB := n0_; clear n0_; (try clear hb); (try clear hb2); (try clear hk); (try clear hi)))
    go_ret
    exact ⟨by first | rfl | (simp [errW_none, errW_some] <;> rfl) | (simp [*, errW_none, errW_some] <;> rfl), by repeat (first | (with_reducible first | exact HB.out | apply below_alloc | apply pw_below_drewN | apply below_drew1) | exact HB.out)⟩

end Go.Proofs.Ytopdnkihecomnaa.PT34

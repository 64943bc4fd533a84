-- WRITTEN BY mygen.py, a program of mine over the kit's print; Lean checks every row
import Derived.Test.YtopdnkihecomnaaPT340
import Derived.Test.YtopdnkihecomnaaPT347
import Derived.Test.YtopdnkihecomnaaPT3416
namespace Go.Proofs.Ytopdnkihecomnaa.PT34
open Go.RowKit Go.Proofs.YtopdnkihecomnaaW.PrintWords Go.Proofs.YtopdnkihecomnaaW.PrintLast Go.Proofs.YtopdnkihecomnaaW.PrintMore
attribute [local go_sem] max2_int min2_int max_two min_two max_three min_three max_four min_four   -- for this text's walks alone
set_option linter.unusedVariables false
set_option linter.unusedSimpArgs false

/-! ### waypointlaw34_HelloOneWay: function 8 -/
mutual
def waypointlaw34_HelloOneWay.l0 : Nat → List (S45) → Bool → Int → Int → Int → Int → Int → Int → Option (Bool)
  | 0, _, _, _, _, _, _, _, _ => none
  | k + 1, x0, x2, x7, x10, x237000, x237001, x238000, x238001 => if x10 < (x0.length : Int) then (if 0 ≤ x10 then ((waypointlaw34_exchange.f k x237000 x237001 x238000 x238001 x7 ((rd_T45 x0 x10).f0) ((rd_T45 x0 x10).f1)).bind fun bt239 => (waypointlaw34_HelloOneWay.l0 k x0 x2 x7 (wrap64 (x10 + 1)) bt239.1 bt239.2.1 bt239.2.2.1 bt239.2.2.2)) else (none)) else (waypointlaw34_HelloOneWay.l1 k x2 x7 0 x237000 x237001 x238000 x238001)
def waypointlaw34_HelloOneWay.l1 : Nat → Bool → Int → Int → Int → Int → Int → Int → Option (Bool)
  | 0, _, _, _, _, _, _, _ => none
  | k + 1, x2, x7, x11, x237000, x237001, x238000, x238001 => if x11 < (wrap64 (2 * x7)) then ((waypointlaw34_exchange.f k x237000 x237001 x238000 x238001 x7 x2 (!x2)).bind fun bt243 => (waypointlaw34_HelloOneWay.l1 k x2 x7 (wrap64 (x11 + 1)) bt243.1 bt243.2.1 bt243.2.2.1 bt243.2.2.2)) else (if x2 = true then (if x238000 = 0 then (some (x237000 == 1)) else (some false)) else (if x237000 = 0 then (some (x238000 == 1)) else (some false)))
end
def waypointlaw34_HelloOneWay.f (k : Nat) (l0 : List (S45)) (a1 : Int) (a2 : Bool) : Option (Bool) := (waypointlaw34_awake.f k).bind fun t235 => (if t235 = true then (if (l0.length : Int) > 40 then (some true) else (waypointlaw34_HelloOneWay.l0 k l0 a2 (wrap64 (2 + (Int.tmod (wrap64 (a1)) 19))) 0 0 0 0 0)) else (some false))
theorem waypointlaw34_HelloOneWay.mono_l : ∀ k, (∀ y0 y1 y2 y3 y4 y5 y6 y7, LeO (waypointlaw34_HelloOneWay.l0 k y0 y1 y2 y3 y4 y5 y6 y7) (waypointlaw34_HelloOneWay.l0 (k + 1) y0 y1 y2 y3 y4 y5 y6 y7)) ∧ (∀ y0 y1 y2 y3 y4 y5 y6, LeO (waypointlaw34_HelloOneWay.l1 k y0 y1 y2 y3 y4 y5 y6) (waypointlaw34_HelloOneWay.l1 (k + 1) y0 y1 y2 y3 y4 y5 y6))
  | 0 => ⟨fun _ _ _ _ _ _ _ _ r h => by simp [waypointlaw34_HelloOneWay.l0] at h, fun _ _ _ _ _ _ _ r h => by simp [waypointlaw34_HelloOneWay.l1] at h⟩
  | k + 1 => by
    obtain ⟨ih0, ih1⟩ := waypointlaw34_HelloOneWay.mono_l k
    refine ⟨?_, ?_⟩
    · intro y0 y1 y2 y3 y4 y5 y6 y7
      unfold waypointlaw34_HelloOneWay.l0
      repeat' first
      | (with_reducible exact ih0 _ _ _ _ _ _ _ _)
      | (with_reducible exact ih1 _ _ _ _ _ _ _)
      | (with_reducible exact waypointlaw34_awake.mono _)
      | (with_reducible exact waypointlaw34_exchange.mono _ _ _ _ _ _ _ _)
      | (with_reducible exact LeO.refl _)
      | (with_reducible exact LeO.none _)
      | (with_reducible refine LeO.ite ?_ ?_)
      | (with_reducible refine LeO.bind ?_ (fun _ => ?_))
      | exact ih0 _ _ _ _ _ _ _ _
      | exact ih1 _ _ _ _ _ _ _
      | exact waypointlaw34_awake.mono _
      | exact waypointlaw34_exchange.mono _ _ _ _ _ _ _ _
      | exact LeO.none _
      | refine LeO.ite ?_ ?_
      | refine LeO.bind ?_ (fun _ => ?_)
    · intro y0 y1 y2 y3 y4 y5 y6
      unfold waypointlaw34_HelloOneWay.l1
      repeat' first
      | (with_reducible exact ih0 _ _ _ _ _ _ _ _)
      | (with_reducible exact ih1 _ _ _ _ _ _ _)
      | (with_reducible exact waypointlaw34_awake.mono _)
      | (with_reducible exact waypointlaw34_exchange.mono _ _ _ _ _ _ _ _)
      | (with_reducible exact LeO.refl _)
      | (with_reducible exact LeO.none _)
      | (with_reducible refine LeO.ite ?_ ?_)
      | (with_reducible refine LeO.bind ?_ (fun _ => ?_))
      | exact ih0 _ _ _ _ _ _ _ _
      | exact ih1 _ _ _ _ _ _ _
      | exact waypointlaw34_awake.mono _
      | exact waypointlaw34_exchange.mono _ _ _ _ _ _ _ _
      | exact LeO.none _
      | refine LeO.ite ?_ ?_
      | refine LeO.bind ?_ (fun _ => ?_)
theorem waypointlaw34_HelloOneWay.mono : ∀ a0 a1 a2 k, LeO (waypointlaw34_HelloOneWay.f k a0 a1 a2) (waypointlaw34_HelloOneWay.f (k + 1) a0 a1 a2) := by
  intro a0 a1 a2 k
  obtain ⟨ih0, ih1⟩ := waypointlaw34_HelloOneWay.mono_l k
  unfold waypointlaw34_HelloOneWay.f
  repeat' first
      | (with_reducible exact ih0 _ _ _ _ _ _ _ _)
      | (with_reducible exact ih1 _ _ _ _ _ _ _)
      | (with_reducible exact waypointlaw34_awake.mono _)
      | (with_reducible exact waypointlaw34_exchange.mono _ _ _ _ _ _ _ _)
      | (with_reducible exact LeO.refl _)
      | (with_reducible exact LeO.none _)
      | (with_reducible refine LeO.ite ?_ ?_)
      | (with_reducible refine LeO.bind ?_ (fun _ => ?_))
      | exact ih0 _ _ _ _ _ _ _ _
      | exact ih1 _ _ _ _ _ _ _
      | exact waypointlaw34_awake.mono _
      | exact waypointlaw34_exchange.mono _ _ _ _ _ _ _ _
      | exact LeO.none _
      | refine LeO.ite ?_ ?_
      | refine LeO.bind ?_ (fun _ => ?_)
def waypointlaw34_HelloOneWay.T10 : Bool × List (List Nat × List Nat) := (true, [([], []), ([], []), ([], []), ([], []), ([], []), ([3, 4], [3, 4]), ([5], [5]), ([0, 1, 2, 6], [0, 1, 2, 6]), ([7], [7]), ([8], [8]), ([8], [8]), ([9, 7, 0, 1, 2, 3, 4, 5, 6, 7, 8, 9], [9]), ([10, 11, 0, 1, 2, 3, 4, 5, 6, 7, 8, 9, 10, 11], [10])])
def waypointlaw34_HelloOneWay.B10 : List Nat := [0, 0, 0, 0, 0, 24, 56, 127, 255, 511, 511, 1023, 4095]
theorem waypointlaw34_HelloOneWay.tab10 : rtab .any (opsOf Try.f8 10) = waypointlaw34_HelloOneWay.T10 := by kernel_rfl
theorem waypointlaw34_HelloOneWay.bits10 : waitsOk waypointlaw34_HelloOneWay.T10.2 waypointlaw34_HelloOneWay.B10 = true := by kernel_rfl
set_option maxHeartbeats 8000000 in
set_option maxRecDepth 100000 in
theorem waypointlaw34_HelloOneWay.calls (k : Nat) (A0 : Option Addr) (c0 : Nat) (l0 : List (S45)) (a1 : Int) (a2 : Bool) (r : Bool) (w : World) (hr0 : Kd.C k45 w A0 l0.length l0) (hc0 : l0.length ≤ c0) (h : waypointlaw34_HelloOneWay.f k l0 a1 a2 = some r) :
    Calls Try.prog 8 #[.slice A0 l0.length c0, .int .u8 a1, .bool a2] w fun e w' => e = .returned (.bool r) ∧ Below w.heap.size w w' := by
  have hu25 := Try.underlying25
  have hu45 := Try.underlying45
  have HR0 := Aside0.mk hr0
  have HC0 := Aside0.mk hc0
  clear hr0 hc0
  have HB := Aside0.mk (Below.refl w.heap.size w)
  have H : ((waypointlaw34_awake.f k).bind fun t235 => (if t235 = true then (if (l0.length : Int) > 40 then (some true) else (waypointlaw34_HelloOneWay.l0 k l0 a2 (wrap64 (2 + (Int.tmod (wrap64 (a1)) 19))) 0 0 0 0 0)) else (some false))) = some r := h
  clear h
  replace H := Option.bind_eq_some_iff.mp H
  obtain ⟨t235, A40, H⟩ := H
  replace H : (if t235 = true then (if (l0.length : Int) > 40 then (some true) else (waypointlaw34_HelloOneWay.l0 k l0 a2 (wrap64 (2 + (Int.tmod (wrap64 (a1)) 19))) 0 0 0 0 0)) else (some false)) = some r := H
  have A4 := Aside0.mk A40
  clear A40
  by_cases c5 : t235 = true
  · subst c5
    have H1 : (if (l0.length : Int) > 40 then (some true) else (waypointlaw34_HelloOneWay.l0 k l0 a2 (wrap64 (2 + (Int.tmod (wrap64 (a1)) 19))) 0 0 0 0 0)) = some r := by rw [if_pos rfl] at H; exact H
    clear H
    have H := H1
    clear H1
    by_cases c6 : (l0.length : Int) > 40
    · rw [if_pos c6] at H
      have c6b0 : decide (40 < (l0.length : Int)) = true := decide_eq_true c6
      have c6b1 : decide (40 < l0.length) = true := decide_eq_true (by omega)
      clear c6
      obtain rfl := Option.some.inj H
      go_enter Try.func8, Try.ntmps8
      go_wp2_with (first | ((with_reducible refine gate_callee (f := 10) rfl ?_); refine goesL_ (some 12) rfl rfl Try.func10 (by kernel_rfl) rfl #[] rfl (by (try simp only [List.map_toArray, List.map_cons, List.map_nil]); first | done | rfl | (simp only [List.length_drop, List.length_take]; rfl)) ?_; (with_reducible refine (waypointlaw34_awake.calls k  true _ A4.out).mono ?_); rintro e w7 ⟨rfl, hb⟩; refine ⟨_, rfl, ?_⟩; have n0_ := Aside0.mk (below_step (by repeat (first | (with_reducible first | exact HB.out | apply below_alloc | apply pw_below_drewN | apply below_drew1) | exact HB.out)) hb); clear HB; have HB := n0_; clear n0_; (try clear hb); (try clear hb2); (try clear hk); (try clear hi)))
      go_ret
      exact ⟨by first | rfl | (simp [errW_none, errW_some] <;> rfl) | (simp [*, errW_none, errW_some] <;> rfl), by repeat (first | (with_reducible first | exact HB.out | apply below_alloc | apply pw_below_drewN | apply below_drew1) | exact HB.out)⟩
    · rw [if_neg c6] at H
      have c6b0 : decide (40 < (l0.length : Int)) = false := decide_eq_false c6
      have c6b1 : decide (40 < l0.length) = false := decide_eq_false (by omega)
      clear c6
      have H' := Aside0.mk H
      clear H
      go_enter Try.func8, Try.ntmps8
      go_wp2_with (first | ((with_reducible refine gate_callee (f := 10) rfl ?_); refine goesL_ (some 12) rfl rfl Try.func10 (by kernel_rfl) rfl #[] rfl (by (try simp only [List.map_toArray, List.map_cons, List.map_nil]); first | done | rfl | (simp only [List.length_drop, List.length_take]; rfl)) ?_; (with_reducible refine (waypointlaw34_awake.calls k  true _ A4.out).mono ?_); rintro e w8 ⟨rfl, hb⟩; refine ⟨_, rfl, ?_⟩; have n0_ := Aside0.mk (below_step (by repeat (first | (with_reducible first | exact HB.out | apply below_alloc | apply pw_below_drewN | apply below_drew1) | exact HB.out)) hb); clear HB; have HB := n0_; clear n0_; (try clear hb); (try clear hb2); (try clear hk); (try clear hi)) | ((with_reducible refine gate_dst (N := 8) rfl ?_); refine box_event ?hg (N := 8) ?hd (cs := #[.int .i64 0, .int .i64 0]) (t := 25) ?hr ?_; (case hd => rfl); (case hg => rfl); (case hr => first | (go_simp; done) | (go_simp; rfl)); intro gb236 hg w9 hbox hb; have n0_ := Aside0.mk (below_step (by repeat (first | (with_reducible first | exact HB.out | apply below_alloc | apply pw_below_drewN | apply below_drew1) | exact HB.out)) hb); have n1_ := Aside0.mk (hbox); have n2_ := Aside0.mk ((by rw [hg]; exact (below_size (by repeat (first | (with_reducible first | exact HB.out | apply below_alloc | apply pw_below_drewN | apply below_drew1) | exact HB.out))) : w.heap.size ≤ gb236)); have n3_ := Aside0.mk ((by rw [hg]; exact (below_size (by repeat (first | (with_reducible first | exact HB.out | apply below_alloc | apply pw_below_drewN | apply below_drew1) | exact HB.out))) : w.heap.size ≤ gb236)); clear HB; have HB := n0_; have BK236 := n1_; have GW236 := n2_; have GE236 := n3_; clear n0_ n1_ n2_ n3_; clear hb hbox hg) | ((with_reducible refine gate_dst (N := 9) rfl ?_); refine box_event ?hg (N := 9) ?hd (cs := #[.int .i64 0, .int .i64 0]) (t := 25) ?hr ?_; (case hd => rfl); (case hg => rfl); (case hr => first | (go_simp; done) | (go_simp; rfl)); intro gb237 hg w10 hbox hb; have n0_ := Aside0.mk (blk_below (g := gb236) (o := .cells #[.int .i64 0, .int .i64 0] 25 (0, 0)) (by (with_reducible repeat (first | refine blk_drewN ?_ _ | refine blk_drew ?_ | refine blk_alloc ?_ _)); exact BK236.out) hb); have n1_ := Aside0.mk (below_step (by repeat (first | (with_reducible first | exact HB.out | apply below_alloc | apply pw_below_drewN | apply below_drew1 | refine below_set ?_ GE236.out) | exact HB.out)) hb); have n2_ := Aside0.mk (hbox); have n3_ := Aside0.mk ((by rw [hg]; exact (below_size (by repeat (first | (with_reducible first | exact HB.out | apply below_alloc | apply pw_below_drewN | apply below_drew1 | refine below_set ?_ GE236.out) | exact HB.out))) : w.heap.size ≤ gb237)); have n4_ := Aside0.mk ((by rw [hg]; exact (below_size (by repeat (first | (with_reducible first | exact HB.out | apply below_alloc | apply pw_below_drewN | apply below_drew1 | refine below_set ?_ GE236.out) | exact HB.out))) : w.heap.size ≤ gb237)); have n5_ := Aside0.mk ((by rw [hg]; exact Nat.ne_of_lt (blk_lt (g := gb236) (o := .cells #[.int .i64 0, .int .i64 0] 25 (0, 0)) (by (with_reducible repeat (first | refine blk_drewN ?_ _ | refine blk_drew ?_ | refine blk_alloc ?_ _)); exact BK236.out)) : gb236 ≠ gb237)); have n6_ := Aside0.mk ((by rw [hg]; exact Nat.ne_of_gt (blk_lt (g := gb236) (o := .cells #[.int .i64 0, .int .i64 0] 25 (0, 0)) (by (with_reducible repeat (first | refine blk_drewN ?_ _ | refine blk_drew ?_ | refine blk_alloc ?_ _)); exact BK236.out)) : gb237 ≠ gb236)); clear BK236; clear HB; have BK236 := n0_; have HB := n1_; have BK237 := n2_; have GW237 := n3_; have GE237 := n4_; have NB236_237 := n5_; have NB237_236 := n6_; clear n0_ n1_ n2_ n3_ n4_ n5_ n6_; clear hb hbox hg))
      go_loopg [10] k (fun kq v10 w' => ∃ (x10_1 : Int) (x237000_1 : Int) (x237001_1 : Int) (x238000_1 : Int) (x238001_1 : Int), v10 = .int .i64 x10_1 ∧ Aside0 (waypointlaw34_HelloOneWay.l0 kq l0 a2 (wrap64 (2 + (Int.tmod (wrap64 (a1)) 19))) x10_1 x237000_1 x237001_1 x238000_1 x238001_1 = some r) ∧ Aside0 (kq ≤ k) ∧ Aside0 (w'.heap[gb236]? = some (.cells #[.int .i64 x237000_1, .int .i64 x237001_1] 25 (0, 0))) ∧ Aside0 (w'.heap[gb237]? = some (.cells #[.int .i64 x238000_1, .int .i64 x238001_1] 25 (0, 0))) ∧ Aside0 (Below w.heap.size w w'))
      case atStart => exact ⟨(0), (0), (0), (0), (0), (by first | rfl | (simp; done) | (simp [*]; done)), H', ⟨Nat.le_refl _⟩, ⟨by (with_reducible repeat (first | refine blk_drewN ?_ _ | refine blk_drew ?_ | refine blk_alloc ?_ _)); exact BK236.out⟩, ⟨by (with_reducible repeat (first | refine blk_drewN ?_ _ | refine blk_drew ?_ | refine blk_alloc ?_ _)); exact BK237.out⟩, ⟨by repeat (first | (with_reducible first | exact HB.out | apply below_alloc | apply pw_below_drewN | apply below_drew1 | refine below_set ?_ GE236.out | refine below_set ?_ GE237.out) | exact HB.out)⟩⟩
      case round =>
        clear H'
        try clear c1
        try clear p2
        try clear c5
        try clear c6
        try clear c6b0
        try clear c6b1
        try clear p6
        try clear c8
        try clear c10
        obtain ⟨x10_1, x237000_1, x237001_1, x238000_1, x238001_1, rfl, HA, HK1, BK236, BK237, HB⟩ := hrel
        cases gk with
        | zero => exact absurd HA.out (by simp [waypointlaw34_HelloOneWay.l0])
        | succ k1 =>
          have H := HA.out
          clear HA
          simp only [waypointlaw34_HelloOneWay.l0] at H
          by_cases c11 : x10_1 < (l0.length : Int)
          · rw [if_pos c11] at H
            have c11b0 : decide (x10_1 < (l0.length : Int)) = true := decide_eq_true c11
            clear c11
            by_cases c12 : 0 ≤ x10_1
            · rw [if_pos c12] at H
              have c12b0 : decide (0 ≤ x10_1) = true := decide_eq_true c12
              clear c12
              replace H := Option.bind_eq_some_iff.mp H
              obtain ⟨⟨t239, t240, t241, t242⟩, A130, H⟩ := H
              replace H : (waypointlaw34_HelloOneWay.l0 k1 l0 a2 (wrap64 (2 + (Int.tmod (wrap64 (a1)) 19))) (wrap64 (x10_1 + 1)) t239 t240 t241 t242) = some r := H
              have A13 := Aside0.mk A130
              clear A130
              have H' := Aside0.mk H
              clear H
              try go_wp2
              have n0_ := Aside0.mk (blk_drew BK236.out)
              have n1_ := Aside0.mk (blk_drew BK237.out)
              have n2_ := Aside0.mk (below_drew1 HB.out)
              clear BK236
              clear BK237
              clear HB
              have BK236 := n0_
              have BK237 := n1_
              have HB := n2_
              clear n0_ n1_ n2_
              have p238 : 0 ≤ (x10_1 : Int) := of_decide_eq_true (by first | (with_reducible assumption) | assumption)
              have q238 : x10_1 < (l0.length : Int) := of_decide_eq_true (by first | (with_reducible assumption) | assumption)
              obtain ⟨ad238, e238, hx238_0, hx238_1⟩ := at_T45 HR0.out x10_1 p238 q238
              have hw238_1 := hx238_1
              have hw238_0 := hx238_0
              cases e238
              replace hx238_0 := (HB.out.cell (World.block_lt_of_cell? w _ hx238_0)).trans hx238_0
              replace hx238_1 := (HB.out.cell (World.block_lt_of_cell? w _ hx238_1)).trans hx238_1
              replace p238 := eq_true p238
              replace q238 := eq_true q238
              refine start_ (n := 13) (S := fun w' => w'.cell? ⟨gb236, 0, none⟩ = some (.int .i64 x237000_1) ∧ w'.cell? ⟨gb236, 1, none⟩ = some (.int .i64 x237001_1) ∧ w'.cell? ⟨gb237, 0, none⟩ = some (.int .i64 x238000_1) ∧ w'.cell? ⟨gb237, 1, none⟩ = some (.int .i64 x238001_1) ∧ w'.cell? (ad238.add ((x10_1).toNat * 2)) = some (.bool ((rd_T45 l0 x10_1).f0)) ∧ w'.cell? ⟨(ad238.add ((x10_1).toNat * 2)).block, (ad238.add ((x10_1).toNat * 2)).off + 1, none⟩ = some (.bool ((rd_T45 l0 x10_1).f1))) (ds := [11, 12]) #[false, false, false, false, false, false, false, false, false, false, false, false, false] (by kernel_rfl) rfl rfl ⟨(blk_cell BK236.out 0).trans rfl, (blk_cell BK236.out 1).trans rfl, (blk_cell BK237.out 0).trans rfl, (blk_cell BK237.out 1).trans rfl, ((HB.out.cell (World.block_lt_of_cell? w _ hw238_0)).trans hw238_0), ((HB.out.cell (World.block_lt_of_cell? w _ hw238_1)).trans hw238_1)⟩ (fun hHeld => ?_); refine with_tabW waypointlaw34_HelloOneWay.tab10 waypointlaw34_HelloOneWay.bits10 (fun HT_ HW_ => ?_)
              generalize wr.drew = w14 at BK236 BK237 HB hx238_0 hx238_1 hHeld ⊢
              refine pure_ (i := 2) (N := some 30) (v := ?_) (a' := ?_) #[false, false, true, false, false, false, false, false, false, false, false, false, false] rfl rfl (any_of HT_.out (by kernel_rfl)) (fun _ _ _ h => h) (Or.inl ⟨by rfl, ?_⟩) ?_ ?_
              rotate_left
              · intro w'
                go_simp
                with_reducible rfl
              rotate_left
              · simp only [Act.put, List.setIfInBounds_toArray, List.set_cons_zero, List.set_cons_succ, i64_w, i32_w]
                rfl
              refine pure_ (i := 3) (N := some 31) (v := ?_) (a' := ?_) #[false, false, true, true, false, false, false, false, false, false, false, false, false] rfl rfl (any_of HT_.out (by kernel_rfl)) (fun _ _ _ h => h) (Or.inl ⟨by rfl, ?_⟩) ?_ ?_
              rotate_left
              · intro w'
                go_simp
                with_reducible rfl
              rotate_left
              · simp only [Act.put, List.setIfInBounds_toArray, List.set_cons_zero, List.set_cons_succ, i64_w, i32_w]
                rfl
              refine pure_ (i := 4) (N := some 32) (v := ?_) (a' := ?_) #[false, false, true, true, true, false, false, false, false, false, false, false, false] rfl rfl (any_of HT_.out (by kernel_rfl)) (fun _ _ _ h => h) (Or.inl ⟨by rfl, ?_⟩) ?_ ?_
              rotate_left
              · intro w'
                go_simp
                with_reducible rfl
              rotate_left
              · simp only [Act.put, List.setIfInBounds_toArray, List.set_cons_zero, List.set_cons_succ, i64_w, i32_w]
                rfl
              refine pure_ (i := 5) (N := some 33) (v := ?_) (a' := ?_) #[false, false, true, true, true, true, false, false, false, false, false, false, false] rfl rfl (any_of HT_.out (by kernel_rfl)) (fun _ _ _ h => h) (Or.inl ⟨by rfl, ?_⟩) ?_ ?_
              rotate_left
              · intro w'
                go_simp
                with_reducible rfl
              rotate_left
              · simp only [Act.put, List.setIfInBounds_toArray, List.set_cons_zero, List.set_cons_succ, i64_w, i32_w]
                rfl
              refine take_ (i := 0) (N := some 28) (v := ?_) (a' := ?_) #[true, false, true, true, true, true, false, false, false, false, false, false, false] rfl rfl (take_ofW HT_.out HW_.out (by kernel_rfl)) (fun _ _ _ h => h) (Or.inl ⟨by rfl, ?_⟩) hHeld ?_ ?_
              rotate_left
              · rintro w' ⟨s0, s1, s2, s3, s4, s5⟩
                go_simp
                with_reducible rfl
              rotate_left
              · simp only [Act.put, List.setIfInBounds_toArray, List.set_cons_zero, List.set_cons_succ, i64_w, i32_w]
                rfl
              refine take_ (i := 1) (N := some 29) (v := ?_) (a' := ?_) #[true, true, true, true, true, true, false, false, false, false, false, false, false] rfl rfl (take_ofW HT_.out HW_.out (by kernel_rfl)) (fun _ _ _ h => h) (Or.inl ⟨by rfl, ?_⟩) hHeld ?_ ?_
              rotate_left
              · rintro w' ⟨s0, s1, s2, s3, s4, s5⟩
                go_simp
                with_reducible rfl
              rotate_left
              · simp only [Act.put, List.setIfInBounds_toArray, List.set_cons_zero, List.set_cons_succ, i64_w, i32_w]
                rfl
              refine take_ (i := 6) (N := some 34) (v := ?_) (a' := ?_) #[true, true, true, true, true, true, true, false, false, false, false, false, false] rfl rfl (take_ofW HT_.out HW_.out (by kernel_rfl)) (fun _ _ _ h => h) (Or.inl ⟨by rfl, ?_⟩) hHeld ?_ ?_
              rotate_left
              · rintro w' ⟨s0, s1, s2, s3, s4, s5⟩
                go_simp
                with_reducible rfl
              rotate_left
              · simp only [Act.put, List.setIfInBounds_toArray, List.set_cons_zero, List.set_cons_succ, i64_w, i32_w]
                rfl
              refine one_ (i := 7) (N := some 35) #[true, true, true, true, true, true, true, true, false, false, false, false, false] rfl rfl (one_of HT_.out (by kernel_rfl)) (by decide) (fun K hK => ?_)
              refine goes_ Try.func18 (by kernel_rfl) rfl #[.agg #[.int .i64 x237000_1, .int .i64 x237001_1], .agg #[.int .i64 x238000_1, .int .i64 x238001_1], .int .i64 (wrap64 (2 + (Int.tmod (wrap64 (a1)) 19))), .agg #[.bool ((rd_T45 l0 x10_1).f0), .bool ((rd_T45 l0 x10_1).f1)]] (by rfl) rfl rfl (by (try simp only [List.map_toArray, List.map_cons, List.map_nil]); first | done | rfl | (simp only [List.length_drop, List.length_take]; rfl)) ?_
              with_reducible refine (waypointlaw34_exchange.calls k1 x237000_1 x237001_1 x238000_1 x238001_1 (wrap64 (2 + (Int.tmod (wrap64 (a1)) 19))) ((rd_T45 l0 x10_1).f0) ((rd_T45 l0 x10_1).f1) t239 t240 t241 t242 _ A13.out).mono ?_
              rintro e w15 ⟨rfl, hb⟩
              refine ⟨_, rfl, ?_⟩
              have n0_ := Aside0.mk (blk_below (g := gb236) (o := .cells #[.int .i64 x237000_1, .int .i64 x237001_1] 25 (0, 0)) (by (with_reducible repeat (first | refine blk_drewN ?_ _ | refine blk_drew ?_ | refine blk_alloc ?_ _)); exact BK236.out) hb)
              have n1_ := Aside0.mk (blk_below (g := gb237) (o := .cells #[.int .i64 x238000_1, .int .i64 x238001_1] 25 (0, 0)) (by (with_reducible repeat (first | refine blk_drewN ?_ _ | refine blk_drew ?_ | refine blk_alloc ?_ _)); exact BK237.out) hb)
              have n2_ := Aside0.mk (below_step (by repeat (first | (with_reducible first | exact HB.out | apply below_alloc | apply pw_below_drewN | apply below_drew1 | refine below_set ?_ GE236.out | refine below_set ?_ GE237.out) | exact HB.out)) hb)
              clear BK236
              clear BK237
              clear HB
              have BK236 := n0_
              have BK237 := n1_
              have HB := n2_
              clear n0_ n1_ n2_
              (try clear hb)
              (try clear hb2)
              (try clear hk)
              (try clear hi)
              refine hK.out _ _ ⟨(blk_cell BK236.out 0).trans rfl, (blk_cell BK236.out 1).trans rfl, (blk_cell BK237.out 0).trans rfl, (blk_cell BK237.out 1).trans rfl, ((HB.out.cell (World.block_lt_of_cell? w _ hw238_0)).trans hw238_0), ((HB.out.cell (World.block_lt_of_cell? w _ hw238_1)).trans hw238_1)⟩ (fun hHeld => ?_)
              clear hK K
              refine norm_ (a' := ?_) ?_ ?_
              rotate_left
              · show Act.put _ (some 35) _ = _
                simp only [Act.put, List.setIfInBounds_toArray, List.set_cons_zero, List.set_cons_succ, i64_w, i32_w]
                rfl
              refine pure_ (i := 8) (N := some 27) (v := ?_) (a' := ?_) #[true, true, true, true, true, true, true, true, true, false, false, false, false] rfl rfl (any_of HT_.out (by kernel_rfl)) (fun _ _ _ h => h) (Or.inl ⟨by rfl, ?_⟩) ?_ ?_
              rotate_left
              · intro w'
                go_simp
                with_reducible rfl
              rotate_left
              · simp only [Act.put, List.setIfInBounds_toArray, List.set_cons_zero, List.set_cons_succ, i64_w, i32_w]
                rfl
              refine pure_ (i := 9) (N := some 36) (v := ?_) (a' := ?_) #[true, true, true, true, true, true, true, true, true, true, false, false, false] rfl rfl (any_of HT_.out (by kernel_rfl)) (fun _ _ _ h => h) (Or.inl ⟨by rfl, ?_⟩) ?_ ?_
              rotate_left
              · intro w'
                go_simp
                with_reducible rfl
              rotate_left
              · simp only [Act.put, List.setIfInBounds_toArray, List.set_cons_zero, List.set_cons_succ, i64_w, i32_w]
                rfl
              refine pure_ (i := 10) (N := some 37) (v := ?_) (a' := ?_) #[true, true, true, true, true, true, true, true, true, true, true, false, false] rfl rfl (any_of HT_.out (by kernel_rfl)) (fun _ _ _ h => h) (Or.inl ⟨by rfl, ?_⟩) ?_ ?_
              rotate_left
              · intro w'
                go_simp
                with_reducible rfl
              rotate_left
              · simp only [Act.put, List.setIfInBounds_toArray, List.set_cons_zero, List.set_cons_succ, i64_w, i32_w]
                rfl
              refine last_ (i := 11) (N := none) #[true, true, true, true, true, true, true, true, true, true, true, true, false] rfl rfl (one_of HT_.out (by kernel_rfl)) (by decide) (fun K hK => ?_)
              have hs16 : w15.cell? ⟨gb236, 0, none⟩ = some (.int .i64 x237000_1) := (blk_cell BK236.out 0).trans rfl
              have hfs16 := blk_frozen BK236.out 0
              have hns16_1 := NB237_236.out
              have hms16_1 := NB236_237.out
              have hs17 : w15.cell? ⟨gb236, 1, none⟩ = some (.int .i64 x237001_1) := (blk_cell BK236.out 1).trans rfl
              have hfs17 := blk_frozen BK236.out 1
              have hns17_1 := NB237_236.out
              have hms17_1 := NB236_237.out
              refine skip_ (w1 := ?_) (by rfl) rfl ?_ ?_
              rotate_left
              · go_simp
                rfl
              refine hK.out _ _ ?_
              clear hK K
              refine last_ (i := 12) (N := none) #[true, true, true, true, true, true, true, true, true, true, true, true, true] rfl rfl (one_of HT_.out (by kernel_rfl)) (by decide) (fun K hK => ?_)
              have hs18 : w15.cell? ⟨gb237, 0, none⟩ = some (.int .i64 x238000_1) := (blk_cell BK237.out 0).trans rfl
              have hfs18 := blk_frozen BK237.out 0
              have hns18_0 := NB236_237.out
              have hms18_0 := NB237_236.out
              have hs19 : w15.cell? ⟨gb237, 1, none⟩ = some (.int .i64 x238001_1) := (blk_cell BK237.out 1).trans rfl
              have hfs19 := blk_frozen BK237.out 1
              have hns19_0 := NB236_237.out
              have hms19_0 := NB237_236.out
              refine skip_ (w1 := ?_) (by rfl) rfl ?_ ?_
              rotate_left
              · go_simp
                rfl
              refine hK.out _ _ ?_
              clear hK K
              refine done_ (done_of HT_.out (by kernel_rfl)) ?_
              try go_wp2
              go_roundg k1
              case measure => have := HK1.out; omega
              case rel => exact ⟨(wrap64 (x10_1 + 1)), (t239), (t240), (t241), (t242), (by first | rfl | (simp; done) | (simp [*]; done)), H', ⟨by have := HK1.out; omega⟩, ⟨by (with_reducible repeat (first | refine blk_drewN ?_ _ | refine blk_drew ?_ | refine blk_alloc ?_ _)); refine blk_far ?_ NB236_237.out _; (with_reducible repeat (first | refine blk_drewN ?_ _ | refine blk_drew ?_ | refine blk_alloc ?_ _)); refine blk_far ?_ NB236_237.out _; (with_reducible repeat (first | refine blk_drewN ?_ _ | refine blk_drew ?_ | refine blk_alloc ?_ _)); refine blk_put (cs := #[.int .i64 t239, .int .i64 x237001_1]) ?_ 1 _ rfl; (with_reducible repeat (first | refine blk_drewN ?_ _ | refine blk_drew ?_ | refine blk_alloc ?_ _)); refine blk_put (cs := #[.int .i64 x237000_1, .int .i64 x237001_1]) ?_ 0 _ rfl; (with_reducible repeat (first | refine blk_drewN ?_ _ | refine blk_drew ?_ | refine blk_alloc ?_ _)); exact BK236.out⟩, ⟨by (with_reducible repeat (first | refine blk_drewN ?_ _ | refine blk_drew ?_ | refine blk_alloc ?_ _)); refine blk_put (cs := #[.int .i64 t241, .int .i64 x238001_1]) ?_ 1 _ rfl; (with_reducible repeat (first | refine blk_drewN ?_ _ | refine blk_drew ?_ | refine blk_alloc ?_ _)); refine blk_put (cs := #[.int .i64 x238000_1, .int .i64 x238001_1]) ?_ 0 _ rfl; (with_reducible repeat (first | refine blk_drewN ?_ _ | refine blk_drew ?_ | refine blk_alloc ?_ _)); refine blk_far ?_ NB237_236.out _; (with_reducible repeat (first | refine blk_drewN ?_ _ | refine blk_drew ?_ | refine blk_alloc ?_ _)); refine blk_far ?_ NB237_236.out _; (with_reducible repeat (first | refine blk_drewN ?_ _ | refine blk_drew ?_ | refine blk_alloc ?_ _)); exact BK237.out⟩, ⟨by repeat (first | (with_reducible first | exact HB.out | apply below_alloc | apply pw_below_drewN | apply below_drew1 | refine below_set ?_ GE236.out | refine below_set ?_ GE237.out) | exact HB.out)⟩⟩
            · rw [if_neg c12] at H
              exact absurd H (by simp)
          · rw [if_neg c11] at H
            have c11b0 : decide (x10_1 < (l0.length : Int)) = false := decide_eq_false c11
            clear c11
            have H' := Aside0.mk H
            clear H
            go_wp2
            go_loopg [11] k1 (fun kq v11 w' => ∃ (x11_2 : Int) (x237000_2 : Int) (x237001_2 : Int) (x238000_2 : Int) (x238001_2 : Int), v11 = .int .i64 x11_2 ∧ Aside0 (waypointlaw34_HelloOneWay.l1 kq a2 (wrap64 (2 + (Int.tmod (wrap64 (a1)) 19))) x11_2 x237000_2 x237001_2 x238000_2 x238001_2 = some r) ∧ Aside0 (kq ≤ k1) ∧ Aside0 (w'.heap[gb236]? = some (.cells #[.int .i64 x237000_2, .int .i64 x237001_2] 25 (0, 0))) ∧ Aside0 (w'.heap[gb237]? = some (.cells #[.int .i64 x238000_2, .int .i64 x238001_2] 25 (0, 0))) ∧ Aside0 (Below w.heap.size w w'))
            case atStart => exact ⟨(0), (x237000_1), (x237001_1), (x238000_1), (x238001_1), (by first | rfl | (simp; done) | (simp [*]; done)), H', ⟨Nat.le_refl _⟩, ⟨by (with_reducible repeat (first | refine blk_drewN ?_ _ | refine blk_drew ?_ | refine blk_alloc ?_ _)); exact BK236.out⟩, ⟨by (with_reducible repeat (first | refine blk_drewN ?_ _ | refine blk_drew ?_ | refine blk_alloc ?_ _)); exact BK237.out⟩, ⟨by repeat (first | (with_reducible first | exact HB.out | apply below_alloc | apply pw_below_drewN | apply below_drew1 | refine below_set ?_ GE236.out | refine below_set ?_ GE237.out) | exact HB.out)⟩⟩
            case round =>
              clear H'
              try clear c1
              try clear p2
              try clear q2
              try clear hx2
              try clear c5
              try clear c6
              try clear c6b0
              try clear c6b1
              try clear p6
              try clear c8
              try clear c10
              try clear c11
              try clear c11b0
              try clear c12
              try clear c12b0
              try clear c18
              try clear hx238_0
              try clear hx238_1
              try clear p2
              try clear p238
              try clear p6
              try clear q238
              obtain ⟨x11_2, x237000_2, x237001_2, x238000_2, x238001_2, rfl, HA, HK2, BK236, BK237, HB⟩ := hrel
              cases gk with
              | zero => exact absurd HA.out (by simp [waypointlaw34_HelloOneWay.l1])
              | succ k2 =>
                have H := HA.out
                clear HA
                simp only [waypointlaw34_HelloOneWay.l1] at H
                by_cases c20 : x11_2 < (wrap64 (2 * (wrap64 (2 + (Int.tmod (wrap64 (a1)) 19)))))
                · rw [if_pos c20] at H
                  have c20b0 : decide (x11_2 < (wrap64 (2 * (wrap64 (2 + (Int.tmod (wrap64 (a1)) 19)))))) = true := decide_eq_true c20
                  clear c20
                  replace H := Option.bind_eq_some_iff.mp H
                  obtain ⟨⟨t243, t244, t245, t246⟩, A210, H⟩ := H
                  replace H : (waypointlaw34_HelloOneWay.l1 k2 a2 (wrap64 (2 + (Int.tmod (wrap64 (a1)) 19))) (wrap64 (x11_2 + 1)) t243 t244 t245 t246) = some r := H
                  have A21 := Aside0.mk A210
                  clear A210
                  have H' := Aside0.mk H
                  clear H
                  have hnb22 := NB236_237.out
                  have hnc22 := NB237_236.out
                  have hcz23_0 : wr.cell? ⟨gb236, 0, none⟩ = some (.int .i64 x237000_2) := (blk_cell BK236.out 0).trans rfl
                  have hcz23_1 : wr.cell? ⟨gb236, 1, none⟩ = some (.int .i64 x237001_2) := (blk_cell BK236.out 1).trans rfl
                  have hfz23_0 := blk_frozen BK236.out 0
                  have hfz23_1 := blk_frozen BK236.out 1
                  have hcz24_0 : wr.cell? ⟨gb237, 0, none⟩ = some (.int .i64 x238000_2) := (blk_cell BK237.out 0).trans rfl
                  have hcz24_1 : wr.cell? ⟨gb237, 1, none⟩ = some (.int .i64 x238001_2) := (blk_cell BK237.out 1).trans rfl
                  have hfz24_0 := blk_frozen BK237.out 0
                  have hfz24_1 := blk_frozen BK237.out 1
                  go_wp2_with (first | ((with_reducible refine gate_callee (f := 18) rfl ?_); refine goesL_ (some 52) rfl rfl Try.func18 (by kernel_rfl) rfl #[.agg #[.int .i64 x237000_2, .int .i64 x237001_2], .agg #[.int .i64 x238000_2, .int .i64 x238001_2], .int .i64 (wrap64 (2 + (Int.tmod (wrap64 (a1)) 19))), .agg #[.bool a2, .bool (!a2)]] rfl (by (try simp only [List.map_toArray, List.map_cons, List.map_nil]); first | done | rfl | (simp only [List.length_drop, List.length_take]; rfl)) ?_; (with_reducible refine (waypointlaw34_exchange.calls k2 x237000_2 x237001_2 x238000_2 x238001_2 (wrap64 (2 + (Int.tmod (wrap64 (a1)) 19))) a2 (!a2) t243 t244 t245 t246 _ A21.out).mono ?_); rintro e w25 ⟨rfl, hb⟩; refine ⟨_, rfl, ?_⟩; have n0_ := Aside0.mk (blk_below (g := gb236) (o := .cells #[.int .i64 x237000_2, .int .i64 x237001_2] 25 (0, 0)) (by (with_reducible repeat (first | refine blk_drewN ?_ _ | refine blk_drew ?_ | refine blk_alloc ?_ _)); exact BK236.out) hb); have n1_ := Aside0.mk (blk_below (g := gb237) (o := .cells #[.int .i64 x238000_2, .int .i64 x238001_2] 25 (0, 0)) (by (with_reducible repeat (first | refine blk_drewN ?_ _ | refine blk_drew ?_ | refine blk_alloc ?_ _)); exact BK237.out) hb); have n2_ := Aside0.mk (below_step (by repeat (first | (with_reducible first | exact HB.out | apply below_alloc | apply pw_below_drewN | apply below_drew1 | refine below_set ?_ GE236.out | refine below_set ?_ GE237.out) | exact HB.out)) hb); clear BK236; clear BK237; clear HB; have BK236 := n0_; have BK237 := n1_; have HB := n2_; clear n0_ n1_ n2_; (try clear hb); (try clear hb2); (try clear hk); (try clear hi); have hcz26_0 : w25.cell? ⟨gb236, 0, none⟩ = some (.int .i64 x237000_2) := (blk_cell BK236.out 0).trans rfl; have hcz26_1 : w25.cell? ⟨gb236, 1, none⟩ = some (.int .i64 x237001_2) := (blk_cell BK236.out 1).trans rfl; have hfz26_0 := blk_frozen BK236.out 0; have hfz26_1 := blk_frozen BK236.out 1; have hcz27_0 : w25.cell? ⟨gb237, 0, none⟩ = some (.int .i64 x238000_2) := (blk_cell BK237.out 0).trans rfl; have hcz27_1 : w25.cell? ⟨gb237, 1, none⟩ = some (.int .i64 x238001_2) := (blk_cell BK237.out 1).trans rfl; have hfz27_0 := blk_frozen BK237.out 0; have hfz27_1 := blk_frozen BK237.out 1))
                  go_roundg k2
                  case measure => have := HK1.out; have := HK2.out; omega
                  case rel => exact ⟨(wrap64 (x11_2 + 1)), (t243), (t244), (t245), (t246), (by first | rfl | (simp; done) | (simp [*]; done)), H', ⟨by have := HK1.out; have := HK2.out; omega⟩, ⟨by (with_reducible repeat (first | refine blk_drewN ?_ _ | refine blk_drew ?_ | refine blk_alloc ?_ _)); refine blk_far ?_ NB236_237.out _; (with_reducible repeat (first | refine blk_drewN ?_ _ | refine blk_drew ?_ | refine blk_alloc ?_ _)); refine blk_far ?_ NB236_237.out _; (with_reducible repeat (first | refine blk_drewN ?_ _ | refine blk_drew ?_ | refine blk_alloc ?_ _)); refine blk_put (cs := #[.int .i64 t243, .int .i64 x237001_2]) ?_ 1 _ rfl; (with_reducible repeat (first | refine blk_drewN ?_ _ | refine blk_drew ?_ | refine blk_alloc ?_ _)); refine blk_put (cs := #[.int .i64 x237000_2, .int .i64 x237001_2]) ?_ 0 _ rfl; (with_reducible repeat (first | refine blk_drewN ?_ _ | refine blk_drew ?_ | refine blk_alloc ?_ _)); exact BK236.out⟩, ⟨by (with_reducible repeat (first | refine blk_drewN ?_ _ | refine blk_drew ?_ | refine blk_alloc ?_ _)); refine blk_put (cs := #[.int .i64 t245, .int .i64 x238001_2]) ?_ 1 _ rfl; (with_reducible repeat (first | refine blk_drewN ?_ _ | refine blk_drew ?_ | refine blk_alloc ?_ _)); refine blk_put (cs := #[.int .i64 x238000_2, .int .i64 x238001_2]) ?_ 0 _ rfl; (with_reducible repeat (first | refine blk_drewN ?_ _ | refine blk_drew ?_ | refine blk_alloc ?_ _)); refine blk_far ?_ NB237_236.out _; (with_reducible repeat (first | refine blk_drewN ?_ _ | refine blk_drew ?_ | refine blk_alloc ?_ _)); refine blk_far ?_ NB237_236.out _; (with_reducible repeat (first | refine blk_drewN ?_ _ | refine blk_drew ?_ | refine blk_alloc ?_ _)); exact BK237.out⟩, ⟨by repeat (first | (with_reducible first | exact HB.out | apply below_alloc | apply pw_below_drewN | apply below_drew1 | refine below_set ?_ GE236.out | refine below_set ?_ GE237.out) | exact HB.out)⟩⟩
                · rw [if_neg c20] at H
                  have c20b0 : decide (x11_2 < (wrap64 (2 * (wrap64 (2 + (Int.tmod (wrap64 (a1)) 19)))))) = false := decide_eq_false c20
                  clear c20
                  by_cases c28 : a2 = true
                  · subst c28
                    have H1 : (if x238000_2 = 0 then (some (x237000_2 == 1)) else (some false)) = some r := by rw [if_pos rfl] at H; exact H
                    clear H
                    have H := H1
                    clear H1
                    by_cases c29 : x238000_2 = 0
                    · rw [if_pos c29] at H
                      have c29b0 : (x238000_2 == 0) = true := beq_iff_eq.mpr c29
                      have c29b1 : (x238000_2 != 0) = false := bne_eq_false_iff_eq.mpr c29
                      clear c29
                      obtain rfl := Option.some.inj H
                      have hnb30 := NB237_236.out
                      have hnc30 := NB236_237.out
                      have hcz31_0 : wr.cell? ⟨gb237, 0, none⟩ = some (.int .i64 x238000_2) := (blk_cell BK237.out 0).trans rfl
                      have hcz31_1 : wr.cell? ⟨gb237, 1, none⟩ = some (.int .i64 x238001_2) := (blk_cell BK237.out 1).trans rfl
                      have hfz31_0 := blk_frozen BK237.out 0
                      have hfz31_1 := blk_frozen BK237.out 1
                      have hcz32_0 : wr.cell? ⟨gb236, 0, none⟩ = some (.int .i64 x237000_2) := (blk_cell BK236.out 0).trans rfl
                      have hcz32_1 : wr.cell? ⟨gb236, 1, none⟩ = some (.int .i64 x237001_2) := (blk_cell BK236.out 1).trans rfl
                      have hfz32_0 := blk_frozen BK236.out 0
                      have hfz32_1 := blk_frozen BK236.out 1
                      go_wp2
                      go_ret
                      exact ⟨by first | rfl | (simp [errW_none, errW_some] <;> rfl) | (simp [*, errW_none, errW_some] <;> rfl), by repeat (first | (with_reducible first | exact HB.out | apply below_alloc | apply pw_below_drewN | apply below_drew1 | refine below_set ?_ GE236.out | refine below_set ?_ GE237.out) | exact HB.out)⟩
                    · rw [if_neg c29] at H
                      have c29b0 : (x238000_2 == 0) = false := beq_eq_false_iff_ne.mpr c29
                      have c29b1 : (x238000_2 != 0) = true := bne_iff_ne.mpr c29
                      obtain rfl := Option.some.inj H
                      have hnb33 := NB237_236.out
                      have hnc33 := NB236_237.out
                      have hcz34_0 : wr.cell? ⟨gb237, 0, none⟩ = some (.int .i64 x238000_2) := (blk_cell BK237.out 0).trans rfl
                      have hcz34_1 : wr.cell? ⟨gb237, 1, none⟩ = some (.int .i64 x238001_2) := (blk_cell BK237.out 1).trans rfl
                      have hfz34_0 := blk_frozen BK237.out 0
                      have hfz34_1 := blk_frozen BK237.out 1
                      go_wp2
                      go_ret
                      exact ⟨by first | rfl | (simp [errW_none, errW_some] <;> rfl) | (simp [*, errW_none, errW_some] <;> rfl), by repeat (first | (with_reducible first | exact HB.out | apply below_alloc | apply pw_below_drewN | apply below_drew1 | refine below_set ?_ GE236.out | refine below_set ?_ GE237.out) | exact HB.out)⟩
                  · replace c28 := Bool.eq_false_iff.mpr c28
                    subst c28
                    have H1 : (if x237000_2 = 0 then (some (x238000_2 == 1)) else (some false)) = some r := by rw [if_neg (show ¬ (false = true) by decide)] at H; exact H
                    clear H
                    have H := H1
                    clear H1
                    by_cases c35 : x237000_2 = 0
                    · rw [if_pos c35] at H
                      have c35b0 : (x237000_2 == 0) = true := beq_iff_eq.mpr c35
                      have c35b1 : (x237000_2 != 0) = false := bne_eq_false_iff_eq.mpr c35
                      clear c35
                      obtain rfl := Option.some.inj H
                      have hnb36 := NB236_237.out
                      have hnc36 := NB237_236.out
                      have hcz37_0 : wr.cell? ⟨gb236, 0, none⟩ = some (.int .i64 x237000_2) := (blk_cell BK236.out 0).trans rfl
                      have hcz37_1 : wr.cell? ⟨gb236, 1, none⟩ = some (.int .i64 x237001_2) := (blk_cell BK236.out 1).trans rfl
                      have hfz37_0 := blk_frozen BK236.out 0
                      have hfz37_1 := blk_frozen BK236.out 1
                      have hcz38_0 : wr.cell? ⟨gb237, 0, none⟩ = some (.int .i64 x238000_2) := (blk_cell BK237.out 0).trans rfl
                      have hcz38_1 : wr.cell? ⟨gb237, 1, none⟩ = some (.int .i64 x238001_2) := (blk_cell BK237.out 1).trans rfl
                      have hfz38_0 := blk_frozen BK237.out 0
                      have hfz38_1 := blk_frozen BK237.out 1
                      go_wp2
                      go_ret
                      exact ⟨by first | rfl | (simp [errW_none, errW_some] <;> rfl) | (simp [*, errW_none, errW_some] <;> rfl), by repeat (first | (with_reducible first | exact HB.out | apply below_alloc | apply pw_below_drewN | apply below_drew1 | refine below_set ?_ GE236.out | refine below_set ?_ GE237.out) | exact HB.out)⟩
                    · rw [if_neg c35] at H
                      have c35b0 : (x237000_2 == 0) = false := beq_eq_false_iff_ne.mpr c35
                      have c35b1 : (x237000_2 != 0) = true := bne_iff_ne.mpr c35
                      obtain rfl := Option.some.inj H
                      have hnb39 := NB236_237.out
                      have hnc39 := NB237_236.out
                      have hcz40_0 : wr.cell? ⟨gb236, 0, none⟩ = some (.int .i64 x237000_2) := (blk_cell BK236.out 0).trans rfl
                      have hcz40_1 : wr.cell? ⟨gb236, 1, none⟩ = some (.int .i64 x237001_2) := (blk_cell BK236.out 1).trans rfl
                      have hfz40_0 := blk_frozen BK236.out 0
                      have hfz40_1 := blk_frozen BK236.out 1
                      go_wp2
                      go_ret
                      exact ⟨by first | rfl | (simp [errW_none, errW_some] <;> rfl) | (simp [*, errW_none, errW_some] <;> rfl), by repeat (first | (with_reducible first | exact HB.out | apply below_alloc | apply pw_below_drewN | apply below_drew1 | refine below_set ?_ GE236.out | refine below_set ?_ GE237.out) | exact HB.out)⟩
  · replace c5 := Bool.eq_false_iff.mpr c5
    subst c5
    have H1 : (some false) = some r := by rw [if_neg (show ¬ (false = true) by decide)] at H; exact H
    clear H
    have H := H1
    clear H1
    obtain rfl := Option.some.inj H
    go_enter Try.func8, Try.ntmps8
    go_wp2_with (first | ((with_reducible refine gate_callee (f := 10) rfl ?_); refine goesL_ (some 12) rfl rfl Try.func10 (by kernel_rfl) rfl #[] rfl (by (try simp only [List.map_toArray, List.map_cons, List.map_nil]); first | done | rfl | (simp only [List.length_drop, List.length_take]; rfl)) ?_; (with_reducible refine (waypointlaw34_awake.calls k  false _ A4.out).mono ?_); rintro e w41 ⟨rfl, hb⟩; refine ⟨_, rfl, ?_⟩; have n0_ := Aside0.mk (below_step (by repeat (first | (with_reducible first | exact HB.out | apply below_alloc | apply pw_below_drewN | apply below_drew1) | exact HB.out)) hb); clear HB; have HB := n0_; clear n0_; (try clear hb); (try clear hb2); (try clear hk); (try clear hi)))
    go_ret
    exact ⟨by first | rfl | (simp [errW_none, errW_some] <;> rfl) | (simp [*, errW_none, errW_some] <;> rfl), by repeat (first | (with_reducible first | exact HB.out | apply below_alloc | apply pw_below_drewN | apply below_drew1) | exact HB.out)⟩

end Go.Proofs.Ytopdnkihecomnaa.PT34

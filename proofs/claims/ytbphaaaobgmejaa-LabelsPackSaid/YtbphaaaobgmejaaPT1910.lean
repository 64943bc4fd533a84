-- WRITTEN BY mygen.py, a program of mine over the kit's print; Lean checks every row
import Derived.Test.YtbphaaaobgmejaaPT190
import Derived.Test.YtbphaaaobgmejaaPT192
import Derived.Test.YtbphaaaobgmejaaPT193
namespace Go.Proofs.Ytbphaaaobgmejaa.PT19
open Go.RowKit Go.Proofs.YtbphaaaobgmejaaW.PrintWords Go.Proofs.YtbphaaaobgmejaaW.PrintLast Go.Proofs.YtbphaaaobgmejaaW.PrintMore
attribute [local go_sem] max2_int min2_int max_two min_two max_three min_three max_four min_four   -- for this text's walks alone
set_option linter.unusedVariables false
set_option linter.unusedSimpArgs false

/-! ### labels_Decode: function 15 -/
set_option maxHeartbeats 4000000 in
theorem labels_Decode.at1 (n : Int) (h0 : 16 ≤ n) (h1 : n ≤ 79) (w : World) :
    Calls Try.prog 15 #[.int .i64 n] w fun e w' => e = .returned (.tuple #[.agg #[.int .i64 1, .int .i64 (n - 16)], .int .i64 0]) ∧ Below w.heap.size w w' := by
  have i0 := spc_idx0
  have i1 := spc_idx1
  have i2 := spc_idx2
  have i3 := spc_idx3
  go_enter Try.func15, Try.ntmps15
  go_wp2_with (go_at_call 24; refine (labels_spaces.calls _ _ _ _ _ _ _ _ _ _ _ _ _ _ _ _ _ rfl).mono ?_; rintro e w' ⟨rfl, hb⟩)
  obtain ⟨hs, c0, c1, hB⟩ := spc_facts hb
  obtain ⟨f0, f1, bk⟩ := spc_frozen hb
  clear hb
  refine wp_loop_rounds 5 ?_
  rw [rounds_succ]
  go_wp2
  refine bodyPost_ret (results_ct rfl _ _ w.heap.size 30 #[.int .i64 1, .int .i64 (n - 16)] (0, 0) _ rfl (by (repeat (refine blk_alloc ?_ _)); refine blk_put (cs := #[.int .i64 1, .int .i64 0]) ?_ 1 _ rfl; refine blk_put (cs := #[.int .i64 0, .int .i64 0]) ?_ 0 _ rfl; exact bk) Try.underlying30 rfl (by kernel_rfl)) rfl ?_
  exact ⟨rfl, by repeat (first | exact hB | refine Below.setCell ?_ (by first | exact Nat.le_refl _ | (simp; done) | (simp; omega) | omega) _ | refine Below.alloc ?_ (by have := hB.size; simp; omega) _)⟩
set_option maxHeartbeats 4000000 in
theorem labels_Decode.at2 (n : Int) (h0 : 128 ≤ n) (h1 : n ≤ 639) (w : World) :
    Calls Try.prog 15 #[.int .i64 n] w fun e w' => e = .returned (.tuple #[.agg #[.int .i64 2, .int .i64 (n - 128)], .int .i64 0]) ∧ Below w.heap.size w w' := by
  have i0 := spc_idx0
  have i1 := spc_idx1
  have i2 := spc_idx2
  have i3 := spc_idx3
  have p0 : 79 < n := by omega
  go_enter Try.func15, Try.ntmps15
  go_wp2_with (go_at_call 24; refine (labels_spaces.calls _ _ _ _ _ _ _ _ _ _ _ _ _ _ _ _ _ rfl).mono ?_; rintro e w' ⟨rfl, hb⟩)
  obtain ⟨hs, c0, c1, hB⟩ := spc_facts hb
  obtain ⟨f0, f1, bk⟩ := spc_frozen hb
  clear hb
  refine wp_loop_rounds 5 ?_
  rw [rounds_succ]
  go_wp2
  refine spc_step ?_ ⟨hs, c0, c1, f0, f1, hB, bk⟩ (by repeat (first | exact Below.refl _ _ | refine Below.setCell ?_ (by simp) _ | refine Below.alloc ?_ (by simp) _))
  clear hs c0 c1 f0 f1 hB bk
  rintro w' ⟨hs, c0, c1, f0, f1, hB, bk⟩
  rw [rounds_succ]
  go_wp2
  refine bodyPost_ret (results_ct rfl _ _ w.heap.size 30 #[.int .i64 2, .int .i64 (n - 128)] (0, 0) _ rfl (by (repeat (refine blk_alloc ?_ _)); refine blk_put (cs := #[.int .i64 2, .int .i64 0]) ?_ 1 _ rfl; refine blk_put (cs := #[.int .i64 0, .int .i64 0]) ?_ 0 _ rfl; exact bk) Try.underlying30 rfl (by kernel_rfl)) rfl ?_
  exact ⟨rfl, by repeat (first | exact hB | refine Below.setCell ?_ (by first | exact Nat.le_refl _ | (simp; done) | (simp; omega) | omega) _ | refine Below.alloc ?_ (by have := hB.size; simp; omega) _)⟩
set_option maxHeartbeats 4000000 in
theorem labels_Decode.at3 (n : Int) (h0 : 1025 ≤ n) (h1 : n ≤ 1088) (w : World) :
    Calls Try.prog 15 #[.int .i64 n] w fun e w' => e = .returned (.tuple #[.agg #[.int .i64 3, .int .i64 (n - 1024)], .int .i64 0]) ∧ Below w.heap.size w w' := by
  have i0 := spc_idx0
  have i1 := spc_idx1
  have i2 := spc_idx2
  have i3 := spc_idx3
  have p0 : 79 < n := by omega
  have p1 : 639 < n := by omega
  go_enter Try.func15, Try.ntmps15
  go_wp2_with (go_at_call 24; refine (labels_spaces.calls _ _ _ _ _ _ _ _ _ _ _ _ _ _ _ _ _ rfl).mono ?_; rintro e w' ⟨rfl, hb⟩)
  obtain ⟨hs, c0, c1, hB⟩ := spc_facts hb
  obtain ⟨f0, f1, bk⟩ := spc_frozen hb
  clear hb
  refine wp_loop_rounds 5 ?_
  rw [rounds_succ]
  go_wp2
  refine spc_step ?_ ⟨hs, c0, c1, f0, f1, hB, bk⟩ (by repeat (first | exact Below.refl _ _ | refine Below.setCell ?_ (by simp) _ | refine Below.alloc ?_ (by simp) _))
  clear hs c0 c1 f0 f1 hB bk
  rintro w' ⟨hs, c0, c1, f0, f1, hB, bk⟩
  rw [rounds_succ]
  go_wp2
  refine spc_step ?_ ⟨hs, c0, c1, f0, f1, hB, bk⟩ (by repeat (first | exact Below.refl _ _ | refine Below.setCell ?_ (by simp) _ | refine Below.alloc ?_ (by simp) _))
  clear hs c0 c1 f0 f1 hB bk
  rintro w' ⟨hs, c0, c1, f0, f1, hB, bk⟩
  rw [rounds_succ]
  go_wp2
  refine bodyPost_ret (results_ct rfl _ _ w.heap.size 30 #[.int .i64 3, .int .i64 (n - 1024)] (0, 0) _ rfl (by (repeat (refine blk_alloc ?_ _)); refine blk_put (cs := #[.int .i64 3, .int .i64 0]) ?_ 1 _ rfl; refine blk_put (cs := #[.int .i64 0, .int .i64 0]) ?_ 0 _ rfl; exact bk) Try.underlying30 rfl (by kernel_rfl)) rfl ?_
  exact ⟨rfl, by repeat (first | exact hB | refine Below.setCell ?_ (by first | exact Nat.le_refl _ | (simp; done) | (simp; omega) | omega) _ | refine Below.alloc ?_ (by have := hB.size; simp; omega) _)⟩
set_option maxHeartbeats 4000000 in
theorem labels_Decode.at4 (n : Int) (h0 : 2048 ≤ n) (h1 : n ≤ 67583) (w : World) :
    Calls Try.prog 15 #[.int .i64 n] w fun e w' => e = .returned (.tuple #[.agg #[.int .i64 4, .int .i64 (n - 2048)], .int .i64 0]) ∧ Below w.heap.size w w' := by
  have i0 := spc_idx0
  have i1 := spc_idx1
  have i2 := spc_idx2
  have i3 := spc_idx3
  have p0 : 79 < n := by omega
  have p1 : 639 < n := by omega
  have p2 : 1088 < n := by omega
  go_enter Try.func15, Try.ntmps15
  go_wp2_with (go_at_call 24; refine (labels_spaces.calls _ _ _ _ _ _ _ _ _ _ _ _ _ _ _ _ _ rfl).mono ?_; rintro e w' ⟨rfl, hb⟩)
  obtain ⟨hs, c0, c1, hB⟩ := spc_facts hb
  obtain ⟨f0, f1, bk⟩ := spc_frozen hb
  clear hb
  refine wp_loop_rounds 5 ?_
  rw [rounds_succ]
  go_wp2
  refine spc_step ?_ ⟨hs, c0, c1, f0, f1, hB, bk⟩ (by repeat (first | exact Below.refl _ _ | refine Below.setCell ?_ (by simp) _ | refine Below.alloc ?_ (by simp) _))
  clear hs c0 c1 f0 f1 hB bk
  rintro w' ⟨hs, c0, c1, f0, f1, hB, bk⟩
  rw [rounds_succ]
  go_wp2
  refine spc_step ?_ ⟨hs, c0, c1, f0, f1, hB, bk⟩ (by repeat (first | exact Below.refl _ _ | refine Below.setCell ?_ (by simp) _ | refine Below.alloc ?_ (by simp) _))
  clear hs c0 c1 f0 f1 hB bk
  rintro w' ⟨hs, c0, c1, f0, f1, hB, bk⟩
  rw [rounds_succ]
  go_wp2
  refine spc_step ?_ ⟨hs, c0, c1, f0, f1, hB, bk⟩ (by repeat (first | exact Below.refl _ _ | refine Below.setCell ?_ (by simp) _ | refine Below.alloc ?_ (by simp) _))
  clear hs c0 c1 f0 f1 hB bk
  rintro w' ⟨hs, c0, c1, f0, f1, hB, bk⟩
  rw [rounds_succ]
  go_wp2
  refine bodyPost_ret (results_ct rfl _ _ w.heap.size 30 #[.int .i64 4, .int .i64 (n - 2048)] (0, 0) _ rfl (by (repeat (refine blk_alloc ?_ _)); refine blk_put (cs := #[.int .i64 4, .int .i64 0]) ?_ 1 _ rfl; refine blk_put (cs := #[.int .i64 0, .int .i64 0]) ?_ 0 _ rfl; exact bk) Try.underlying30 rfl (by kernel_rfl)) rfl ?_
  exact ⟨rfl, by repeat (first | exact hB | refine Below.setCell ?_ (by first | exact Nat.le_refl _ | (simp; done) | (simp; omega) | omega) _ | refine Below.alloc ?_ (by have := hB.size; simp; omega) _)⟩
set_option maxHeartbeats 4000000 in
theorem labels_Decode.gap0 (n : Int) (h1 : n ≤ 15) (w : World) :
    Calls Try.prog 15 #[.int .i64 n] w fun e w' => e = .returned (.tuple #[.agg #[.int .i64 0, .int .i64 0], .int .i64 8]) ∧ Below w.heap.size w w' := by
  have i0 := spc_idx0
  have i1 := spc_idx1
  have i2 := spc_idx2
  have i3 := spc_idx3
  have p0 : n < 16 := by omega
  have p1 : n < 128 := by omega
  have p2 : n < 1025 := by omega
  have p3 : n < 2048 := by omega
  go_enter Try.func15, Try.ntmps15
  go_wp2_with (go_at_call 24; refine (labels_spaces.calls _ _ _ _ _ _ _ _ _ _ _ _ _ _ _ _ _ rfl).mono ?_; rintro e w' ⟨rfl, hb⟩)
  obtain ⟨hs, c0, c1, hB⟩ := spc_facts hb
  obtain ⟨f0, f1, bk⟩ := spc_frozen hb
  clear hb
  refine wp_loop_rounds 5 ?_
  rw [rounds_succ]
  go_wp2
  refine spc_step ?_ ⟨hs, c0, c1, f0, f1, hB, bk⟩ (by repeat (first | exact Below.refl _ _ | refine Below.setCell ?_ (by simp) _ | refine Below.alloc ?_ (by simp) _))
  clear hs c0 c1 f0 f1 hB bk
  rintro w' ⟨hs, c0, c1, f0, f1, hB, bk⟩
  rw [rounds_succ]
  go_wp2
  refine spc_step ?_ ⟨hs, c0, c1, f0, f1, hB, bk⟩ (by repeat (first | exact Below.refl _ _ | refine Below.setCell ?_ (by simp) _ | refine Below.alloc ?_ (by simp) _))
  clear hs c0 c1 f0 f1 hB bk
  rintro w' ⟨hs, c0, c1, f0, f1, hB, bk⟩
  rw [rounds_succ]
  go_wp2
  refine spc_step ?_ ⟨hs, c0, c1, f0, f1, hB, bk⟩ (by repeat (first | exact Below.refl _ _ | refine Below.setCell ?_ (by simp) _ | refine Below.alloc ?_ (by simp) _))
  clear hs c0 c1 f0 f1 hB bk
  rintro w' ⟨hs, c0, c1, f0, f1, hB, bk⟩
  rw [rounds_succ]
  go_wp2
  refine spc_step ?_ ⟨hs, c0, c1, f0, f1, hB, bk⟩ (by repeat (first | exact Below.refl _ _ | refine Below.setCell ?_ (by simp) _ | refine Below.alloc ?_ (by simp) _))
  clear hs c0 c1 f0 f1 hB bk
  rintro w' ⟨hs, c0, c1, f0, f1, hB, bk⟩
  rw [rounds_succ]
  go_wp2
  refine bodyPost_ret (results_ct rfl _ _ w.heap.size 30 #[.int .i64 0, .int .i64 0] (0, 0) _ rfl (by (repeat (refine blk_alloc ?_ _)); refine blk_put (cs := #[.int .i64 0, .int .i64 0]) ?_ 1 _ rfl; refine blk_put (cs := #[.int .i64 0, .int .i64 0]) ?_ 0 _ rfl; exact bk) Try.underlying30 rfl (by kernel_rfl)) rfl ?_
  exact ⟨rfl, by repeat (first | exact hB | refine Below.setCell ?_ (by first | exact Nat.le_refl _ | (simp; done) | (simp; omega) | omega) _ | refine Below.alloc ?_ (by have := hB.size; simp; omega) _)⟩
set_option maxHeartbeats 4000000 in
theorem labels_Decode.gap1 (n : Int) (h0 : 80 ≤ n) (h1 : n ≤ 127) (w : World) :
    Calls Try.prog 15 #[.int .i64 n] w fun e w' => e = .returned (.tuple #[.agg #[.int .i64 0, .int .i64 0], .int .i64 8]) ∧ Below w.heap.size w w' := by
  have i0 := spc_idx0
  have i1 := spc_idx1
  have i2 := spc_idx2
  have i3 := spc_idx3
  have p0 : 79 < n := by omega
  have p1 : n < 128 := by omega
  have p2 : n < 1025 := by omega
  have p3 : n < 2048 := by omega
  go_enter Try.func15, Try.ntmps15
  go_wp2_with (go_at_call 24; refine (labels_spaces.calls _ _ _ _ _ _ _ _ _ _ _ _ _ _ _ _ _ rfl).mono ?_; rintro e w' ⟨rfl, hb⟩)
  obtain ⟨hs, c0, c1, hB⟩ := spc_facts hb
  obtain ⟨f0, f1, bk⟩ := spc_frozen hb
  clear hb
  refine wp_loop_rounds 5 ?_
  rw [rounds_succ]
  go_wp2
  refine spc_step ?_ ⟨hs, c0, c1, f0, f1, hB, bk⟩ (by repeat (first | exact Below.refl _ _ | refine Below.setCell ?_ (by simp) _ | refine Below.alloc ?_ (by simp) _))
  clear hs c0 c1 f0 f1 hB bk
  rintro w' ⟨hs, c0, c1, f0, f1, hB, bk⟩
  rw [rounds_succ]
  go_wp2
  refine spc_step ?_ ⟨hs, c0, c1, f0, f1, hB, bk⟩ (by repeat (first | exact Below.refl _ _ | refine Below.setCell ?_ (by simp) _ | refine Below.alloc ?_ (by simp) _))
  clear hs c0 c1 f0 f1 hB bk
  rintro w' ⟨hs, c0, c1, f0, f1, hB, bk⟩
  rw [rounds_succ]
  go_wp2
  refine spc_step ?_ ⟨hs, c0, c1, f0, f1, hB, bk⟩ (by repeat (first | exact Below.refl _ _ | refine Below.setCell ?_ (by simp) _ | refine Below.alloc ?_ (by simp) _))
  clear hs c0 c1 f0 f1 hB bk
  rintro w' ⟨hs, c0, c1, f0, f1, hB, bk⟩
  rw [rounds_succ]
  go_wp2
  refine spc_step ?_ ⟨hs, c0, c1, f0, f1, hB, bk⟩ (by repeat (first | exact Below.refl _ _ | refine Below.setCell ?_ (by simp) _ | refine Below.alloc ?_ (by simp) _))
  clear hs c0 c1 f0 f1 hB bk
  rintro w' ⟨hs, c0, c1, f0, f1, hB, bk⟩
  rw [rounds_succ]
  go_wp2
  refine bodyPost_ret (results_ct rfl _ _ w.heap.size 30 #[.int .i64 0, .int .i64 0] (0, 0) _ rfl (by (repeat (refine blk_alloc ?_ _)); refine blk_put (cs := #[.int .i64 0, .int .i64 0]) ?_ 1 _ rfl; refine blk_put (cs := #[.int .i64 0, .int .i64 0]) ?_ 0 _ rfl; exact bk) Try.underlying30 rfl (by kernel_rfl)) rfl ?_
  exact ⟨rfl, by repeat (first | exact hB | refine Below.setCell ?_ (by first | exact Nat.le_refl _ | (simp; done) | (simp; omega) | omega) _ | refine Below.alloc ?_ (by have := hB.size; simp; omega) _)⟩
set_option maxHeartbeats 4000000 in
theorem labels_Decode.gap2 (n : Int) (h0 : 640 ≤ n) (h1 : n ≤ 1024) (w : World) :
    Calls Try.prog 15 #[.int .i64 n] w fun e w' => e = .returned (.tuple #[.agg #[.int .i64 0, .int .i64 0], .int .i64 8]) ∧ Below w.heap.size w w' := by
  have i0 := spc_idx0
  have i1 := spc_idx1
  have i2 := spc_idx2
  have i3 := spc_idx3
  have p0 : 79 < n := by omega
  have p1 : 639 < n := by omega
  have p2 : n < 1025 := by omega
  have p3 : n < 2048 := by omega
  go_enter Try.func15, Try.ntmps15
  go_wp2_with (go_at_call 24; refine (labels_spaces.calls _ _ _ _ _ _ _ _ _ _ _ _ _ _ _ _ _ rfl).mono ?_; rintro e w' ⟨rfl, hb⟩)
  obtain ⟨hs, c0, c1, hB⟩ := spc_facts hb
  obtain ⟨f0, f1, bk⟩ := spc_frozen hb
  clear hb
  refine wp_loop_rounds 5 ?_
  rw [rounds_succ]
  go_wp2
  refine spc_step ?_ ⟨hs, c0, c1, f0, f1, hB, bk⟩ (by repeat (first | exact Below.refl _ _ | refine Below.setCell ?_ (by simp) _ | refine Below.alloc ?_ (by simp) _))
  clear hs c0 c1 f0 f1 hB bk
  rintro w' ⟨hs, c0, c1, f0, f1, hB, bk⟩
  rw [rounds_succ]
  go_wp2
  refine spc_step ?_ ⟨hs, c0, c1, f0, f1, hB, bk⟩ (by repeat (first | exact Below.refl _ _ | refine Below.setCell ?_ (by simp) _ | refine Below.alloc ?_ (by simp) _))
  clear hs c0 c1 f0 f1 hB bk
  rintro w' ⟨hs, c0, c1, f0, f1, hB, bk⟩
  rw [rounds_succ]
  go_wp2
  refine spc_step ?_ ⟨hs, c0, c1, f0, f1, hB, bk⟩ (by repeat (first | exact Below.refl _ _ | refine Below.setCell ?_ (by simp) _ | refine Below.alloc ?_ (by simp) _))
  clear hs c0 c1 f0 f1 hB bk
  rintro w' ⟨hs, c0, c1, f0, f1, hB, bk⟩
  rw [rounds_succ]
  go_wp2
  refine spc_step ?_ ⟨hs, c0, c1, f0, f1, hB, bk⟩ (by repeat (first | exact Below.refl _ _ | refine Below.setCell ?_ (by simp) _ | refine Below.alloc ?_ (by simp) _))
  clear hs c0 c1 f0 f1 hB bk
  rintro w' ⟨hs, c0, c1, f0, f1, hB, bk⟩
  rw [rounds_succ]
  go_wp2
  refine bodyPost_ret (results_ct rfl _ _ w.heap.size 30 #[.int .i64 0, .int .i64 0] (0, 0) _ rfl (by (repeat (refine blk_alloc ?_ _)); refine blk_put (cs := #[.int .i64 0, .int .i64 0]) ?_ 1 _ rfl; refine blk_put (cs := #[.int .i64 0, .int .i64 0]) ?_ 0 _ rfl; exact bk) Try.underlying30 rfl (by kernel_rfl)) rfl ?_
  exact ⟨rfl, by repeat (first | exact hB | refine Below.setCell ?_ (by first | exact Nat.le_refl _ | (simp; done) | (simp; omega) | omega) _ | refine Below.alloc ?_ (by have := hB.size; simp; omega) _)⟩
set_option maxHeartbeats 4000000 in
theorem labels_Decode.gap3 (n : Int) (h0 : 1089 ≤ n) (h1 : n ≤ 2047) (w : World) :
    Calls Try.prog 15 #[.int .i64 n] w fun e w' => e = .returned (.tuple #[.agg #[.int .i64 0, .int .i64 0], .int .i64 8]) ∧ Below w.heap.size w w' := by
  have i0 := spc_idx0
  have i1 := spc_idx1
  have i2 := spc_idx2
  have i3 := spc_idx3
  have p0 : 79 < n := by omega
  have p1 : 639 < n := by omega
  have p2 : 1088 < n := by omega
  have p3 : n < 2048 := by omega
  go_enter Try.func15, Try.ntmps15
  go_wp2_with (go_at_call 24; refine (labels_spaces.calls _ _ _ _ _ _ _ _ _ _ _ _ _ _ _ _ _ rfl).mono ?_; rintro e w' ⟨rfl, hb⟩)
  obtain ⟨hs, c0, c1, hB⟩ := spc_facts hb
  obtain ⟨f0, f1, bk⟩ := spc_frozen hb
  clear hb
  refine wp_loop_rounds 5 ?_
  rw [rounds_succ]
  go_wp2
  refine spc_step ?_ ⟨hs, c0, c1, f0, f1, hB, bk⟩ (by repeat (first | exact Below.refl _ _ | refine Below.setCell ?_ (by simp) _ | refine Below.alloc ?_ (by simp) _))
  clear hs c0 c1 f0 f1 hB bk
  rintro w' ⟨hs, c0, c1, f0, f1, hB, bk⟩
  rw [rounds_succ]
  go_wp2
  refine spc_step ?_ ⟨hs, c0, c1, f0, f1, hB, bk⟩ (by repeat (first | exact Below.refl _ _ | refine Below.setCell ?_ (by simp) _ | refine Below.alloc ?_ (by simp) _))
  clear hs c0 c1 f0 f1 hB bk
  rintro w' ⟨hs, c0, c1, f0, f1, hB, bk⟩
  rw [rounds_succ]
  go_wp2
  refine spc_step ?_ ⟨hs, c0, c1, f0, f1, hB, bk⟩ (by repeat (first | exact Below.refl _ _ | refine Below.setCell ?_ (by simp) _ | refine Below.alloc ?_ (by simp) _))
  clear hs c0 c1 f0 f1 hB bk
  rintro w' ⟨hs, c0, c1, f0, f1, hB, bk⟩
  rw [rounds_succ]
  go_wp2
  refine spc_step ?_ ⟨hs, c0, c1, f0, f1, hB, bk⟩ (by repeat (first | exact Below.refl _ _ | refine Below.setCell ?_ (by simp) _ | refine Below.alloc ?_ (by simp) _))
  clear hs c0 c1 f0 f1 hB bk
  rintro w' ⟨hs, c0, c1, f0, f1, hB, bk⟩
  rw [rounds_succ]
  go_wp2
  refine bodyPost_ret (results_ct rfl _ _ w.heap.size 30 #[.int .i64 0, .int .i64 0] (0, 0) _ rfl (by (repeat (refine blk_alloc ?_ _)); refine blk_put (cs := #[.int .i64 0, .int .i64 0]) ?_ 1 _ rfl; refine blk_put (cs := #[.int .i64 0, .int .i64 0]) ?_ 0 _ rfl; exact bk) Try.underlying30 rfl (by kernel_rfl)) rfl ?_
  exact ⟨rfl, by repeat (first | exact hB | refine Below.setCell ?_ (by first | exact Nat.le_refl _ | (simp; done) | (simp; omega) | omega) _ | refine Below.alloc ?_ (by have := hB.size; simp; omega) _)⟩
set_option maxHeartbeats 4000000 in
theorem labels_Decode.gap4 (n : Int) (h0 : 67584 ≤ n) (w : World) :
    Calls Try.prog 15 #[.int .i64 n] w fun e w' => e = .returned (.tuple #[.agg #[.int .i64 0, .int .i64 0], .int .i64 8]) ∧ Below w.heap.size w w' := by
  have i0 := spc_idx0
  have i1 := spc_idx1
  have i2 := spc_idx2
  have i3 := spc_idx3
  have p0 : 79 < n := by omega
  have p1 : 639 < n := by omega
  have p2 : 1088 < n := by omega
  have p3 : 67583 < n := by omega
  go_enter Try.func15, Try.ntmps15
  go_wp2_with (go_at_call 24; refine (labels_spaces.calls _ _ _ _ _ _ _ _ _ _ _ _ _ _ _ _ _ rfl).mono ?_; rintro e w' ⟨rfl, hb⟩)
  obtain ⟨hs, c0, c1, hB⟩ := spc_facts hb
  obtain ⟨f0, f1, bk⟩ := spc_frozen hb
  clear hb
  refine wp_loop_rounds 5 ?_
  rw [rounds_succ]
  go_wp2
  refine spc_step ?_ ⟨hs, c0, c1, f0, f1, hB, bk⟩ (by repeat (first | exact Below.refl _ _ | refine Below.setCell ?_ (by simp) _ | refine Below.alloc ?_ (by simp) _))
  clear hs c0 c1 f0 f1 hB bk
  rintro w' ⟨hs, c0, c1, f0, f1, hB, bk⟩
  rw [rounds_succ]
  go_wp2
  refine spc_step ?_ ⟨hs, c0, c1, f0, f1, hB, bk⟩ (by repeat (first | exact Below.refl _ _ | refine Below.setCell ?_ (by simp) _ | refine Below.alloc ?_ (by simp) _))
  clear hs c0 c1 f0 f1 hB bk
  rintro w' ⟨hs, c0, c1, f0, f1, hB, bk⟩
  rw [rounds_succ]
  go_wp2
  refine spc_step ?_ ⟨hs, c0, c1, f0, f1, hB, bk⟩ (by repeat (first | exact Below.refl _ _ | refine Below.setCell ?_ (by simp) _ | refine Below.alloc ?_ (by simp) _))
  clear hs c0 c1 f0 f1 hB bk
  rintro w' ⟨hs, c0, c1, f0, f1, hB, bk⟩
  rw [rounds_succ]
  go_wp2
  refine spc_step ?_ ⟨hs, c0, c1, f0, f1, hB, bk⟩ (by repeat (first | exact Below.refl _ _ | refine Below.setCell ?_ (by simp) _ | refine Below.alloc ?_ (by simp) _))
  clear hs c0 c1 f0 f1 hB bk
  rintro w' ⟨hs, c0, c1, f0, f1, hB, bk⟩
  rw [rounds_succ]
  go_wp2
  refine bodyPost_ret (results_ct rfl _ _ w.heap.size 30 #[.int .i64 0, .int .i64 0] (0, 0) _ rfl (by (repeat (refine blk_alloc ?_ _)); refine blk_put (cs := #[.int .i64 0, .int .i64 0]) ?_ 1 _ rfl; refine blk_put (cs := #[.int .i64 0, .int .i64 0]) ?_ 0 _ rfl; exact bk) Try.underlying30 rfl (by kernel_rfl)) rfl ?_
  exact ⟨rfl, by repeat (first | exact hB | refine Below.setCell ?_ (by first | exact Nat.le_refl _ | (simp; done) | (simp; omega) | omega) _ | refine Below.alloc ?_ (by have := hB.size; simp; omega) _)⟩
def labels_Decode.f (a0 : Int) : Option (Int × Int × Int) := if 16 ≤ a0 ∧ a0 ≤ 79 then some (1, a0 - 16, 0) else if 128 ≤ a0 ∧ a0 ≤ 639 then some (2, a0 - 128, 0) else if 1025 ≤ a0 ∧ a0 ≤ 1088 then some (3, a0 - 1024, 0) else if 2048 ≤ a0 ∧ a0 ≤ 67583 then some (4, a0 - 2048, 0) else some (0, 0, 8)
theorem labels_Decode.calls (a0 : Int) (r1 : Int) (r2 : Int) (r3 : Int) (w : World) (h : labels_Decode.f a0 = some (r1, r2, r3)) :
    Calls Try.prog 15 #[.int .i64 a0] w fun e w' => e = .returned (.tuple #[.agg #[.int .i64 r1, .int .i64 r2], .int .i64 r3]) ∧ Below w.heap.size w w' := by
  unfold labels_Decode.f at h
  by_cases h1 : 16 ≤ a0 ∧ a0 ≤ 79
  · rw [if_pos h1] at h
    obtain ⟨rfl, h'⟩ := Prod.mk.inj (Option.some.inj h)
    obtain ⟨rfl, rfl⟩ := Prod.mk.inj h'
    exact labels_Decode.at1 a0 h1.1 h1.2 w
  by_cases h2 : 128 ≤ a0 ∧ a0 ≤ 639
  · rw [if_neg h1, if_pos h2] at h
    obtain ⟨rfl, h'⟩ := Prod.mk.inj (Option.some.inj h)
    obtain ⟨rfl, rfl⟩ := Prod.mk.inj h'
    exact labels_Decode.at2 a0 h2.1 h2.2 w
  by_cases h3 : 1025 ≤ a0 ∧ a0 ≤ 1088
  · rw [if_neg h1, if_neg h2, if_pos h3] at h
    obtain ⟨rfl, h'⟩ := Prod.mk.inj (Option.some.inj h)
    obtain ⟨rfl, rfl⟩ := Prod.mk.inj h'
    exact labels_Decode.at3 a0 h3.1 h3.2 w
  by_cases h4 : 2048 ≤ a0 ∧ a0 ≤ 67583
  · rw [if_neg h1, if_neg h2, if_neg h3, if_pos h4] at h
    obtain ⟨rfl, h'⟩ := Prod.mk.inj (Option.some.inj h)
    obtain ⟨rfl, rfl⟩ := Prod.mk.inj h'
    exact labels_Decode.at4 a0 h4.1 h4.2 w
  rw [if_neg h1, if_neg h2, if_neg h3, if_neg h4] at h
  obtain ⟨rfl, h'⟩ := Prod.mk.inj (Option.some.inj h)
  obtain ⟨rfl, rfl⟩ := Prod.mk.inj h'
  by_cases g0 : a0 ≤ 15
  · exact labels_Decode.gap0 a0 g0 w
  by_cases g1 : a0 ≤ 127
  · exact labels_Decode.gap1 a0 (by omega) g1 w
  by_cases g2 : a0 ≤ 1024
  · exact labels_Decode.gap2 a0 (by omega) g2 w
  by_cases g3 : a0 ≤ 2047
  · exact labels_Decode.gap3 a0 (by omega) g3 w
  exact labels_Decode.gap4 a0 (by omega) w

end Go.Proofs.Ytbphaaaobgmejaa.PT19

-- WRITTEN BY mygen.py, a program of mine over the kit's print; Lean checks every row
import Derived.Test.YtbphaaaobgmejaaPT190
import Derived.Test.YtbphaaaobgmejaaPT192
namespace Go.Proofs.Ytbphaaaobgmejaa.PT19
open Go.RowKit Go.Proofs.YtbphaaaobgmejaaW.PrintWords Go.Proofs.YtbphaaaobgmejaaW.PrintLast Go.Proofs.YtbphaaaobgmejaaW.PrintMore
attribute [local go_sem] max2_int min2_int max_two min_two max_three min_three max_four min_four   -- for this text's walks alone
set_option linter.unusedVariables false
set_option linter.unusedSimpArgs false

/-! ### labels_Encode: function 13 -/
abbrev spcs : Value := .agg #[.int .i64 1, .int .i64 16, .int .i64 0, .int .i64 63, .int .i64 2, .int .i64 128, .int .i64 0, .int .i64 511, .int .i64 3, .int .i64 1024, .int .i64 1, .int .i64 64, .int .i64 4, .int .i64 2048, .int .i64 0, .int .i64 65535]
theorem spc_idx0 (w : World) : (Instr.index 50 spcs (.int .i64 0)).run Try.prog w = .ok (.agg #[.int .i64 1, .int .i64 16, .int .i64 0, .int .i64 63]) w := by kernel_rfl
theorem spc_idx1 (w : World) : (Instr.index 50 spcs (.int .i64 1)).run Try.prog w = .ok (.agg #[.int .i64 2, .int .i64 128, .int .i64 0, .int .i64 511]) w := by kernel_rfl
theorem spc_idx2 (w : World) : (Instr.index 50 spcs (.int .i64 2)).run Try.prog w = .ok (.agg #[.int .i64 3, .int .i64 1024, .int .i64 1, .int .i64 64]) w := by kernel_rfl
theorem spc_idx3 (w : World) : (Instr.index 50 spcs (.int .i64 3)).run Try.prog w = .ok (.agg #[.int .i64 4, .int .i64 2048, .int .i64 0, .int .i64 65535]) w := by kernel_rfl
theorem spc_facts {w w' : World} {a b : Value} (hb : Below (w.alloc (.cells #[a, b] 30)).heap.size (w.alloc (.cells #[a, b] 30)) w') : w.heap.size < w'.heap.size ∧ w'.cell? ⟨w.heap.size, 0, none⟩ = some a ∧ w'.cell? ⟨w.heap.size, 1, none⟩ = some b ∧ Below w.heap.size w w' := by
  have hs := hb.size
  simp at hs
  refine ⟨by omega, ?_, ?_, ((Below.refl _ _).alloc (Nat.le_refl _) _).trans (hb.mono (by simp))⟩
  · rw [hb.cell (p := ⟨w.heap.size, 0, none⟩) (by simp)]
    exact World.cell?_alloc_new ..
  · rw [hb.cell (p := ⟨w.heap.size, 1, none⟩) (by simp)]
    exact World.cell?_alloc_new ..
def SpcF (w w' : World) (a b : Value) : Prop := w.heap.size < w'.heap.size ∧ w'.cell? ⟨w.heap.size, 0, none⟩ = some a ∧ w'.cell? ⟨w.heap.size, 1, none⟩ = some b ∧ w'.frozen? ⟨w.heap.size, 0, none⟩ = false ∧ w'.frozen? ⟨w.heap.size, 1, none⟩ = false ∧ Below w.heap.size w w' ∧ w'.heap[w.heap.size]? = some (.cells #[a, b] 30 (0, 0))
theorem spc_step {P : Program} {c : Code} {Q : Exit → Act → World → Prop} {m : Nat} {act : Act} {w w' W : World} {a b : Value} (h : ∀ W', SpcF w W' a b → Code.rounds P c Q m act W') (hF : SpcF w w' a b) (h2 : Below w'.heap.size w' W) : Code.rounds P c Q m act W := by
  obtain ⟨hs, c0, c1, f0, f1, hB, bk⟩ := hF
  refine h W ⟨Nat.lt_of_lt_of_le hs h2.size, ?_, ?_, ?_, ?_, hB.trans (h2.mono (Nat.le_of_lt hs)), blk_below bk h2⟩
  · rw [h2.cell (p := ⟨w.heap.size, 0, none⟩) hs, c0]
  · rw [h2.cell (p := ⟨w.heap.size, 1, none⟩) hs, c1]
  · rw [h2.frozen (p := ⟨w.heap.size, 0, none⟩) hs, f0]
  · rw [h2.frozen (p := ⟨w.heap.size, 1, none⟩) hs, f1]
theorem spc_frozen {w w' : World} {a b : Value} (hb : Below (w.alloc (.cells #[a, b] 30)).heap.size (w.alloc (.cells #[a, b] 30)) w') : w'.frozen? ⟨w.heap.size, 0, none⟩ = false ∧ w'.frozen? ⟨w.heap.size, 1, none⟩ = false ∧ w'.heap[w.heap.size]? = some (.cells #[a, b] 30 (0, 0)) := by
  refine ⟨?_, ?_, blk_below (blk_new w _) hb⟩
  · rw [hb.frozen (p := ⟨w.heap.size, 0, none⟩) (by simp)]
    simp
  · rw [hb.frozen (p := ⟨w.heap.size, 1, none⟩) (by simp)]
    simp
set_option maxHeartbeats 4000000 in
theorem labels_Encode.low1 (n : Int) (h : n < 0) (w : World) :
    Calls Try.prog 13 #[.agg #[.int .i64 1, .int .i64 n]] w fun e w' => e = .returned (.tuple #[.int .i64 0, .int .i64 2]) ∧ Below w.heap.size w w' := by
  have i0 := spc_idx0
  have i1 := spc_idx1
  have i2 := spc_idx2
  have i3 := spc_idx3
  go_enter Try.func13, Try.ntmps13
  go_wp2_with (go_at_call 24; refine (labels_spaces.calls _ _ _ _ _ _ _ _ _ _ _ _ _ _ _ _ _ rfl).mono ?_; rintro e w' ⟨rfl, hb⟩)
  obtain ⟨hs, c0, c1, hB⟩ := spc_facts hb
  obtain ⟨f0, f1, bk⟩ := spc_frozen hb
  clear hb
  refine wp_loop_rounds 5 ?_
  rw [rounds_succ]
  go_wp2
  go_ret2
  exact ⟨rfl, by repeat (first | exact hB | refine Below.setCell ?_ (by first | exact Nat.le_refl _ | (simp; done) | (simp; omega) | omega) _ | refine Below.alloc ?_ (by have := hB.size; simp; omega) _)⟩
set_option maxHeartbeats 4000000 in
theorem labels_Encode.high1 (n : Int) (h0 : 0 ≤ n) (h : 63 < n) (w : World) :
    Calls Try.prog 13 #[.agg #[.int .i64 1, .int .i64 n]] w fun e w' => e = .returned (.tuple #[.int .i64 0, .int .i64 2]) ∧ Below w.heap.size w w' := by
  have i0 := spc_idx0
  have i1 := spc_idx1
  have i2 := spc_idx2
  have i3 := spc_idx3
  go_enter Try.func13, Try.ntmps13
  go_wp2_with (go_at_call 24; refine (labels_spaces.calls _ _ _ _ _ _ _ _ _ _ _ _ _ _ _ _ _ rfl).mono ?_; rintro e w' ⟨rfl, hb⟩)
  obtain ⟨hs, c0, c1, hB⟩ := spc_facts hb
  obtain ⟨f0, f1, bk⟩ := spc_frozen hb
  clear hb
  refine wp_loop_rounds 5 ?_
  rw [rounds_succ]
  go_wp2
  go_ret2
  exact ⟨rfl, by repeat (first | exact hB | refine Below.setCell ?_ (by first | exact Nat.le_refl _ | (simp; done) | (simp; omega) | omega) _ | refine Below.alloc ?_ (by have := hB.size; simp; omega) _)⟩
set_option maxHeartbeats 4000000 in
theorem labels_Encode.fits1 (n : Int) (h0 : 0 ≤ n) (h1 : n ≤ 63) (w : World) :
    Calls Try.prog 13 #[.agg #[.int .i64 1, .int .i64 n]] w fun e w' => e = .returned (.tuple #[.int .i64 (16 + n), .int .i64 0]) ∧ Below w.heap.size w w' := by
  have i0 := spc_idx0
  have i1 := spc_idx1
  have i2 := spc_idx2
  have i3 := spc_idx3
  go_enter Try.func13, Try.ntmps13
  go_wp2_with (go_at_call 24; refine (labels_spaces.calls _ _ _ _ _ _ _ _ _ _ _ _ _ _ _ _ _ rfl).mono ?_; rintro e w' ⟨rfl, hb⟩)
  obtain ⟨hs, c0, c1, hB⟩ := spc_facts hb
  obtain ⟨f0, f1, bk⟩ := spc_frozen hb
  clear hb
  refine wp_loop_rounds 5 ?_
  rw [rounds_succ]
  go_wp2
  go_ret2
  exact ⟨rfl, by repeat (first | exact hB | refine Below.setCell ?_ (by first | exact Nat.le_refl _ | (simp; done) | (simp; omega) | omega) _ | refine Below.alloc ?_ (by have := hB.size; simp; omega) _)⟩
set_option maxHeartbeats 4000000 in
theorem labels_Encode.low2 (n : Int) (h : n < 0) (w : World) :
    Calls Try.prog 13 #[.agg #[.int .i64 2, .int .i64 n]] w fun e w' => e = .returned (.tuple #[.int .i64 0, .int .i64 2]) ∧ Below w.heap.size w w' := by
  have i0 := spc_idx0
  have i1 := spc_idx1
  have i2 := spc_idx2
  have i3 := spc_idx3
  go_enter Try.func13, Try.ntmps13
  go_wp2_with (go_at_call 24; refine (labels_spaces.calls _ _ _ _ _ _ _ _ _ _ _ _ _ _ _ _ _ rfl).mono ?_; rintro e w' ⟨rfl, hb⟩)
  obtain ⟨hs, c0, c1, hB⟩ := spc_facts hb
  obtain ⟨f0, f1, bk⟩ := spc_frozen hb
  clear hb
  refine wp_loop_rounds 5 ?_
  rw [rounds_succ]
  go_wp2
  refine spc_step ?_ ⟨hs, c0, c1, f0, f1, hB, bk⟩ (by repeat (first | exact Below.refl _ _ | refine Below.setCell ?_ (by simp) _ | refine Below.alloc ?_ (by simp) _))
  clear hs c0 c1 f0 f1 hB bk
  rintro w' ⟨hs, c0, c1, f0, f1, hB, bk⟩
  rw [rounds_succ]
  go_wp2
  go_ret2
  exact ⟨rfl, by repeat (first | exact hB | refine Below.setCell ?_ (by first | exact Nat.le_refl _ | (simp; done) | (simp; omega) | omega) _ | refine Below.alloc ?_ (by have := hB.size; simp; omega) _)⟩
set_option maxHeartbeats 4000000 in
theorem labels_Encode.high2 (n : Int) (h0 : 0 ≤ n) (h : 511 < n) (w : World) :
    Calls Try.prog 13 #[.agg #[.int .i64 2, .int .i64 n]] w fun e w' => e = .returned (.tuple #[.int .i64 0, .int .i64 2]) ∧ Below w.heap.size w w' := by
  have i0 := spc_idx0
  have i1 := spc_idx1
  have i2 := spc_idx2
  have i3 := spc_idx3
  go_enter Try.func13, Try.ntmps13
  go_wp2_with (go_at_call 24; refine (labels_spaces.calls _ _ _ _ _ _ _ _ _ _ _ _ _ _ _ _ _ rfl).mono ?_; rintro e w' ⟨rfl, hb⟩)
  obtain ⟨hs, c0, c1, hB⟩ := spc_facts hb
  obtain ⟨f0, f1, bk⟩ := spc_frozen hb
  clear hb
  refine wp_loop_rounds 5 ?_
  rw [rounds_succ]
  go_wp2
  refine spc_step ?_ ⟨hs, c0, c1, f0, f1, hB, bk⟩ (by repeat (first | exact Below.refl _ _ | refine Below.setCell ?_ (by simp) _ | refine Below.alloc ?_ (by simp) _))
  clear hs c0 c1 f0 f1 hB bk
  rintro w' ⟨hs, c0, c1, f0, f1, hB, bk⟩
  rw [rounds_succ]
  go_wp2
  go_ret2
  exact ⟨rfl, by repeat (first | exact hB | refine Below.setCell ?_ (by first | exact Nat.le_refl _ | (simp; done) | (simp; omega) | omega) _ | refine Below.alloc ?_ (by have := hB.size; simp; omega) _)⟩
set_option maxHeartbeats 4000000 in
theorem labels_Encode.fits2 (n : Int) (h0 : 0 ≤ n) (h1 : n ≤ 511) (w : World) :
    Calls Try.prog 13 #[.agg #[.int .i64 2, .int .i64 n]] w fun e w' => e = .returned (.tuple #[.int .i64 (128 + n), .int .i64 0]) ∧ Below w.heap.size w w' := by
  have i0 := spc_idx0
  have i1 := spc_idx1
  have i2 := spc_idx2
  have i3 := spc_idx3
  go_enter Try.func13, Try.ntmps13
  go_wp2_with (go_at_call 24; refine (labels_spaces.calls _ _ _ _ _ _ _ _ _ _ _ _ _ _ _ _ _ rfl).mono ?_; rintro e w' ⟨rfl, hb⟩)
  obtain ⟨hs, c0, c1, hB⟩ := spc_facts hb
  obtain ⟨f0, f1, bk⟩ := spc_frozen hb
  clear hb
  refine wp_loop_rounds 5 ?_
  rw [rounds_succ]
  go_wp2
  refine spc_step ?_ ⟨hs, c0, c1, f0, f1, hB, bk⟩ (by repeat (first | exact Below.refl _ _ | refine Below.setCell ?_ (by simp) _ | refine Below.alloc ?_ (by simp) _))
  clear hs c0 c1 f0 f1 hB bk
  rintro w' ⟨hs, c0, c1, f0, f1, hB, bk⟩
  rw [rounds_succ]
  go_wp2
  go_ret2
  exact ⟨rfl, by repeat (first | exact hB | refine Below.setCell ?_ (by first | exact Nat.le_refl _ | (simp; done) | (simp; omega) | omega) _ | refine Below.alloc ?_ (by have := hB.size; simp; omega) _)⟩
set_option maxHeartbeats 4000000 in
theorem labels_Encode.low3 (n : Int) (h : n < 1) (w : World) :
    Calls Try.prog 13 #[.agg #[.int .i64 3, .int .i64 n]] w fun e w' => e = .returned (.tuple #[.int .i64 0, .int .i64 2]) ∧ Below w.heap.size w w' := by
  have i0 := spc_idx0
  have i1 := spc_idx1
  have i2 := spc_idx2
  have i3 := spc_idx3
  go_enter Try.func13, Try.ntmps13
  go_wp2_with (go_at_call 24; refine (labels_spaces.calls _ _ _ _ _ _ _ _ _ _ _ _ _ _ _ _ _ rfl).mono ?_; rintro e w' ⟨rfl, hb⟩)
  obtain ⟨hs, c0, c1, hB⟩ := spc_facts hb
  obtain ⟨f0, f1, bk⟩ := spc_frozen hb
  clear hb
  refine wp_loop_rounds 5 ?_
  rw [rounds_succ]
  go_wp2
  refine spc_step ?_ ⟨hs, c0, c1, f0, f1, hB, bk⟩ (by repeat (first | exact Below.refl _ _ | refine Below.setCell ?_ (by simp) _ | refine Below.alloc ?_ (by simp) _))
  clear hs c0 c1 f0 f1 hB bk
  rintro w' ⟨hs, c0, c1, f0, f1, hB, bk⟩
  rw [rounds_succ]
  go_wp2
  refine spc_step ?_ ⟨hs, c0, c1, f0, f1, hB, bk⟩ (by repeat (first | exact Below.refl _ _ | refine Below.setCell ?_ (by simp) _ | refine Below.alloc ?_ (by simp) _))
  clear hs c0 c1 f0 f1 hB bk
  rintro w' ⟨hs, c0, c1, f0, f1, hB, bk⟩
  rw [rounds_succ]
  go_wp2
  go_ret2
  exact ⟨rfl, by repeat (first | exact hB | refine Below.setCell ?_ (by first | exact Nat.le_refl _ | (simp; done) | (simp; omega) | omega) _ | refine Below.alloc ?_ (by have := hB.size; simp; omega) _)⟩
set_option maxHeartbeats 4000000 in
theorem labels_Encode.high3 (n : Int) (h0 : 1 ≤ n) (h : 64 < n) (w : World) :
    Calls Try.prog 13 #[.agg #[.int .i64 3, .int .i64 n]] w fun e w' => e = .returned (.tuple #[.int .i64 0, .int .i64 2]) ∧ Below w.heap.size w w' := by
  have i0 := spc_idx0
  have i1 := spc_idx1
  have i2 := spc_idx2
  have i3 := spc_idx3
  go_enter Try.func13, Try.ntmps13
  go_wp2_with (go_at_call 24; refine (labels_spaces.calls _ _ _ _ _ _ _ _ _ _ _ _ _ _ _ _ _ rfl).mono ?_; rintro e w' ⟨rfl, hb⟩)
  obtain ⟨hs, c0, c1, hB⟩ := spc_facts hb
  obtain ⟨f0, f1, bk⟩ := spc_frozen hb
  clear hb
  refine wp_loop_rounds 5 ?_
  rw [rounds_succ]
  go_wp2
  refine spc_step ?_ ⟨hs, c0, c1, f0, f1, hB, bk⟩ (by repeat (first | exact Below.refl _ _ | refine Below.setCell ?_ (by simp) _ | refine Below.alloc ?_ (by simp) _))
  clear hs c0 c1 f0 f1 hB bk
  rintro w' ⟨hs, c0, c1, f0, f1, hB, bk⟩
  rw [rounds_succ]
  go_wp2
  refine spc_step ?_ ⟨hs, c0, c1, f0, f1, hB, bk⟩ (by repeat (first | exact Below.refl _ _ | refine Below.setCell ?_ (by simp) _ | refine Below.alloc ?_ (by simp) _))
  clear hs c0 c1 f0 f1 hB bk
  rintro w' ⟨hs, c0, c1, f0, f1, hB, bk⟩
  rw [rounds_succ]
  go_wp2
  go_ret2
  exact ⟨rfl, by repeat (first | exact hB | refine Below.setCell ?_ (by first | exact Nat.le_refl _ | (simp; done) | (simp; omega) | omega) _ | refine Below.alloc ?_ (by have := hB.size; simp; omega) _)⟩
set_option maxHeartbeats 4000000 in
theorem labels_Encode.fits3 (n : Int) (h0 : 1 ≤ n) (h1 : n ≤ 64) (w : World) :
    Calls Try.prog 13 #[.agg #[.int .i64 3, .int .i64 n]] w fun e w' => e = .returned (.tuple #[.int .i64 (1024 + n), .int .i64 0]) ∧ Below w.heap.size w w' := by
  have i0 := spc_idx0
  have i1 := spc_idx1
  have i2 := spc_idx2
  have i3 := spc_idx3
  go_enter Try.func13, Try.ntmps13
  go_wp2_with (go_at_call 24; refine (labels_spaces.calls _ _ _ _ _ _ _ _ _ _ _ _ _ _ _ _ _ rfl).mono ?_; rintro e w' ⟨rfl, hb⟩)
  obtain ⟨hs, c0, c1, hB⟩ := spc_facts hb
  obtain ⟨f0, f1, bk⟩ := spc_frozen hb
  clear hb
  refine wp_loop_rounds 5 ?_
  rw [rounds_succ]
  go_wp2
  refine spc_step ?_ ⟨hs, c0, c1, f0, f1, hB, bk⟩ (by repeat (first | exact Below.refl _ _ | refine Below.setCell ?_ (by simp) _ | refine Below.alloc ?_ (by simp) _))
  clear hs c0 c1 f0 f1 hB bk
  rintro w' ⟨hs, c0, c1, f0, f1, hB, bk⟩
  rw [rounds_succ]
  go_wp2
  refine spc_step ?_ ⟨hs, c0, c1, f0, f1, hB, bk⟩ (by repeat (first | exact Below.refl _ _ | refine Below.setCell ?_ (by simp) _ | refine Below.alloc ?_ (by simp) _))
  clear hs c0 c1 f0 f1 hB bk
  rintro w' ⟨hs, c0, c1, f0, f1, hB, bk⟩
  rw [rounds_succ]
  go_wp2
  go_ret2
  exact ⟨rfl, by repeat (first | exact hB | refine Below.setCell ?_ (by first | exact Nat.le_refl _ | (simp; done) | (simp; omega) | omega) _ | refine Below.alloc ?_ (by have := hB.size; simp; omega) _)⟩
set_option maxHeartbeats 4000000 in
theorem labels_Encode.low4 (n : Int) (h : n < 0) (w : World) :
    Calls Try.prog 13 #[.agg #[.int .i64 4, .int .i64 n]] w fun e w' => e = .returned (.tuple #[.int .i64 0, .int .i64 2]) ∧ Below w.heap.size w w' := by
  have i0 := spc_idx0
  have i1 := spc_idx1
  have i2 := spc_idx2
  have i3 := spc_idx3
  go_enter Try.func13, Try.ntmps13
  go_wp2_with (go_at_call 24; refine (labels_spaces.calls _ _ _ _ _ _ _ _ _ _ _ _ _ _ _ _ _ rfl).mono ?_; rintro e w' ⟨rfl, hb⟩)
  obtain ⟨hs, c0, c1, hB⟩ := spc_facts hb
  obtain ⟨f0, f1, bk⟩ := spc_frozen hb
  clear hb
  refine wp_loop_rounds 5 ?_
  rw [rounds_succ]
  go_wp2
  refine spc_step ?_ ⟨hs, c0, c1, f0, f1, hB, bk⟩ (by repeat (first | exact Below.refl _ _ | refine Below.setCell ?_ (by simp) _ | refine Below.alloc ?_ (by simp) _))
  clear hs c0 c1 f0 f1 hB bk
  rintro w' ⟨hs, c0, c1, f0, f1, hB, bk⟩
  rw [rounds_succ]
  go_wp2
  refine spc_step ?_ ⟨hs, c0, c1, f0, f1, hB, bk⟩ (by repeat (first | exact Below.refl _ _ | refine Below.setCell ?_ (by simp) _ | refine Below.alloc ?_ (by simp) _))
  clear hs c0 c1 f0 f1 hB bk
  rintro w' ⟨hs, c0, c1, f0, f1, hB, bk⟩
  rw [rounds_succ]
  go_wp2
  refine spc_step ?_ ⟨hs, c0, c1, f0, f1, hB, bk⟩ (by repeat (first | exact Below.refl _ _ | refine Below.setCell ?_ (by simp) _ | refine Below.alloc ?_ (by simp) _))
  clear hs c0 c1 f0 f1 hB bk
  rintro w' ⟨hs, c0, c1, f0, f1, hB, bk⟩
  rw [rounds_succ]
  go_wp2
  go_ret2
  exact ⟨rfl, by repeat (first | exact hB | refine Below.setCell ?_ (by first | exact Nat.le_refl _ | (simp; done) | (simp; omega) | omega) _ | refine Below.alloc ?_ (by have := hB.size; simp; omega) _)⟩
set_option maxHeartbeats 4000000 in
theorem labels_Encode.high4 (n : Int) (h0 : 0 ≤ n) (h : 65535 < n) (w : World) :
    Calls Try.prog 13 #[.agg #[.int .i64 4, .int .i64 n]] w fun e w' => e = .returned (.tuple #[.int .i64 0, .int .i64 2]) ∧ Below w.heap.size w w' := by
  have i0 := spc_idx0
  have i1 := spc_idx1
  have i2 := spc_idx2
  have i3 := spc_idx3
  go_enter Try.func13, Try.ntmps13
  go_wp2_with (go_at_call 24; refine (labels_spaces.calls _ _ _ _ _ _ _ _ _ _ _ _ _ _ _ _ _ rfl).mono ?_; rintro e w' ⟨rfl, hb⟩)
  obtain ⟨hs, c0, c1, hB⟩ := spc_facts hb
  obtain ⟨f0, f1, bk⟩ := spc_frozen hb
  clear hb
  refine wp_loop_rounds 5 ?_
  rw [rounds_succ]
  go_wp2
  refine spc_step ?_ ⟨hs, c0, c1, f0, f1, hB, bk⟩ (by repeat (first | exact Below.refl _ _ | refine Below.setCell ?_ (by simp) _ | refine Below.alloc ?_ (by simp) _))
  clear hs c0 c1 f0 f1 hB bk
  rintro w' ⟨hs, c0, c1, f0, f1, hB, bk⟩
  rw [rounds_succ]
  go_wp2
  refine spc_step ?_ ⟨hs, c0, c1, f0, f1, hB, bk⟩ (by repeat (first | exact Below.refl _ _ | refine Below.setCell ?_ (by simp) _ | refine Below.alloc ?_ (by simp) _))
  clear hs c0 c1 f0 f1 hB bk
  rintro w' ⟨hs, c0, c1, f0, f1, hB, bk⟩
  rw [rounds_succ]
  go_wp2
  refine spc_step ?_ ⟨hs, c0, c1, f0, f1, hB, bk⟩ (by repeat (first | exact Below.refl _ _ | refine Below.setCell ?_ (by simp) _ | refine Below.alloc ?_ (by simp) _))
  clear hs c0 c1 f0 f1 hB bk
  rintro w' ⟨hs, c0, c1, f0, f1, hB, bk⟩
  rw [rounds_succ]
  go_wp2
  go_ret2
  exact ⟨rfl, by repeat (first | exact hB | refine Below.setCell ?_ (by first | exact Nat.le_refl _ | (simp; done) | (simp; omega) | omega) _ | refine Below.alloc ?_ (by have := hB.size; simp; omega) _)⟩
set_option maxHeartbeats 4000000 in
theorem labels_Encode.fits4 (n : Int) (h0 : 0 ≤ n) (h1 : n ≤ 65535) (w : World) :
    Calls Try.prog 13 #[.agg #[.int .i64 4, .int .i64 n]] w fun e w' => e = .returned (.tuple #[.int .i64 (2048 + n), .int .i64 0]) ∧ Below w.heap.size w w' := by
  have i0 := spc_idx0
  have i1 := spc_idx1
  have i2 := spc_idx2
  have i3 := spc_idx3
  go_enter Try.func13, Try.ntmps13
  go_wp2_with (go_at_call 24; refine (labels_spaces.calls _ _ _ _ _ _ _ _ _ _ _ _ _ _ _ _ _ rfl).mono ?_; rintro e w' ⟨rfl, hb⟩)
  obtain ⟨hs, c0, c1, hB⟩ := spc_facts hb
  obtain ⟨f0, f1, bk⟩ := spc_frozen hb
  clear hb
  refine wp_loop_rounds 5 ?_
  rw [rounds_succ]
  go_wp2
  refine spc_step ?_ ⟨hs, c0, c1, f0, f1, hB, bk⟩ (by repeat (first | exact Below.refl _ _ | refine Below.setCell ?_ (by simp) _ | refine Below.alloc ?_ (by simp) _))
  clear hs c0 c1 f0 f1 hB bk
  rintro w' ⟨hs, c0, c1, f0, f1, hB, bk⟩
  rw [rounds_succ]
  go_wp2
  refine spc_step ?_ ⟨hs, c0, c1, f0, f1, hB, bk⟩ (by repeat (first | exact Below.refl _ _ | refine Below.setCell ?_ (by simp) _ | refine Below.alloc ?_ (by simp) _))
  clear hs c0 c1 f0 f1 hB bk
  rintro w' ⟨hs, c0, c1, f0, f1, hB, bk⟩
  rw [rounds_succ]
  go_wp2
  refine spc_step ?_ ⟨hs, c0, c1, f0, f1, hB, bk⟩ (by repeat (first | exact Below.refl _ _ | refine Below.setCell ?_ (by simp) _ | refine Below.alloc ?_ (by simp) _))
  clear hs c0 c1 f0 f1 hB bk
  rintro w' ⟨hs, c0, c1, f0, f1, hB, bk⟩
  rw [rounds_succ]
  go_wp2
  go_ret2
  exact ⟨rfl, by repeat (first | exact hB | refine Below.setCell ?_ (by first | exact Nat.le_refl _ | (simp; done) | (simp; omega) | omega) _ | refine Below.alloc ?_ (by have := hB.size; simp; omega) _)⟩
set_option maxHeartbeats 4000000 in
theorem labels_Encode.others (n : Int) (a : Int) (h1 : a ≠ 1) (h2 : a ≠ 2) (h3 : a ≠ 3) (h4 : a ≠ 4) (w : World) :
    Calls Try.prog 13 #[.agg #[.int .i64 a, .int .i64 n]] w fun e w' => e = .returned (.tuple #[.int .i64 0, .int .i64 1]) ∧ Below w.heap.size w w' := by
  have i0 := spc_idx0
  have i1 := spc_idx1
  have i2 := spc_idx2
  have i3 := spc_idx3
  have g1 : ((1 : Int) != a) = true := bne_iff_ne.2 (Ne.symm h1)
  clear h1
  have g2 : ((2 : Int) != a) = true := bne_iff_ne.2 (Ne.symm h2)
  clear h2
  have g3 : ((3 : Int) != a) = true := bne_iff_ne.2 (Ne.symm h3)
  clear h3
  have g4 : ((4 : Int) != a) = true := bne_iff_ne.2 (Ne.symm h4)
  clear h4
  go_enter Try.func13, Try.ntmps13
  go_wp2_with (go_at_call 24; refine (labels_spaces.calls _ _ _ _ _ _ _ _ _ _ _ _ _ _ _ _ _ rfl).mono ?_; rintro e w' ⟨rfl, hb⟩)
  obtain ⟨hs, c0, c1, hB⟩ := spc_facts hb
  obtain ⟨f0, f1, bk⟩ := spc_frozen hb
  clear hb
  refine wp_loop_rounds 5 ?_
  rw [rounds_succ]
  go_wp2
  refine spc_step ?_ ⟨hs, c0, c1, f0, f1, hB, bk⟩ (by repeat (first | exact Below.refl _ _ | refine Below.setCell ?_ (by simp) _ | refine Below.alloc ?_ (by simp) _))
  clear hs c0 c1 f0 f1 hB bk
  rintro w' ⟨hs, c0, c1, f0, f1, hB, bk⟩
  rw [rounds_succ]
  go_wp2
  refine spc_step ?_ ⟨hs, c0, c1, f0, f1, hB, bk⟩ (by repeat (first | exact Below.refl _ _ | refine Below.setCell ?_ (by simp) _ | refine Below.alloc ?_ (by simp) _))
  clear hs c0 c1 f0 f1 hB bk
  rintro w' ⟨hs, c0, c1, f0, f1, hB, bk⟩
  rw [rounds_succ]
  go_wp2
  refine spc_step ?_ ⟨hs, c0, c1, f0, f1, hB, bk⟩ (by repeat (first | exact Below.refl _ _ | refine Below.setCell ?_ (by simp) _ | refine Below.alloc ?_ (by simp) _))
  clear hs c0 c1 f0 f1 hB bk
  rintro w' ⟨hs, c0, c1, f0, f1, hB, bk⟩
  rw [rounds_succ]
  go_wp2
  refine spc_step ?_ ⟨hs, c0, c1, f0, f1, hB, bk⟩ (by repeat (first | exact Below.refl _ _ | refine Below.setCell ?_ (by simp) _ | refine Below.alloc ?_ (by simp) _))
  clear hs c0 c1 f0 f1 hB bk
  rintro w' ⟨hs, c0, c1, f0, f1, hB, bk⟩
  rw [rounds_succ]
  go_wp2
  go_ret2
  exact ⟨rfl, by repeat (first | exact hB | refine Below.setCell ?_ (by first | exact Nat.le_refl _ | (simp; done) | (simp; omega) | omega) _ | refine Below.alloc ?_ (by have := hB.size; simp; omega) _)⟩
def labels_Encode.one (lo hi base n : Int) : Option (Int × Int) := if n < lo then some (0, 2) else if hi < n then some (0, 2) else some (base + n, 0)
def labels_Encode.f (a0_0 : Int) (a0_1 : Int) : Option (Int × Int) := if a0_0 = 1 then labels_Encode.one 0 63 16 a0_1 else if a0_0 = 2 then labels_Encode.one 0 511 128 a0_1 else if a0_0 = 3 then labels_Encode.one 1 64 1024 a0_1 else if a0_0 = 4 then labels_Encode.one 0 65535 2048 a0_1 else some (0, 1)
theorem labels_Encode.calls (a0_0 : Int) (a0_1 : Int) (r1 : Int) (r2 : Int) (w : World) (h : labels_Encode.f a0_0 a0_1 = some (r1, r2)) :
    Calls Try.prog 13 #[.agg #[.int .i64 a0_0, .int .i64 a0_1]] w fun e w' => e = .returned (.tuple #[.int .i64 r1, .int .i64 r2]) ∧ Below w.heap.size w w' := by
  unfold labels_Encode.f labels_Encode.one at h
  by_cases h1 : a0_0 = 1
  · subst h1
    rw [if_pos rfl] at h
    by_cases g0 : a0_1 < 0
    · rw [if_pos g0] at h
      obtain ⟨rfl, rfl⟩ := Prod.mk.inj (Option.some.inj h)
      exact labels_Encode.low1 a0_1 g0 w
    rw [if_neg g0] at h
    by_cases g1 : 63 < a0_1
    · rw [if_pos g1] at h
      obtain ⟨rfl, rfl⟩ := Prod.mk.inj (Option.some.inj h)
      exact labels_Encode.high1 a0_1 (by omega) g1 w
    rw [if_neg g1] at h
    obtain ⟨rfl, rfl⟩ := Prod.mk.inj (Option.some.inj h)
    exact labels_Encode.fits1 a0_1 (by omega) (by omega) w
  by_cases h2 : a0_0 = 2
  · subst h2
    rw [if_neg h1, if_pos rfl] at h
    by_cases g0 : a0_1 < 0
    · rw [if_pos g0] at h
      obtain ⟨rfl, rfl⟩ := Prod.mk.inj (Option.some.inj h)
      exact labels_Encode.low2 a0_1 g0 w
    rw [if_neg g0] at h
    by_cases g1 : 511 < a0_1
    · rw [if_pos g1] at h
      obtain ⟨rfl, rfl⟩ := Prod.mk.inj (Option.some.inj h)
      exact labels_Encode.high2 a0_1 (by omega) g1 w
    rw [if_neg g1] at h
    obtain ⟨rfl, rfl⟩ := Prod.mk.inj (Option.some.inj h)
    exact labels_Encode.fits2 a0_1 (by omega) (by omega) w
  by_cases h3 : a0_0 = 3
  · subst h3
    rw [if_neg h1, if_neg h2, if_pos rfl] at h
    by_cases g0 : a0_1 < 1
    · rw [if_pos g0] at h
      obtain ⟨rfl, rfl⟩ := Prod.mk.inj (Option.some.inj h)
      exact labels_Encode.low3 a0_1 g0 w
    rw [if_neg g0] at h
    by_cases g1 : 64 < a0_1
    · rw [if_pos g1] at h
      obtain ⟨rfl, rfl⟩ := Prod.mk.inj (Option.some.inj h)
      exact labels_Encode.high3 a0_1 (by omega) g1 w
    rw [if_neg g1] at h
    obtain ⟨rfl, rfl⟩ := Prod.mk.inj (Option.some.inj h)
    exact labels_Encode.fits3 a0_1 (by omega) (by omega) w
  by_cases h4 : a0_0 = 4
  · subst h4
    rw [if_neg h1, if_neg h2, if_neg h3, if_pos rfl] at h
    by_cases g0 : a0_1 < 0
    · rw [if_pos g0] at h
      obtain ⟨rfl, rfl⟩ := Prod.mk.inj (Option.some.inj h)
      exact labels_Encode.low4 a0_1 g0 w
    rw [if_neg g0] at h
    by_cases g1 : 65535 < a0_1
    · rw [if_pos g1] at h
      obtain ⟨rfl, rfl⟩ := Prod.mk.inj (Option.some.inj h)
      exact labels_Encode.high4 a0_1 (by omega) g1 w
    rw [if_neg g1] at h
    obtain ⟨rfl, rfl⟩ := Prod.mk.inj (Option.some.inj h)
    exact labels_Encode.fits4 a0_1 (by omega) (by omega) w
  rw [if_neg h1, if_neg h2, if_neg h3, if_neg h4] at h
  obtain ⟨rfl, rfl⟩ := Prod.mk.inj (Option.some.inj h)
  exact labels_Encode.others a0_1 a0_0 h1 h2 h3 h4 w

end Go.Proofs.Ytbphaaaobgmejaa.PT19

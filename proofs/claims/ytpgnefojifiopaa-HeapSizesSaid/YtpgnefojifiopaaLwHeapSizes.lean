/- The walk of the law HeapSizes. -/
import Derived.Test.YtpgnefojifiopaaHeapI
namespace Go.Proofs.Ytpgnefojifiopaa.Heap
open Go.RowKit Go.Proofs.YtpgnefojifiopaaW.PrintWords Go.Proofs.Ytpgnefojifiopaa.Sep Go.Proofs.Ytpgnefojifiopaa.HeapP

def waypointlaw03_HeapSizes.f (_ : Int) : Option Bool := some true
set_option maxHeartbeats 4000000 in
set_option maxRecDepth 100000 in
theorem waypointlaw03_HeapSizes.calls (a0 : Int) (r : Bool) (w : World) (h : waypointlaw03_HeapSizes.f a0 = some r) : Calls Try.prog 5 #[.int .i64 a0] w fun e w' => e = .returned (.bool r) ∧ Below w.heap.size w w' := by
  obtain rfl : true = r := by simpa [waypointlaw03_HeapSizes.f] using h
  clear h
  by_cases h1 : 70000 < a0
  · go_enter Try.func5, Try.ntmps5
    go_wp2_with (first | (go_at_call 8; (with_reducible refine (awake_calls _).mono ?_); rintro e w1 ⟨rfl, h1⟩; have H1 := Aside0.mk h1; clear h1) | (go_at_call 9; (with_reducible refine (new_no 70000 _ (by omega)).mono ?_); rintro e w2 ⟨rfl, h2⟩; obtain rfl := h2.symm))
    go_ret
    exact ⟨rfl, H1.out⟩
  · have d1 : decide (70000 < a0) = false := decide_eq_false h1
    by_cases h2 : a0 < 0
    · go_enter Try.func5, Try.ntmps5
      go_wp2_with (first | (go_at_call 8; (with_reducible refine (awake_calls _).mono ?_); rintro e w1 ⟨rfl, h1⟩; have H1 := Aside0.mk h1; clear h1) | (go_at_call 9; (with_reducible refine (new_no a0 _ (by omega)).mono ?_); rintro e w2 ⟨rfl, h2⟩; obtain rfl := h2.symm))
      go_ret
      exact ⟨rfl, H1.out⟩
    · have d2 : decide (a0 < 0) = false := decide_eq_false h2
      by_cases h3 : 65536 < a0
      · go_enter Try.func5, Try.ntmps5
        go_wp2_with (first | (go_at_call 8; (with_reducible refine (awake_calls _).mono ?_); rintro e w1 ⟨rfl, h1⟩; have H1 := Aside0.mk h1; clear h1) | (go_at_call 9; (with_reducible refine (new_no a0 _ (by omega)).mono ?_); rintro e w2 ⟨rfl, h2⟩; obtain rfl := h2.symm))
        go_ret
        exact ⟨rfl, H1.out⟩
      · have d3 : decide (65536 < a0) = false := decide_eq_false h3
        obtain ⟨n, rfl⟩ := Int.eq_ofNat_of_zero_le (show 0 ≤ a0 by omega)
        have hn : n ≤ 65536 := by omega
        have HN := Aside0.mk hn
        clear h1 h2 h3 hn
        rcases n with _ | m
        · go_enter Try.func5, Try.ntmps5
          go_wp2_with (first | (go_at_call 8; (with_reducible refine (awake_calls _).mono ?_); rintro e w1 ⟨rfl, h1⟩; have H1 := Aside0.mk h1; clear h1) | (go_at_call 9; (with_reducible refine (new_lit w _ H1.out 0 0 (by omega) (by omega)).mono ?_); rintro e w2 ⟨p, rfl, h2⟩; have H2 := Aside0.mk h2; clear h2) | (go_at_call 17; (with_reducible refine (len_lit H2.out 0 0 (by omega) (by decide)).mono ?_); rintro e w9 ⟨rfl, rfl⟩) | (go_at_call 10; (with_reducible refine (set_at_no H2.out _ _ (by simp)).mono ?_); rintro e w9 ⟨rfl, rfl⟩) | (go_at_call 14; (with_reducible refine (remove_at_no H2.out _ (by simp)).mono ?_); rintro e w9 ⟨rfl, rfl⟩))
          go_ret
          exact ⟨rfl, H2.out.choose_spec.2.1⟩
        · have hc0 : (List.replicate (m + 1) false).count true = 0 := by simp [List.count_replicate]
          have HC := Aside0.mk hc0
          have hc1 : ((List.replicate (m + 1) false).set m true).count true = 1 := by
            have := count_set (List.replicate (m + 1) false) m true (by simp)
            rw [gb_repl, hc0] at this
            simpa using this
          have HD := Aside0.mk hc1
          have z1 : ((m : Int) + 1 == 0) = false := beq_eq_false_iff_ne.2 (by omega)
          have e1 : decide (70000 < (m : Int) + 1) = false := decide_eq_false (by have := HN.out; omega)
          have e2 : decide ((m : Int) + 1 < 0) = false := decide_eq_false (by omega)
          have e3 : decide (65536 < (m : Int) + 1) = false := decide_eq_false (by have := HN.out; omega)
          have e4 : wrap64 (m : Int) = (m : Int) := by have := HN.out; unfold wrap64; omega
          have e5 : ¬ (70000 < (m : Int) + 1) := by have := HN.out; omega
          have e6 : ¬ (65536 < (m : Int) + 1) := by have := HN.out; omega
          clear hc0 hc1 d1 d2 d3
          go_enter Try.func5, Try.ntmps5
          go_wp2_with (first | (go_at_call 8; (with_reducible refine (awake_calls _).mono ?_); rintro e w1 ⟨rfl, h1⟩; have H1 := Aside0.mk h1; clear h1) | (go_at_call 9; (with_reducible refine (new_lit w _ H1.out ((m : Int) + 1) (m + 1) (by omega) HN.out).mono ?_); rintro e w2 ⟨p, rfl, h2⟩; have H2 := Aside0.mk h2; clear h2) | (go_at_call 17; (with_reducible refine (len_lit H2.out 0 0 (by omega) HC.out).mono ?_); rintro e w9 ⟨rfl, rfl⟩) | (go_at_call 10; (with_reducible refine (set_at_no H2.out _ 1 (by simp)).mono ?_); rintro e w9 ⟨rfl, rfl⟩) | (go_at_call 14; (with_reducible refine (remove_at_no H2.out ((m : Int) + 1) (by simp)).mono ?_); rintro e w9 ⟨rfl, rfl⟩) | (go_at_call 14; (with_reducible refine (remove_lit_none H2.out (m : Int) m rfl (by simp) (gb_repl _ _)).mono ?_); rintro e w9 ⟨rfl, rfl⟩) | (go_at_call 10; (with_reducible refine (set_lit H2.out (m : Int) m 7 rfl (by simp)).mono ?_); rintro e w3 ⟨rfl, h3⟩; have H3 := Aside0.mk h3; clear h3) | (go_at_call 17; (with_reducible refine (len_lit H3.out 1 1 (by omega) HD.out).mono ?_); rintro e w9 ⟨rfl, rfl⟩))
          go_ret
          exact ⟨rfl, H3.out.choose_spec.2.1⟩
end Go.Proofs.Ytpgnefojifiopaa.Heap

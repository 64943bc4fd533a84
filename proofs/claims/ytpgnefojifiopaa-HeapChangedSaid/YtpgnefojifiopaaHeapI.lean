import Derived.Test.YtpgnefojifiopaaHeapH
namespace Go.Proofs.Ytpgnefojifiopaa.Heap
open Go.RowKit Go.Proofs.YtpgnefojifiopaaW.PrintWords Go.Proofs.Ytpgnefojifiopaa.Sep Go.Proofs.Ytpgnefojifiopaa.HeapP

def leastB (Has : List Bool) (ks : List Int) (i : Nat) : Bool := decide (i < Has.length) && gb Has i && (List.range Has.length).all fun k => !gb Has k || !(decide (gi ks k < gi ks i) || (decide (gi ks k = gi ks i) && decide (k < i)))
theorem least_of {Has : List Bool} {ks : List Int} {i : Nat} (h : leastB Has ks i = true) : Least Has ks i := by
  simp only [leastB, Bool.and_eq_true, decide_eq_true_eq, List.all_eq_true, List.mem_range] at h
  refine ⟨h.1.1, h.1.2, fun k hk hb hl => ?_⟩
  have := h.2 k hk
  rw [hb] at this
  unfold lt at hl
  simp at this hl
  omega
set_option maxHeartbeats 2000000 in
set_option maxRecDepth 100000 in
theorem awake_calls (w : World) : Calls Try.prog 8 #[] w fun e w' => e = .returned (.bool true) ∧ Below w.heap.size w w' := by
  go_enter Try.func8, Try.ntmps8
  go_wp2_with (first | (go_at_call 9; (with_reducible refine (new_lit w _ (Below.refl _ _) 4 4 (by omega) (by omega)).mono ?_); rintro e w1 ⟨p, rfl, h1⟩; have H1 := Aside0.mk h1; clear h1) | (go_at_call 10; (with_reducible refine (set_lit H1.out 0 0 5 (by omega) (by simp)).mono ?_); rintro e w2 ⟨rfl, h2⟩; have H2 := Aside0.mk h2; clear h2) | (go_at_call 10; (with_reducible refine (set_lit H2.out 1 1 3 (by omega) (by simp)).mono ?_); rintro e w3 ⟨rfl, h3⟩; have H3 := Aside0.mk h3; clear h3) | (go_at_call 10; (with_reducible refine (set_lit H3.out 3 3 3 (by omega) (by simp)).mono ?_); rintro e w4 ⟨rfl, h4⟩; have H4 := Aside0.mk h4; clear h4) | (go_at_call 11; (with_reducible refine (pop_lit H4.out 1 1 3 (by omega) (by decide) (least_of (by decide))).mono ?_); rintro e w5 ⟨rfl, h5⟩; have H5 := Aside0.mk h5; clear h5) | (go_at_call 11; (with_reducible refine (pop_lit H5.out 3 3 3 (by omega) (by decide) (least_of (by decide))).mono ?_); rintro e w6 ⟨rfl, h6⟩; have H6 := Aside0.mk h6; clear h6) | (go_at_call 10; (with_reducible refine (set_lit H6.out 0 0 2 (by omega) (by simp)).mono ?_); rintro e w7 ⟨rfl, h7⟩; have H7 := Aside0.mk h7; clear h7) | (go_at_call 11; (with_reducible refine (pop_lit H7.out 0 0 2 (by omega) (by decide) (least_of (by decide))).mono ?_); rintro e w8 ⟨rfl, h8⟩; have H8 := Aside0.mk h8; clear h8) | (go_at_call 17; (with_reducible refine (len_lit H8.out 0 0 (by omega) (by decide)).mono ?_); rintro e w9 ⟨rfl, rfl⟩))
  go_ret
  exact ⟨rfl, H8.out.choose_spec.2.1⟩
end Go.Proofs.Ytpgnefojifiopaa.Heap

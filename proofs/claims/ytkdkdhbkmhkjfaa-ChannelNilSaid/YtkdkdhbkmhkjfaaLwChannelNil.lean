/- The walk of the law ChannelNil. -/
import Derived.Test.YtkdkdhbkmhkjfaaChV
namespace Go.Proofs.Ytkdkdhbkmhkjfaa.Ch
open Go.RowKit Go.Proofs.YtkdkdhbkmhkjfaaW.PrintWords Go.Proofs.YtkdkdhbkmhkjfaaW.PrintLast Go.Proofs.Ytkdkdhbkmhkjfaa.Sep Go.Proofs.Ytkdkdhbkmhkjfaa.ChP Go.Proofs.Ytkdkdhbkmhkjfaa.PT52
set_option linter.unusedVariables false

def waypointlaw52_ChannelNil.f (a0 : Int) : Option Bool := some true
set_option maxHeartbeats 4000000 in
set_option maxRecDepth 100000 in
theorem waypointlaw52_ChannelNil.calls (a0 : Int) (r : Bool) (w : World) (h : waypointlaw52_ChannelNil.f a0 = some r) : Calls Try.prog 8 #[.int .i64 a0] w fun e w' => e = .returned (.bool r) ∧ Below w.heap.size w w' := by
  obtain rfl : true = r := by simpa [waypointlaw52_ChannelNil.f] using h
  clear h
  go_enter Try.func8, Try.ntmps8
  go_wp2_with (first | (go_at_call 9; (with_reducible refine (awake_calls _).mono ?_); rintro e w1 ⟨rfl, h1⟩; have H1 := Aside0.mk h1; clear h1) | (go_at_call 13; (with_reducible refine (send_nil _ _).mono ?_); rintro e w2 ⟨rfl, h2⟩; obtain rfl := h2.symm) | (go_at_call 16; (with_reducible refine (wait_nil _ _).mono ?_); rintro e w3 ⟨rfl, h3⟩; have H3 := Aside0.mk (below_step H1.out h3); clear h3) | (go_at_call 20; (with_reducible refine (offered_nil _).mono ?_); rintro e w4 ⟨rfl, h4⟩; obtain rfl := h4.symm))
  go_ret
  exact ⟨rfl, H3.out⟩
end Go.Proofs.Ytkdkdhbkmhkjfaa.Ch

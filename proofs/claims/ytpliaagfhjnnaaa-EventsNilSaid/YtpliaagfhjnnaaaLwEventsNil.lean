/- The walk of the law EventsNil. -/
import Derived.Test.YtpliaagfhjnnaaaEvH
namespace Go.Proofs.Ytpliaagfhjnnaaa.Ev
open Go.RowKit Go.Proofs.YtpliaagfhjnnaaaW.PrintWords Go.Proofs.Ytpliaagfhjnnaaa.Sep Go.Proofs.Ytpliaagfhjnnaaa.HeapP Go.Proofs.Ytpliaagfhjnnaaa.Heap Go.Proofs.Ytpliaagfhjnnaaa.EvP

def waypointlaw51_EventsNil.f (_ : Int) : Option Bool := some true
set_option maxHeartbeats 2000000 in
set_option maxRecDepth 100000 in
theorem waypointlaw51_EventsNil.calls (a0 : Int) (r : Bool) (w : World) (h : waypointlaw51_EventsNil.f a0 = some r) : Calls Try.prog 8 #[.int .i64 a0] w fun e w' => e = .returned (.bool r) ∧ Below w.heap.size w w' := by
  obtain rfl : true = r := by simpa [waypointlaw51_EventsNil.f] using h
  clear h
  go_enter Try.func8, Try.ntmps8
  go_wp2_with (first | (go_at_call 9; (with_reducible refine (awake_calls _).mono ?_); rintro e w1 ⟨rfl, h1⟩; have H1 := Aside0.mk h1; clear h1) | (go_at_call 11; (with_reducible refine (add_nil a0 a0 _).mono ?_); rintro e w2 ⟨rfl, h2⟩; obtain rfl := h2.symm) | (go_at_call 12; (with_reducible refine (next_nil _).mono ?_); rintro e w2 ⟨rfl, h2⟩; obtain rfl := h2.symm) | (go_at_call 19; (with_reducible refine (peek_nil _).mono ?_); rintro e w2 ⟨rfl, h2⟩; obtain rfl := h2.symm) | (go_at_call 14; (with_reducible refine (cancel_nil a0 _).mono ?_); rintro e w2 ⟨rfl, h2⟩; obtain rfl := h2.symm) | (go_at_call 15; (with_reducible refine (now_nil _).mono ?_); rintro e w2 ⟨rfl, h2⟩; obtain rfl := h2.symm) | (go_at_call 13; (with_reducible refine (qlen_nil _).mono ?_); rintro e w2 ⟨rfl, h2⟩; obtain rfl := h2.symm))
  go_ret
  exact ⟨rfl, H1.out⟩
end Go.Proofs.Ytpliaagfhjnnaaa.Ev

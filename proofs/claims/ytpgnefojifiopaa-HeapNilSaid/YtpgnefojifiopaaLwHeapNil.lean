/- The walk of the law HeapNil. -/
import Derived.Test.YtpgnefojifiopaaHeapI
namespace Go.Proofs.Ytpgnefojifiopaa.Heap
open Go.RowKit Go.Proofs.YtpgnefojifiopaaW.PrintWords Go.Proofs.Ytpgnefojifiopaa.Sep Go.Proofs.Ytpgnefojifiopaa.HeapP

def waypointlaw03_HeapNil.f (_ : Int) : Option Bool := some true
set_option maxHeartbeats 2000000 in
set_option maxRecDepth 100000 in
theorem waypointlaw03_HeapNil.calls (a0 : Int) (r : Bool) (w : World) (h : waypointlaw03_HeapNil.f a0 = some r) : Calls Try.prog 7 #[.int .i64 a0] w fun e w' => e = .returned (.bool r) ∧ Below w.heap.size w w' := by
  obtain rfl : true = r := by simpa [waypointlaw03_HeapNil.f] using h
  clear h
  go_enter Try.func7, Try.ntmps7
  go_wp2_with (first | (go_at_call 8; (with_reducible refine (awake_calls _).mono ?_); rintro e w1 ⟨rfl, h1⟩; have H1 := Aside0.mk h1; clear h1) | (go_at_call 18; (with_reducible refine (key_nil a0 _).mono ?_); rintro e w2 ⟨rfl, h2⟩; obtain rfl := h2.symm) | (go_at_call 11; (with_reducible refine (pop_nil _).mono ?_); rintro e w2 ⟨rfl, h2⟩; obtain rfl := h2.symm) | (go_at_call 10; (with_reducible refine (set_nil a0 a0 _).mono ?_); rintro e w2 ⟨rfl, h2⟩; obtain rfl := h2.symm) | (go_at_call 14; (with_reducible refine (remove_nil a0 _).mono ?_); rintro e w2 ⟨rfl, h2⟩; obtain rfl := h2.symm) | (go_at_call 17; (with_reducible refine (len_nil _).mono ?_); rintro e w2 ⟨rfl, h2⟩; obtain rfl := h2.symm))
  go_ret
  exact ⟨rfl, H1.out⟩
end Go.Proofs.Ytpgnefojifiopaa.Heap

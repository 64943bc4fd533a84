/- Plain laws of the neighbour's states: what the program's and the reference's printed functions come to. No Go, no memory. -/
import Derived.Test.YtopdnkihecomnaaHelC
import Derived.Test.YtopdnkihecomnaaPT3416
namespace Go.Proofs.Ytopdnkihecomnaa.Hel
open Go.RowKit Go.Proofs.Ytopdnkihecomnaa.PT34 Go.Proofs.YtopdnkihecomnaaW.PrintWords Go.Proofs.YtopdnkihecomnaaW.PrintLast

/-- A step in which both ends send a hello. -/
theorem exchange_eq (k : Nat) (hk : 1 ≤ k) (pa la pb lb h : Int) (x y : Bool) (ha : vb pa la = true) (hb : vb pb lb = true) (h1 : 1 ≤ h) (h2 : h ≤ 65536) :
    waypointlaw34_exchange.f k pa la pb lb h x y = some (if y then tp pa la 1 else (if pb != 0 then 2 else 1), if y then tl la 1 else h, if x then tp pb lb 1 else (if pa != 0 then 2 else 1), if x then tl lb 1 else h) := by
  have va := tick_valid 1 ha
  have vb' := tick_valid 1 hb
  unfold waypointlaw34_exchange.f
  rw [seen_eq, seen_eq, ha, hb, tick_eq k hk _ _ _ ha, tick_eq k hk _ _ _ hb]
  simp only [Option.bind_some, Bool.true_and]
  cases x <;> cases y <;> simp [receive_eq _ _ _ h va h1 h2, receive_eq _ _ _ h vb' h1 h2]
theorem exchange_valid (pa la pb lb h : Int) (x y : Bool) (ha : vb pa la = true) (hb : vb pb lb = true) (h1 : 1 ≤ h) (h2 : h ≤ 65536) :
    vb (if y then tp pa la 1 else (if pb != 0 then 2 else 1)) (if y then tl la 1 else h) = true ∧ vb (if x then tp pb lb 1 else (if pa != 0 then 2 else 1)) (if x then tl lb 1 else h) = true := by
  have va := tick_valid 1 ha
  have vb' := tick_valid 1 hb
  constructor
  · cases y with
    | true => simpa using va
    | false =>
      rw [vb_iff]
      by_cases e : pb = 0 <;> simp [e, h1, h2]
  · cases x with
    | true => simpa using vb'
    | false =>
      rw [vb_iff]
      by_cases e : pa = 0 <;> simp [e, h1, h2]
end Go.Proofs.Ytopdnkihecomnaa.Hel

/- Plain laws of the neighbour's states: what the program's and the reference's printed functions come to. No Go, no memory. -/
import Derived.Test.YtopdnkihecomnaaPT343
import Derived.Test.YtopdnkihecomnaaPT344
import Derived.Test.YtopdnkihecomnaaPT345
import Derived.Test.YtopdnkihecomnaaPT346
import Derived.Test.YtopdnkihecomnaaPT347
import Derived.Test.YtopdnkihecomnaaPT348
import Derived.Test.YtopdnkihecomnaaPT349
namespace Go.Proofs.Ytopdnkihecomnaa.Hel
open Go.RowKit Go.Proofs.Ytopdnkihecomnaa.PT34 Go.Proofs.YtopdnkihecomnaaW.PrintWords Go.Proofs.YtopdnkihecomnaaW.PrintLast

/-- A valid state, as a Bool. -/
def vb (p l : Int) : Bool := decide (p = 0 ∧ l = 0 ∨ (p = 1 ∨ p = 2) ∧ 1 ≤ l ∧ l ≤ 65536)
/-- The event of a change of phases. -/
def ev (p q : Int) : Int := if q = 2 then (if p = 2 then 0 else 1) else (if p = 2 then 2 else 0)
/-- What is left, and the phase, behind n ticks. -/
def tl (l n : Int) : Int := if n ≤ 0 then l else if n < l then l - n else 0
def tp (p l n : Int) : Int := if tl l n = 0 then 0 else p

theorem wrap_id {x : Int} (h1 : -9223372036854775808 ≤ x) (h2 : x ≤ 9223372036854775807) : wrap64 x = x := by unfold wrap64; omega

theorem valid_eq (p l : Int) : hello_Valid.f p l = some (vb p l) := by
  unfold hello_Valid.f vb
  by_cases h0 : p = 0
  · subst h0
    rw [if_pos rfl]
    congr 1
    rw [Bool.eq_iff_iff]
    simp
  rw [if_neg h0]
  by_cases h1 : p = 1
  · subst h1
    rw [if_pos rfl]
    by_cases h2 : l ≥ 1
    · rw [if_pos h2]
      congr 1
      rw [Bool.eq_iff_iff]
      simp
      omega
    · rw [if_neg h2]
      simp
      omega
  rw [if_neg h1]
  by_cases h2 : p = 2
  · subst h2
    rw [if_pos rfl]
    by_cases h2 : l ≥ 1
    · rw [if_pos h2]
      congr 1
      rw [Bool.eq_iff_iff]
      simp
      omega
    · rw [if_neg h2]
      simp
      omega
  rw [if_neg h2]
  simp [h0, h1, h2]
theorem rvalid_eq (p l : Int) : waypointref34_Valid.f p l = some (vb p l) := valid_eq p l
theorem vb_iff (p l : Int) : vb p l = true ↔ (p = 0 ∧ l = 0 ∨ (p = 1 ∨ p = 2) ∧ 1 ≤ l ∧ l ≤ 65536) := by simp [vb]
theorem event_eq (p l q m : Int) : hello_event.f p l q m = some (ev p q) := by
  unfold hello_event.f ev
  repeat' split
  all_goals rfl
theorem receive_eq (p l : Int) (seen : Bool) (h : Int) (hv : vb p l = true) (h1 : 1 ≤ h) (h2 : h ≤ 65536) :
    hello_Receive.f p l seen h = some (if seen then 2 else 1, h, ev p (if seen then 2 else 1), 0) := by
  unfold hello_Receive.f
  rw [valid_eq, hv]
  simp only [Option.bind_some, if_true]
  rw [if_neg (by omega), if_neg (by omega)]
  simp only [event_eq, Option.bind_some]
  cases seen <;> simp
theorem receive_bad (p l : Int) (seen : Bool) (h : Int) (hv : vb p l = false ∨ h < 1 ∨ 65536 < h) : hello_Receive.f p l seen h = some (0, 0, 0, 1) := by
  unfold hello_Receive.f
  rw [valid_eq]
  simp only [Option.bind_some]
  cases e : vb p l with
  | false => simp
  | true =>
    rw [if_pos rfl]
    by_cases h1 : h < 1
    · rw [if_pos h1]
    · rw [if_neg h1, if_pos (by simp [e] at hv; omega)]
theorem tl_bound {p l : Int} (n : Int) (hv : vb p l = true) : 0 ≤ tl l n ∧ tl l n ≤ l := by
  rw [vb_iff] at hv
  unfold tl
  repeat' split
  all_goals omega
theorem tick_valid {p l : Int} (n : Int) (hv : vb p l = true) : vb (tp p l n) (tl l n) = true := by
  have hb := tl_bound n hv
  rw [vb_iff] at hv ⊢
  unfold tp
  split <;> omega
theorem tick_eq (k : Nat) (hk : 1 ≤ k) (p l n : Int) (hv : vb p l = true) : hello_Tick.f k p l n = some (tp p l n, tl l n, ev p (tp p l n), 0) := by
  obtain ⟨k, rfl⟩ : ∃ m, k = m + 1 := ⟨k - 1, by omega⟩
  have hv' := hv
  rw [vb_iff] at hv
  unfold hello_Tick.f
  rw [valid_eq, hv']
  simp only [Option.bind_some, if_true, hello_Tick.j0, event_eq]
  have e : (if n > 0 then mx 0 (wrap64 (l - mn n l)) else l) = tl l n := by
    unfold tl
    by_cases h : n > 0
    · rw [if_pos h, if_neg (by omega)]
      have hm : mn n l = if n < l then n else l := by
        unfold mn
        repeat' split
        all_goals omega
      rw [hm]
      by_cases h2 : n < l
      · rw [if_pos h2, if_pos h2, wrap_id (by omega) (by omega)]
        unfold mx
        split <;> omega
      · rw [if_neg h2, if_neg h2, wrap_id (by omega) (by omega)]
        unfold mx
        split <;> omega
    · rw [if_neg h, if_pos (by omega)]
  have g : ∀ x : Int, (if x = 0 then some ((0 : Int), x, ev p 0, (0 : Int)) else some (p, x, ev p p, 0)) = some (if x = 0 then 0 else p, x, ev p (if x = 0 then 0 else p), 0) := by
    intro x
    split <;> rfl
  by_cases h : n > 0
  · rw [if_pos h] at e ⊢
    rw [e, g]
    rfl
  · rw [if_neg h] at e ⊢
    have h3 := g l
    rw [h3, ← e]
    unfold tp
    rw [← e]
theorem tick_bad (k : Nat) (p l n : Int) (hv : vb p l = false) : hello_Tick.f k p l n = some (0, 0, 0, 1) := by
  unfold hello_Tick.f
  rw [valid_eq, hv]
  simp
theorem rreceive_eq (seen : Bool) (h : Int) : waypointref34_Receive.f seen h = some (if seen then 2 else 1, h) := by
  unfold waypointref34_Receive.f
  cases seen <;> simp

theorem awake_yes (k : Nat) (hk : 10 ≤ k) : waypointlaw34_awake.f k = some true := at_rounds waypointlaw34_awake.mono hk (by decide +kernel)

end Go.Proofs.Ytopdnkihecomnaa.Hel

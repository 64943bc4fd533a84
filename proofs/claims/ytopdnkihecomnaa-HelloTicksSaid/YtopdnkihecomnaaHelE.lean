/- Plain laws of the neighbour's states: what the program's and the reference's printed functions come to. No Go, no memory. -/
import Derived.Test.YtopdnkihecomnaaHelA
import Derived.Test.YtopdnkihecomnaaPT3420
namespace Go.Proofs.Ytopdnkihecomnaa.Hel
open Go.RowKit Go.Proofs.Ytopdnkihecomnaa.PT34 Go.Proofs.YtopdnkihecomnaaW.PrintWords Go.Proofs.YtopdnkihecomnaaW.PrintLast

theorem rtick_loop (n : Int) (hn : n ≤ 9223372036854775807) (d : Nat) : ∀ (k : Nat) (i p : Int), 2 * d + 2 < k → 0 ≤ i → (d = 0 → p = 0) → d ≤ 65536 →
    waypointref34_Tick.l0 k n i p (d : Int) = some (tp p d (n - i), tl d (n - i)) := by
  induction d with
  | zero =>
    intro k i p hk hi hp _
    obtain ⟨k, rfl⟩ : ∃ m, k = m + 2 := ⟨k - 2, by omega⟩
    have h0 : tl ((0 : Nat) : Int) (n - i) = 0 := by
      unfold tl
      repeat' split
      all_goals omega
    unfold tp
    rw [h0]
    simp only [waypointref34_Tick.l0, waypointref34_Tick.j1]
    rw [hp rfl]
    simp
  | succ d ih =>
    intro k i p hk hi _ hd
    obtain ⟨k, rfl⟩ : ∃ m, k = m + 2 := ⟨k - 2, by omega⟩
    simp only [waypointref34_Tick.l0, waypointref34_Tick.j1]
    by_cases hlt : i < n
    · rw [if_pos hlt, decide_eq_true (by omega), if_pos rfl, wrap_id (x := ((d + 1 : Nat) : Int) - 1) (by omega) (by omega), wrap_id (x := i + 1) (by omega) (by omega)]
      rw [show ((d + 1 : Nat) : Int) - 1 = (d : Int) by omega]
      have et : tl ((d + 1 : Nat) : Int) (n - i) = tl (d : Int) (n - (i + 1)) := by
        unfold tl
        repeat' split
        all_goals omega
      by_cases hz : (d : Int) = 0
      · rw [if_pos hz]
        have h2 := ih k (i + 1) 0 (by omega) (by omega) (fun _ => rfl) (by omega)
        rw [h2, ← et]
        have h0 : tl ((d + 1 : Nat) : Int) (n - i) = 0 := by
          rw [et, hz]
          unfold tl
          repeat' split
          all_goals omega
        unfold tp
        rw [← et, h0]
        simp
      · rw [if_neg hz]
        have h2 := ih k (i + 1) p (by omega) (by omega) (fun h => by omega) (by omega)
        rw [h2, ← et]
        unfold tp
        rw [← et]
    · rw [if_neg hlt, if_neg (by decide)]
      have e : tl ((d + 1 : Nat) : Int) (n - i) = ((d + 1 : Nat) : Int) := by
        unfold tl
        rw [if_pos (by omega)]
      unfold tp
      rw [e, if_neg (by omega)]
theorem rtick_eq (k : Nat) (hk : 140000 ≤ k) (p l n : Int) (hv : vb p l = true) (hn : n ≤ 9223372036854775807) : waypointref34_Tick.f k p l n = some (tp p l n, tl l n) := by
  rw [vb_iff] at hv
  unfold waypointref34_Tick.f
  obtain ⟨d, rfl⟩ := Int.eq_ofNat_of_zero_le (show 0 ≤ l by omega)
  have := rtick_loop n hn d k 0 p (by omega) (by omega) (fun h => by omega) (by omega)
  rw [this]
  simp

end Go.Proofs.Ytopdnkihecomnaa.Hel

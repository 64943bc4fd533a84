/- Plain law of the label stacks: Same. No Go, no memory. -/
import Derived.Test.YtbphaaaobgmejaaLabB
import Derived.Test.YtbphaaaobgmejaaPT1916
namespace Go.Proofs.Ytbphaaaobgmejaa.Lab
open Go.RowKit Go.Proofs.Ytbphaaaobgmejaa.PT19 Go.Proofs.YtbphaaaobgmejaaW.PrintWords Go.Proofs.YtbphaaaobgmejaaW.PrintLast

theorem same_loop (l : List S30) (hl : l.length < 1000000) : ∀ (d i k : Nat), d + i = l.length → d < k → waypointref19_Same.l0 k l l (i : Int) = some true := by
  intro d
  induction d with
  | zero =>
    intro i k hd hk
    obtain ⟨k, rfl⟩ : ∃ m, k = m + 1 := ⟨k - 1, by omega⟩
    simp only [waypointref19_Same.l0]
    rw [if_neg (by omega)]
  | succ d ih =>
    intro i k hd hk
    obtain ⟨k, rfl⟩ : ∃ m, k = m + 1 := ⟨k - 1, by omega⟩
    simp only [waypointref19_Same.l0]
    rw [if_pos (by omega), if_pos (by omega), if_pos (by omega), if_neg (by simp), wrap_id (x := (i : Int) + 1) (by omega) (by omega), show (i : Int) + 1 = ((i + 1 : Nat) : Int) by omega]
    exact ih (i + 1) k (by omega) (by omega)
theorem same_self (k : Nat) (l : List S30) (hl : l.length < 1000000) (hk : l.length < k) : waypointref19_Same.f k l l = some true := by
  unfold waypointref19_Same.f
  rw [if_pos rfl]
  exact same_loop l hl l.length 0 k (by omega) hk
theorem unp_len (l : List Int) (hb : By l) : (unp l).1.length ≤ 32 := by
  by_cases h : (unp l).2.2.2 = 0
  · rcases unp_ok l hb h with ⟨_, h2⟩ | ⟨n, r, _, h2, _, _, h3⟩
    · rw [h2]; simp
    · rw [h2]; simpa using h3
  · have : (unp l).1 = [] := by
      unfold unp at h ⊢
      by_cases hc : (l.length : Int) % 4 = 0 ∧ l.length ≤ 128
      · rw [if_pos hc] at h ⊢
        cases hw : ws l with
        | nil => rfl
        | cons n r =>
          rw [hw, up_first] at h
          rw [up_first]
          split
          · rename_i ho; rw [if_pos ho] at h; simp at h
          · rfl
      · rw [if_neg hc]
    rw [this]; simp
end Go.Proofs.Ytbphaaaobgmejaa.Lab

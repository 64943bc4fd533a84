/- Plain laws of the codec: own, back, size, Same. No Go, no memory. -/
import Derived.Test.YtfoagppeddflnaaCodT
import Derived.Test.YtfoagppeddflnaaPT078
import Derived.Test.YtfoagppeddflnaaPT0711
import Derived.Test.YtfoagppeddflnaaPT077
import Derived.Test.YtfoagppeddflnaaPT0710
namespace Go.Proofs.Ytfoagppeddflnaa.Cod
open Go.RowKit Go.Proofs.Ytfoagppeddflnaa.PT07 Go.Proofs.YtfoagppeddflnaaW.PrintWords Go.Proofs.YtfoagppeddflnaaW.PrintLast

theorem drop43 {l : List S43} {i : Nat} (h : i < l.length) : l.drop i = rd_T43 l (i : Int) :: l.drop (i + 1) := by
  rw [List.drop_eq_getElem_cons h]
  congr 1
  simp [rd_T43, h]
def cv (x : S43) : S56 := ⟨x.f0, x.f1⟩
def bk (x : S56) : S43 := ⟨x.f0, x.f1⟩
theorem own_loop (l : List S43) (hl : l.length ≤ 100000) : ∀ (d i k : Nat) (acc : List S56), d + i = l.length → d < k → acc.length = i → waypointlaw07_own.l0 k l acc (i : Int) = some (acc ++ (l.drop i).map cv) := by
  intro d
  induction d with
  | zero =>
    intro i k acc hd hk ha
    obtain ⟨k, rfl⟩ : ∃ m, k = m + 1 := ⟨k - 1, by omega⟩
    rw [List.drop_eq_nil_of_le (by omega)]
    simp only [waypointlaw07_own.l0]
    rw [if_neg (by omega)]
    simp
  | succ d ih =>
    intro i k acc hd hk ha
    obtain ⟨k, rfl⟩ : ∃ m, k = m + 1 := ⟨k - 1, by omega⟩
    rw [drop43 (by omega)]
    simp only [waypointlaw07_own.l0]
    rw [if_pos (by omega), if_pos (by omega), if_pos (by omega), wrap_id (x := (i : Int) + 1) (by omega) (by omega), show (i : Int) + 1 = ((i + 1 : Nat) : Int) by omega, ih (i + 1) k _ (by omega) (by omega) (by simp; omega)]
    simp [cv]
theorem back_loop (l : List S56) (hl : l.length ≤ 100000) : ∀ (d i k : Nat) (acc : List S43), d + i = l.length → d < k → acc.length = i → waypointlaw07_back.l0 k l acc (i : Int) = some (acc ++ (l.drop i).map bk) := by
  intro d
  induction d with
  | zero =>
    intro i k acc hd hk ha
    obtain ⟨k, rfl⟩ : ∃ m, k = m + 1 := ⟨k - 1, by omega⟩
    rw [List.drop_eq_nil_of_le (by omega)]
    simp only [waypointlaw07_back.l0]
    rw [if_neg (by omega)]
    simp
  | succ d ih =>
    intro i k acc hd hk ha
    obtain ⟨k, rfl⟩ : ∃ m, k = m + 1 := ⟨k - 1, by omega⟩
    rw [drop56 (by omega)]
    simp only [waypointlaw07_back.l0]
    rw [if_pos (by omega), if_pos (by omega), if_pos (by omega), wrap_id (x := (i : Int) + 1) (by omega) (by omega), show (i : Int) + 1 = ((i + 1 : Nat) : Int) by omega, ih (i + 1) k _ (by omega) (by omega) (by simp; omega)]
    simp [bk]
theorem size_some (l : List S43) (hl : l.length ≤ 100000) : ∀ (d i k : Nat) (n : Int), d + i = l.length → d < k → ∃ s, waypointlaw07_size.l0 k l n (i : Int) = some s := by
  intro d
  induction d with
  | zero =>
    intro i k n hd hk
    obtain ⟨k, rfl⟩ : ∃ m, k = m + 1 := ⟨k - 1, by omega⟩
    simp only [waypointlaw07_size.l0]
    rw [if_neg (by omega)]
    exact ⟨_, rfl⟩
  | succ d ih =>
    intro i k n hd hk
    obtain ⟨k, rfl⟩ : ∃ m, k = m + 1 := ⟨k - 1, by omega⟩
    simp only [waypointlaw07_size.l0]
    rw [if_pos (by omega), if_pos (by omega), wrap_id (x := (i : Int) + 1) (by omega) (by omega), show (i : Int) + 1 = ((i + 1 : Nat) : Int) by omega]
    exact ih (i + 1) k _ (by omega) (by omega)
theorem same_loop (l : List S43) (hl : l.length ≤ 100000) : ∀ (d i k : Nat), d + i = l.length → d < k → waypointref07_Same.l0 k l l (i : Int) = some true := by
  intro d
  induction d with
  | zero =>
    intro i k hd hk
    obtain ⟨k, rfl⟩ : ∃ m, k = m + 1 := ⟨k - 1, by omega⟩
    simp only [waypointref07_Same.l0]
    rw [if_neg (by omega)]
  | succ d ih =>
    intro i k hd hk
    obtain ⟨k, rfl⟩ : ∃ m, k = m + 1 := ⟨k - 1, by omega⟩
    simp only [waypointref07_Same.l0]
    rw [if_pos (by omega), if_pos (by omega), if_pos (by omega), if_pos trivial, if_pos trivial, wrap_id (x := (i : Int) + 1) (by omega) (by omega), show (i : Int) + 1 = ((i + 1 : Nat) : Int) by omega]
    exact ih (i + 1) k (by omega) (by omega)
theorem map_bk_cv (l : List S43) : (l.map cv).map bk = l := by
  rw [List.map_map, show (bk ∘ cv) = id from rfl, List.map_id]
theorem map_cv_bk (l : List S56) : (l.map bk).map cv = l := by
  rw [List.map_map, show (cv ∘ bk) = id from rfl, List.map_id]
theorem own_eq (k : Nat) (l : List S43) (hl : l.length ≤ 100000) (hk : l.length < k) : waypointlaw07_own.f k l = some (l.map cv) := by
  have h1 := own_loop l hl l.length 0 k [] (by omega) (by omega) rfl
  rw [List.drop_zero, List.nil_append, show ((0 : Nat) : Int) = 0 from rfl] at h1
  exact h1
theorem back_eq (k : Nat) (l : List S56) (hl : l.length ≤ 100000) (hk : l.length < k) : waypointlaw07_back.f k l = some (l.map bk) := by
  have h1 := back_loop l hl l.length 0 k [] (by omega) (by omega) rfl
  rw [List.drop_zero, List.nil_append, show ((0 : Nat) : Int) = 0 from rfl] at h1
  exact h1
theorem same_eq (k : Nat) (l : List S43) (hl : l.length ≤ 100000) (hk : l.length < k) : waypointref07_Same.f k l l = some true := by
  have h1 := same_loop l hl l.length 0 k (by omega) (by omega)
  rw [show ((0 : Nat) : Int) = 0 from rfl] at h1
  unfold waypointref07_Same.f
  rw [if_pos rfl, h1]
theorem size_eq (k : Nat) (l : List S43) (hl : l.length ≤ 100000) (hk : l.length < k) : ∃ s, waypointlaw07_size.f k l = some s :=
  size_some l hl l.length 0 k 0 (by omega) (by omega)
end Go.Proofs.Ytfoagppeddflnaa.Cod

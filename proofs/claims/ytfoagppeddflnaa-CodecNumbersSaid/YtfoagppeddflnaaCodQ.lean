/- Plain laws of the codec: AppendUint, Fits, Number. No Go, no memory. -/
import Derived.Test.YtfoagppeddflnaaCodP
import Derived.Test.YtfoagppeddflnaaPT075
import Derived.Test.YtfoagppeddflnaaPT0719
import Derived.Test.YtfoagppeddflnaaPT0720
namespace Go.Proofs.Ytfoagppeddflnaa.Cod
open Go.RowKit Go.Proofs.Ytfoagppeddflnaa.PT07 Go.Proofs.YtfoagppeddflnaaW.PrintWords Go.Proofs.YtfoagppeddflnaaW.PrintLast

theorem shr_pow (n : Int) (s : Nat) (hs : s ≤ 8) : shr .u64 n ((8 * s : Nat) : Int) = n / 256 ^ s := by
  unfold shr
  rw [show IntKind.u64.bits = 64 from rfl, show ((8 * s : Nat) : Int).toNat = 8 * s by omega, Nat.min_eq_left (by omega)]
  congr 1
  rw [show (256 : Int) = 2 ^ 8 from rfl, ← Int.pow_mul]
theorem append_loop (n : Int) : ∀ (s k : Nat) (x : List Int), s ≤ 8 → s < k → x.length + s < 140737488355328 → codec_AppendUint.l0 k n x (((8 * s : Nat) : Int) - 8) = some (x ++ hi s n, 0) := by
  intro s
  induction s with
  | zero =>
    intro k x _ hk _
    obtain ⟨k, rfl⟩ : ∃ m, k = m + 1 := ⟨k - 1, by omega⟩
    simp only [codec_AppendUint.l0, hi]
    rw [if_neg (by omega)]
    simp
  | succ s ih =>
    intro k x hs hk hx
    obtain ⟨k, rfl⟩ : ∃ m, k = m + 1 := ⟨k - 1, by omega⟩
    simp only [codec_AppendUint.l0, hi]
    rw [if_pos (by omega), if_pos (by omega), if_pos (by omega), wrap_id (by omega) (by omega), show ((8 * (s + 1) : Nat) : Int) - 8 = ((8 * s : Nat) : Int) by omega, shr_pow n s (by omega), ih k _ (by omega) (by omega) (by simp; omega)]
    simp
theorem AppendUint_eq (k : Nat) (l : List Int) (n z : Int) (hl : l.length ≤ 100) (hk : 20 < k) :
    codec_AppendUint.f k l n z = some (if z < 1 ∨ z > 8 then ([], 1) else if z < 8 ∧ n / 256 ^ z.toNat ≠ 0 then ([], 2) else (l ++ hi z.toNat n, 0)) := by
  obtain ⟨k, rfl⟩ : ∃ m, k = m + 2 := ⟨k - 2, by omega⟩
  have hj : codec_AppendUint.j0 (k + 2) l n z true = some ([], 1) := by simp [codec_AppendUint.j0]
  unfold codec_AppendUint.f
  by_cases h1 : z < 1
  · rw [if_pos h1, hj, if_pos (Or.inl h1)]
  rw [if_neg h1]
  by_cases h2 : z > 8
  · rw [decide_eq_true h2, hj, if_pos (Or.inr h2)]
  rw [decide_eq_false h2, if_neg (by omega)]
  obtain ⟨s, rfl⟩ := Int.eq_ofNat_of_zero_le (show 0 ≤ z by omega)
  have hcl : slices_Clone_byte_byte.f l = some l := by
    simp only [slices_Clone_byte_byte.f, Option.bind_some, List.nil_append]
    rw [if_pos (by simp; omega)]
  have hrec : codec_AppendUint.j1 (k + 1) l n (s : Int) false = some (l ++ hi s n, 0) := by
    simp only [codec_AppendUint.j1, Bool.false_eq_true, if_false, hcl, Option.bind_some]
    rw [wrap_id (x := (s : Int) - 1) (by omega) (by omega), wrap_id (by omega) (by omega), show 8 * ((s : Int) - 1) = ((8 * s : Nat) : Int) - 8 by omega]
    exact append_loop n s k l (by omega) (by omega) (by omega)
  have hbad : codec_AppendUint.j1 (k + 1) l n (s : Int) true = some ([], 2) := by simp [codec_AppendUint.j1]
  rw [show k + 2 = (k + 1) + 1 from rfl]
  simp only [codec_AppendUint.j0, Bool.false_eq_true, if_false, Int.toNat_natCast]
  by_cases h3 : (s : Int) < 8
  · rw [if_pos h3, wrap_id (x := 8 * (s : Int)) (by omega) (by omega), if_pos (by omega), show 8 * (s : Int) = ((8 * s : Nat) : Int) by omega, shr_pow n s (by omega)]
    by_cases h4 : n / 256 ^ s = 0
    · rw [if_neg (fun h => h.2 h4), h4]
      exact hrec
    · rw [if_pos ⟨h3, h4⟩, show (n / 256 ^ s != 0) = true from bne_iff_ne.2 h4]
      exact hbad
  · rw [if_neg h3, if_neg (fun h => h3 h.1)]
    exact hrec
theorem fits_loop (s : Nat) (hs : s ≤ 8) : ∀ (d i k : Nat) (n : Int), d + i = s → d < k → 0 ≤ n → n < 18446744073709551616 → waypointref07_Fits.l0 k n (s : Int) (i : Int) = some (n / 256 ^ d == 0) := by
  intro d
  induction d with
  | zero =>
    intro i k n hd hk h0 h1
    obtain ⟨k, rfl⟩ : ∃ m, k = m + 1 := ⟨k - 1, by omega⟩
    simp only [waypointref07_Fits.l0]
    rw [if_neg (by omega)]
    simp
  | succ d ih =>
    intro i k n hd hk h0 h1
    obtain ⟨k, rfl⟩ : ∃ m, k = m + 1 := ⟨k - 1, by omega⟩
    simp only [waypointref07_Fits.l0]
    rw [if_pos (by omega), Int.tdiv_eq_ediv_of_nonneg h0, uwrap_id (by omega) (by omega), wrap_id (x := (i : Int) + 1) (by omega) (by omega), show (i : Int) + 1 = ((i + 1 : Nat) : Int) by omega, ih (i + 1) k _ (by omega) (by omega) (by omega) (by omega), div_pow]
theorem Fits_eq (k s : Nat) (n : Int) (hs : s ≤ 8) (h0 : 0 ≤ n) (h1 : n < 18446744073709551616) (hk : 20 < k) : waypointref07_Fits.f k n (s : Int) = some (n / 256 ^ s == 0) :=
  fits_loop s hs s 0 k n (by omega) (by omega) h0 h1
theorem number_loop : ∀ (i k : Nat) (n : Int) (d : List Int), i ≤ 8 → i + 1 < k → 0 ≤ n → n < 18446744073709551616 → waypointref07_Number.l0 k n (List.replicate i 0 ++ d) ((i : Int) - 1) = some (hi i n ++ d) := by
  intro i
  induction i with
  | zero =>
    intro k n d _ hk h0 h1
    obtain ⟨k, rfl⟩ : ∃ m, k = m + 1 := ⟨k - 1, by omega⟩
    simp only [waypointref07_Number.l0]
    rw [if_neg (by omega)]
    simp [hi]
  | succ i ih =>
    intro k n d hi8 hk h0 h1
    obtain ⟨k, rfl⟩ : ∃ m, k = m + 1 := ⟨k - 1, by omega⟩
    simp only [waypointref07_Number.l0]
    rw [if_pos (by omega), if_pos (by omega), if_pos (by simp; omega), Int.tdiv_eq_ediv_of_nonneg h0, uwrap_id (by omega) (by omega), Int.tmod_eq_emod_of_nonneg h0, wrap_id (x := ((i + 1 : Nat) : Int) - 1 - 1) (by omega) (by omega)]
    have hset : (List.replicate (i + 1) (0 : Int) ++ d).set (((i + 1 : Nat) : Int) - 1).toNat (n % 256 % 256) = List.replicate i 0 ++ (n % 256 :: d) := by
      rw [show (((i + 1 : Nat) : Int) - 1).toNat = i by omega, List.replicate_succ', List.append_assoc, List.set_append_right _ _ (by simp)]
      simp
    rw [hset, show ((i + 1 : Nat) : Int) - 1 - 1 = (i : Int) - 1 by omega, ih k _ _ (by omega) (by omega) (by omega) (by omega), hi_snoc]
    simp
theorem Number_eq (k s : Nat) (n : Int) (hs : s ≤ 8) (h0 : 0 ≤ n) (h1 : n < 18446744073709551616) (hk : 20 < k) : waypointref07_Number.f k n (s : Int) = some (hi s n) := by
  unfold waypointref07_Number.f
  rw [if_pos (by omega), Int.toNat_natCast, if_pos (by omega), wrap_id (by omega) (by omega)]
  have := number_loop s k n [] hs (by omega) h0 h1
  rw [List.append_nil, List.append_nil] at this
  exact this
end Go.Proofs.Ytfoagppeddflnaa.Cod

/- The pure statement of CodecNumbers. -/
import Derived.Test.YtfoagppeddflnaaCodQ
import Derived.Test.YtfoagppeddflnaaPT0722
namespace Go.Proofs.Ytfoagppeddflnaa.Pure
open Go.RowKit Go.Proofs.Ytfoagppeddflnaa.PT07 Go.Proofs.Ytfoagppeddflnaa.Cod Go.Proofs.YtfoagppeddflnaaW.PrintWords Go.Proofs.YtfoagppeddflnaaW.PrintLast

theorem CodecNumbers : ∀ (l0 : (List Int)) (a1 : Int) (a2 : Int), (l0.length * 1 ≤ 140737488351232 ∧ ∀ x ∈ l0, (Lit.int .u8 x).wf = true) → ((Lit.int .u64 a1).wf = true) → ((Lit.int .i64 a2).wf = true) → ∃ k, waypointlaw07_CodecNumbers.f k l0 a1 a2 = some true := by
  rintro l n z ⟨_, hw⟩ hn _
  have hb := by_of hw
  have hn : 0 ≤ n ∧ n < 18446744073709551616 := by
    simp [Lit.wf, IntKind.min, IntKind.max, IntKind.signed, IntKind.bits] at hn
    omega
  obtain ⟨k, hk⟩ : ∃ k, 50 < k := ⟨51, by omega⟩
  refine ⟨k + 1, ?_⟩
  unfold waypointlaw07_CodecNumbers.f
  rw [awake_yes _ (by omega)]
  simp only [Option.bind_some, if_true, List.nil_append]
  by_cases h : (l.length : Int) > 100
  · rw [if_pos h]
  rw [if_neg h, if_pos (by simp; omega), AppendUint_eq (k + 1) l n z (by omega) (by omega)]
  simp only [Option.bind_some]
  simp only [waypointlaw07_CodecNumbers.j0]
  by_cases h1 : z < 1 ∨ z > 8
  · rw [if_pos h1]
    by_cases h2 : z < 1
    · simp [h2]
    · have h3 : z > 8 := by omega
      simp [h2, h3]
  rw [if_neg h1, if_neg (by omega), decide_eq_false (by omega), if_neg (by simp)]
  obtain ⟨s, rfl⟩ := Int.eq_ofNat_of_zero_le (show 0 ≤ z by omega)
  have hs : s ≤ 8 := by omega
  rw [Fits_eq k s n hs hn.1 hn.2 (by omega)]
  simp only [Option.bind_some, Int.toNat_natCast]
  have h8 : s = 8 → n / 256 ^ s = 0 := fun e => by
    subst e
    rw [show (256 : Int) ^ 8 = 18446744073709551616 from by decide]
    omega
  by_cases h4 : n / 256 ^ s = 0
  · have hv : (if (s : Int) < 8 ∧ n / 256 ^ s ≠ 0 then (([] : List Int), (2 : Int)) else (l ++ hi s n, 0)) = (l ++ hi s n, 0) := if_neg (fun h => h.2 h4)
    rw [hv, h4]
    simp only [beq_self_eq_true, if_true]
    rw [Number_eq k s n hs hn.1 hn.2 (by omega)]
    simp only [Option.bind_some]
    have hsz : (strOfNums l).size + (strOfNums (hi s n)).size ≤ 9223372036854775807 := by
      rw [strOfNums_size, strOfNums_size, hi_len]; omega
    have hstr : (strOfNums (l ++ hi s n)).toList = ((strOfNums l) ++ (strOfNums (hi s n))).toList := by
      rw [ByteArray.toList_eq, ByteArray.toList_eq, strOfNums_data]
      simp [strOfNums]
    rw [if_pos hsz, if_pos hstr, if_pos (by omega), if_pos (by simp; omega), List.drop_left, Uint_eq k _ (hi_by s n) (by omega), hi_len, if_pos (by omega)]
    simp only [Option.bind_some, if_true]
    rw [U_hi]
    have : n % 256 ^ s = n := by
      have := Int.mul_ediv_add_emod n (256 ^ s)
      rw [h4] at this
      omega
    rw [this]
    simp
  · have h9 : (s : Int) < 8 := by
      rcases (by omega : s = 8 ∨ s < 8) with h | h
      · exact absurd (h8 h) h4
      · omega
    have hv : (if (s : Int) < 8 ∧ n / 256 ^ s ≠ 0 then (([] : List Int), (2 : Int)) else (l ++ hi s n, 0)) = ([], 2) := if_pos ⟨h9, h4⟩
    rw [hv, if_neg (by simpa using h4)]
    simp

end Go.Proofs.Ytfoagppeddflnaa.Pure

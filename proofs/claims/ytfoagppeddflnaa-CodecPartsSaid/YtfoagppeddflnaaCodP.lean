/- Plain laws of the codec: the awake example, the numbers. No Go, no memory. -/
import Derived.Test.YtfoagppeddflnaaPT076
import Derived.Test.YtfoagppeddflnaaPT075
import Derived.Test.YtfoagppeddflnaaPT0721
import Derived.Test.YtfoagppeddflnaaPT0723
import Derived.Test.YtfoagppeddflnaaPT0719
import Derived.Test.YtfoagppeddflnaaPT0720
namespace Go.Proofs.Ytfoagppeddflnaa.Cod
open Go.RowKit Go.Proofs.Ytfoagppeddflnaa.PT07 Go.Proofs.YtfoagppeddflnaaW.PrintWords Go.Proofs.YtfoagppeddflnaaW.PrintLast

theorem wrap_id {x : Int} (h1 : -9223372036854775808 ≤ x) (h2 : x ≤ 9223372036854775807) : wrap64 x = x := by unfold wrap64; omega
theorem uwrap_id {x : Int} (h1 : 0 ≤ x) (h2 : x < 18446744073709551616) : IntKind.u64.wrap x = x := by
  simp only [IntKind.wrap, IntKind.bits, IntKind.signed]
  simp
  omega
theorem awake_yes (k : Nat) (hk : 30 ≤ k) : waypointlaw07_awake.f k = some true := at_rounds waypointlaw07_awake.mono hk (by decide +kernel)
def By (l : List Int) : Prop := ∀ x ∈ l, 0 ≤ x ∧ x ≤ 255
theorem by_of {l : List Int} (h : ∀ x ∈ l, (Lit.int .u8 x).wf = true) : By l := fun x hx => by
  have := h x hx
  simp [Lit.wf, IntKind.min, IntKind.max, IntKind.signed, IntKind.bits] at this
  omega
theorem rd_drop {l : List Int} {i : Nat} (h : i < l.length) : l.drop i = rd l (i : Int) :: l.drop (i + 1) := by
  rw [List.drop_eq_getElem_cons h]
  congr 1
  simp [rd, h]
theorem By.rd {l : List Int} (hb : By l) {i : Nat} (h : i < l.length) : 0 ≤ rd l (i : Int) ∧ rd l (i : Int) ≤ 255 := hb _ (by simp [YtfoagppeddflnaaW.PrintWords.rd, h])
/-- The number that bytes tell. -/
def U : Int → List Int → Int
  | a, [] => a
  | a, b :: l => U (a * 256 + b) l
theorem pow_le {i : Nat} (h : i ≤ 7) : (256 : Int) ^ i ≤ 72057594037927936 ∧ (256 : Int) ^ (i + 1) = 256 * 256 ^ i ∧ (0 : Int) < 256 ^ i := by
  refine ⟨?_, by rw [Int.pow_succ]; omega, Int.pow_pos (by omega)⟩
  rcases (by omega : i = 0 ∨ i = 1 ∨ i = 2 ∨ i = 3 ∨ i = 4 ∨ i = 5 ∨ i = 6 ∨ i = 7) with rfl | rfl | rfl | rfl | rfl | rfl | rfl | rfl <;> decide
theorem join64 (x y : Int) (hx₀ : 0 ≤ x) (hx : x % 256 = 0) (hx₁ : x < 18446744073709551616) (hy₀ : 0 ≤ y) (hy : y < 256) : Go.bits .or .u64 x y = x + y :=
  bits_join .u64 64 (by decide) (fun n h0 h1 => uwrap_id h0 (by omega)) 8 x y hx₀ (by omega) (by omega) hy₀ (by omega) (by omega)
theorem uint_loop (l : List Int) (hb : By l) (hl : l.length ≤ 8) : ∀ (d i k : Nat) (a : Int), d + i = l.length → d < k → 0 ≤ a → a < 256 ^ i → codec_Uint.l0 k a l (l.length : Int) (i : Int) = some (U a (l.drop i), 0) := by
  intro d
  induction d with
  | zero =>
    intro i k a hd hk h0 h1
    obtain ⟨k, rfl⟩ : ∃ m, k = m + 1 := ⟨k - 1, by omega⟩
    rw [List.drop_eq_nil_of_le (by omega)]
    simp only [codec_Uint.l0, U]
    rw [if_neg (by omega)]
  | succ d ih =>
    intro i k a hd hk h0 h1
    obtain ⟨k, rfl⟩ : ∃ m, k = m + 1 := ⟨k - 1, by omega⟩
    have hr := hb.rd (i := i) (by omega)
    obtain ⟨q1, q2, q3⟩ := pow_le (i := i) (by omega)
    rw [rd_drop (by omega)]
    simp only [codec_Uint.l0, U]
    rw [if_pos (by omega), if_pos (by omega), if_pos (by omega), uwrap_id (x := a * 256) (by omega) (by omega), uwrap_id (x := rd l (i : Int)) (by omega) (by omega), join64 _ _ (by omega) (by omega) (by omega) (by omega) (by omega), wrap_id (x := (i : Int) + 1) (by omega) (by omega), show (i : Int) + 1 = ((i + 1 : Nat) : Int) by omega]
    exact ih (i + 1) k _ (by omega) (by omega) (by omega) (by rw [q2]; omega)
theorem refuint_loop (l : List Int) (hb : By l) (hl : l.length ≤ 8) : ∀ (d i k : Nat) (a : Int), d + i = l.length → d < k → 0 ≤ a → a < 256 ^ i → waypointref07_Uint.l0 k l a (i : Int) = some (U a (l.drop i)) := by
  intro d
  induction d with
  | zero =>
    intro i k a hd hk h0 h1
    obtain ⟨k, rfl⟩ : ∃ m, k = m + 1 := ⟨k - 1, by omega⟩
    rw [List.drop_eq_nil_of_le (by omega)]
    simp only [waypointref07_Uint.l0, U]
    rw [if_neg (by omega)]
  | succ d ih =>
    intro i k a hd hk h0 h1
    obtain ⟨k, rfl⟩ : ∃ m, k = m + 1 := ⟨k - 1, by omega⟩
    have hr := hb.rd (i := i) (by omega)
    obtain ⟨q1, q2, q3⟩ := pow_le (i := i) (by omega)
    rw [rd_drop (by omega)]
    simp only [waypointref07_Uint.l0, U]
    rw [if_pos (by omega), if_pos (by omega), uwrap_id (x := a * 256) (by omega) (by omega), uwrap_id (x := rd l (i : Int)) (by omega) (by omega), uwrap_id (by omega) (by omega), wrap_id (x := (i : Int) + 1) (by omega) (by omega), show (i : Int) + 1 = ((i + 1 : Nat) : Int) by omega]
    exact ih (i + 1) k _ (by omega) (by omega) (by omega) (by rw [q2]; omega)
theorem Uint_eq (k : Nat) (l : List Int) (hb : By l) (hk : 12 < k) : codec_Uint.f k l = some (if 1 ≤ l.length ∧ l.length ≤ 8 then (U 0 l, 0) else (0, 4)) := by
  obtain ⟨k, rfl⟩ : ∃ m, k = m + 1 := ⟨k - 1, by omega⟩
  unfold codec_Uint.f
  simp only [codec_Uint.j0]
  by_cases h1 : (l.length : Int) < 1
  · rw [if_pos h1, if_pos trivial, if_neg (by omega)]
  rw [if_neg h1]
  by_cases h2 : (l.length : Int) > 8
  · rw [decide_eq_true h2, if_pos rfl, if_neg (by omega)]
  · rw [decide_eq_false h2, if_neg (by simp), if_pos (by omega)]
    exact uint_loop l hb (by omega) l.length 0 k 0 (by omega) (by omega) (by omega) (by decide)
theorem RefUint_eq (k : Nat) (l : List Int) (hb : By l) (hl : l.length ≤ 8) (hk : 12 < k) : waypointref07_Uint.f k l = some (U 0 l) :=
  refuint_loop l hb hl l.length 0 k 0 (by omega) (by omega) (by omega) (by decide)

/-- The s bytes of a number, the highest first. -/
def hi : Nat → Int → List Int
  | 0, _ => []
  | s + 1, n => n / 256 ^ s % 256 :: hi s n
theorem hi_len : ∀ (s : Nat) (n : Int), (hi s n).length = s
  | 0, _ => rfl
  | s + 1, n => by simp [hi, hi_len s n]
theorem hi_by : ∀ (s : Nat) (n : Int), By (hi s n)
  | 0, _ => by intro x hx; simp [hi] at hx
  | s + 1, n => by
    intro x hx
    simp only [hi, List.mem_cons] at hx
    rcases hx with rfl | hx
    · omega
    · exact hi_by s n x hx
theorem div_pow (n : Int) (s : Nat) : n / 256 / 256 ^ s = n / 256 ^ (s + 1) := by
  rw [Int.ediv_ediv_of_nonneg (by omega), Int.pow_succ, Int.mul_comm]
theorem hi_snoc : ∀ (s : Nat) (n : Int), hi (s + 1) n = hi s (n / 256) ++ [n % 256]
  | 0, n => by simp [hi]
  | s + 1, n => by
    rw [hi, hi_snoc s n]
    conv => rhs; rw [hi]
    rw [div_pow]
    rfl
theorem emod_split (n : Int) (s : Nat) : n % 256 ^ (s + 1) = n % 256 ^ s + 256 ^ s * (n / 256 ^ s % 256) := by
  have hp : (0 : Int) < 256 ^ s := Int.pow_pos (by omega)
  rw [Int.pow_succ]
  generalize (256 : Int) ^ s = P at hp ⊢
  have e1 := Int.mul_ediv_add_emod n P
  have e2 := Int.mul_ediv_add_emod (n / P) 256
  have b1 := Int.emod_nonneg n (show P ≠ 0 by omega)
  have b2 := Int.emod_lt_of_pos n hp
  have b3 := Int.emod_nonneg (n / P) (show (256 : Int) ≠ 0 by omega)
  have b4 := Int.emod_lt_of_pos (n / P) (show (0 : Int) < 256 by omega)
  generalize n % P = r at *
  generalize n / P % 256 = u at *
  generalize n / P / 256 = v at *
  have h : n = (r + P * u) + (P * 256) * v := by
    rw [← e1, ← e2]
    grind
  have b5 : P * u ≤ P * 255 := Int.mul_le_mul_of_nonneg_left (by omega) (by omega)
  have b6 : 0 ≤ P * u := Int.mul_nonneg (by omega) (by omega)
  rw [h, Int.add_mul_emod_self_left, Int.emod_eq_of_lt (by omega) (by omega)]
theorem U_hi : ∀ (s : Nat) (n a : Int), U a (hi s n) = a * 256 ^ s + n % 256 ^ s
  | 0, n, a => by simp [U, hi, Int.emod_one]
  | s + 1, n, a => by
    simp only [hi, U]
    rw [U_hi s n]
    rw [emod_split, Int.pow_succ]
    grind
end Go.Proofs.Ytfoagppeddflnaa.Cod

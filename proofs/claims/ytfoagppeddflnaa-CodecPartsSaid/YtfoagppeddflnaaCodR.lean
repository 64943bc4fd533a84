/- Plain laws of the codec: Encode and Decode, and that each undoes the other. No Go, no memory. -/
import Derived.Test.YtfoagppeddflnaaCodP
import Derived.Test.YtfoagppeddflnaaPT071
import Derived.Test.YtfoagppeddflnaaPT073
namespace Go.Proofs.Ytfoagppeddflnaa.Cod
open Go.RowKit Go.Proofs.Ytfoagppeddflnaa.PT07 Go.Proofs.YtfoagppeddflnaaW.PrintWords Go.Proofs.YtfoagppeddflnaaW.PrintLast

theorem drop56 {l : List S56} {i : Nat} (h : i < l.length) : l.drop i = rd_T56 l (i : Int) :: l.drop (i + 1) := by
  rw [List.drop_eq_getElem_cons h]
  congr 1
  simp [rd_T56, h]
/-- The bytes of one record; of a list, with the first error. -/
def one (x : S56) : List Int := [x.f0 % 256, (x.f1.length : Int) / 256 % 256, (x.f1.length : Int) % 256] ++ x.f1
def ec (acc : List Int) : List S56 → List Int × Int
  | [] => (acc, 0)
  | x :: r => if x.f0 < 1 ∨ x.f0 > 255 then ([], 1) else if (x.f1.length : Int) > 65535 then ([], 6) else ec (acc ++ one x) r
theorem enc_loop (l : List S56) (hl : l.length ≤ 100000) : ∀ (d i k : Nat) (acc : List Int), d + i = l.length → 2 * d < k → acc.length ≤ 70000 * i → codec_Encode.l0 k acc l (l.length : Int) (i : Int) = some (ec acc (l.drop i)) := by
  intro d
  induction d with
  | zero =>
    intro i k acc hd hk ha
    obtain ⟨k, rfl⟩ : ∃ m, k = m + 1 := ⟨k - 1, by omega⟩
    rw [List.drop_eq_nil_of_le (by omega)]
    simp only [codec_Encode.l0, ec]
    rw [if_neg (by omega)]
  | succ d ih =>
    intro i k acc hd hk ha
    obtain ⟨k, rfl⟩ : ∃ m, k = m + 2 := ⟨k - 2, by omega⟩
    have hi : i < l.length := by omega
    rw [drop56 hi, show k + 2 = (k + 1) + 1 from rfl]
    generalize hx : rd_T56 l (i : Int) = x
    simp only [codec_Encode.l0, ec, hx]
    rw [if_pos (by omega), if_pos (by omega), if_pos (by omega)]
    have ht : codec_Encode.j1 (k + 1) acc l (l.length : Int) (i : Int) true x.f0 x.f1 = some ([], 1) := by simp [codec_Encode.j1]
    by_cases h1 : x.f0 < 1
    · rw [if_pos h1, if_pos (Or.inl h1), ht]
    rw [if_neg h1]
    by_cases h2 : x.f0 > 255
    · rw [decide_eq_true h2, if_pos (Or.inr h2), ht]
    rw [decide_eq_false h2, if_neg (by omega)]
    simp only [codec_Encode.j1, Bool.false_eq_true, if_false, Option.bind_some]
    by_cases h3 : (x.f1.length : Int) > 65535
    · rw [if_pos h3, if_pos h3]
    rw [if_neg h3, if_neg h3, if_pos (by simp; omega), if_pos (by simp; omega), wrap_id (x := (i : Int) + 1) (by omega) (by omega), show (i : Int) + 1 = ((i + 1 : Nat) : Int) by omega, ih (i + 1) k _ (by omega) (by omega) (by simp; omega)]
    simp [one]
theorem Encode_eq (k : Nat) (l : List S56) (hl : l.length ≤ 100000) (hk : 2 * l.length < k) : codec_Encode.f k l = some (ec [] l) :=
  enc_loop l hl l.length 0 k [] (by omega) (by omega) (by simp)
end Go.Proofs.Ytfoagppeddflnaa.Cod

/- Plain laws of the codec: Decode undoes Encode, and Encode undoes Decode. No Go, no memory. -/
import Derived.Test.YtfoagppeddflnaaCodR
import Derived.Test.YtfoagppeddflnaaPT073
namespace Go.Proofs.Ytfoagppeddflnaa.Cod
open Go.RowKit Go.Proofs.Ytfoagppeddflnaa.PT07 Go.Proofs.YtfoagppeddflnaaW.PrintWords Go.Proofs.YtfoagppeddflnaaW.PrintLast

def fl : List S56 → List Int
  | [] => []
  | x :: r => one x ++ fl r
def good (x : S56) : Prop := 1 ≤ x.f0 ∧ x.f0 ≤ 255 ∧ (x.f1.length : Int) ≤ 65535
theorem ec_good : ∀ (l : List S56) (acc : List Int), (∀ x ∈ l, good x) → ec acc l = (acc ++ fl l, 0)
  | [], acc, _ => by simp [ec, fl]
  | x :: r, acc, h => by
    have hx := h x (by simp)
    unfold good at hx
    simp only [ec, fl]
    rw [if_neg (by omega), if_neg (by omega), ec_good r _ (fun y hy => h y (by simp [hy]))]
    simp
theorem ec_bad : ∀ (l : List S56) (acc : List Int), (ec acc l).2 = 0 → ∀ x ∈ l, good x
  | [], _, _ => by simp
  | x :: r, acc, h => by
    simp only [ec] at h
    split at h
    · simp at h
    split at h
    · simp at h
    intro y hy
    rcases List.mem_cons.mp hy with rfl | hy
    · unfold good; omega
    · exact ec_bad r _ h y hy
theorem dec_one (x : S56) (r : List Int) (hg : good x) : 3 ≤ (one x ++ r).length ∧ rd (one x ++ r) 0 = x.f0 ∧ codec_Decode.end_ (one x ++ r) = 3 + (x.f1.length : Int) ∧ (one x ++ r).drop (3 + x.f1.length) = r ∧ ((one x ++ r).take (3 + x.f1.length)).drop 3 = x.f1 := by
  unfold good at hg
  have h0 : rd (one x ++ r) 0 = x.f0 % 256 := by simp [rd, one]
  have h1 : rd (one x ++ r) 1 = (x.f1.length : Int) / 256 % 256 := by simp [rd, one]
  have h2 : rd (one x ++ r) 2 = (x.f1.length : Int) % 256 := by simp [rd, one]
  have hl : (one x).length = 3 + x.f1.length := by simp [one]; omega
  refine ⟨by simp [one], by rw [h0]; omega, ?_, ?_, ?_⟩
  · unfold codec_Decode.end_
    rw [h1, h2]
    have hn0 : (0 : Int) ≤ (x.f1.length : Int) := by omega
    have hn1 := hg.2.2
    clear h0 h1 h2 hl hg
    generalize (x.f1.length : Int) = n at hn0 hn1 ⊢
    have h3 : 0 ≤ n / 256 % 256 ∧ n / 256 % 256 ≤ 255 := by omega
    have h4 : 0 ≤ n % 256 ∧ n % 256 ≤ 255 := by omega
    rw [wrap_id (x := n / 256 % 256) (by omega) (by omega), wrap_id (x := n / 256 % 256 * 256) (by omega) (by omega), wrap_id (x := n % 256) (by omega) (by omega), wrap_id (x := 3 + n / 256 % 256 * 256) (by omega) (by omega), wrap_id (by omega) (by omega)]
    omega
  · rw [← hl, List.drop_left]
  · rw [← hl, List.take_left]
    simp [one]
theorem dec_fl : ∀ (l : List S56) (k : Nat) (acc : List S56), (∀ x ∈ l, good x) → l.length < k → acc.length + l.length ≤ 4000000000000 → (fl l).length < 140737488355328 → codec_Decode.l0 k (fl l) acc = some (acc ++ l, 0)
  | [], k, acc, _, hk, _, _ => by
    obtain ⟨k, rfl⟩ : ∃ m, k = m + 1 := ⟨k - 1, by omega⟩
    simp [codec_Decode.l0, fl]
  | x :: r, k, acc, h, hk, ha, hb => by
    obtain ⟨k, rfl⟩ : ∃ m, k = m + 1 := ⟨k - 1, by omega⟩
    have hx := h x (by simp)
    obtain ⟨d1, d2, d3, d4, d5⟩ := dec_one x (fl r) hx
    have hg := hx
    unfold good at hg
    simp only [List.length_cons] at hk ha
    simp only [fl] at hb ⊢
    have hlen : (one x ++ fl r).length = 3 + x.f1.length + (fl r).length := by simp [one]; omega
    rw [codec_Decode.l0, d2, d3, if_pos (by omega), if_neg (by omega), if_neg (by omega), if_neg (by omega), if_pos (by omega), if_pos (by omega), if_pos hb, show (3 + (x.f1.length : Int)).toNat = 3 + x.f1.length by omega, d4, d5, show wrap64 x.f0 = x.f0 from wrap_id (by omega) (by omega), dec_fl r k _ (fun y hy => h y (by simp [hy])) (by omega) (by simp; omega) (by omega)]
    simp
end Go.Proofs.Ytfoagppeddflnaa.Cod

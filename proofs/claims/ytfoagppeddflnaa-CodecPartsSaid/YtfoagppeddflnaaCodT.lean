/- Plain law of the codec: what Decode takes, Encode gives back. No Go, no memory. -/
import Derived.Test.YtfoagppeddflnaaCodS
namespace Go.Proofs.Ytfoagppeddflnaa.Cod
open Go.RowKit Go.Proofs.Ytfoagppeddflnaa.PT07 Go.Proofs.YtfoagppeddflnaaW.PrintWords Go.Proofs.YtfoagppeddflnaaW.PrintLast

theorem end_eq (b0 b1 b2 : Int) (r : List Int) (h1 : 0 ≤ b1 ∧ b1 ≤ 255) (h2 : 0 ≤ b2 ∧ b2 ≤ 255) : codec_Decode.end_ (b0 :: b1 :: b2 :: r) = 3 + b1 * 256 + b2 := by
  unfold codec_Decode.end_
  rw [show rd (b0 :: b1 :: b2 :: r) 1 = b1 from rfl, show rd (b0 :: b1 :: b2 :: r) 2 = b2 from rfl, wrap_id (x := b1) (by omega) (by omega), wrap_id (x := b1 * 256) (by omega) (by omega), wrap_id (x := b2) (by omega) (by omega), wrap_id (x := 3 + b1 * 256) (by omega) (by omega), wrap_id (by omega) (by omega)]
theorem dec_back : ∀ (k : Nat) (b : List Int) (acc : List S56), By b → b.length < k → acc.length + b.length ≤ 4000000000000 →
    ∃ m e, codec_Decode.l0 k b acc = some (m, e) ∧ (e = 0 ∧ (∃ l, m = acc ++ l ∧ fl l = b ∧ (∀ x ∈ l, good x) ∧ l.length ≤ b.length) ∨ e = 4 ∧ m = [])
  | 0, b, _, _, hk, _ => by omega
  | k + 1, b, acc, hb, hk, ha => by
    rw [codec_Decode.l0]
    by_cases c1 : 0 < b.length
    · rw [if_pos c1]
      by_cases c2 : b.length < 3
      · rw [if_pos c2]; exact ⟨_, _, rfl, Or.inr ⟨rfl, rfl⟩⟩
      rw [if_neg c2]
      match b, hb, hk, ha, c2 with
      | b0 :: b1 :: b2 :: r, hb, hk, ha, _ =>
        have h0 := hb b0 (by simp)
        have h1 := hb b1 (by simp)
        have h2 := hb b2 (by simp)
        rw [end_eq b0 b1 b2 r h1 h2, show rd (b0 :: b1 :: b2 :: r) 0 = b0 from rfl]
        by_cases c3 : b0 = 0
        · rw [if_pos c3]; exact ⟨_, _, rfl, Or.inr ⟨rfl, rfl⟩⟩
        rw [if_neg c3]
        by_cases c4 : ((b0 :: b1 :: b2 :: r).length : Int) < 3 + b1 * 256 + b2
        · rw [if_pos c4]; exact ⟨_, _, rfl, Or.inr ⟨rfl, rfl⟩⟩
        rw [if_neg c4, if_pos (by omega), if_pos (by simp at ha; omega), if_pos (by simp at ha ⊢; omega), wrap_id (by omega) (by omega)]
        obtain ⟨n, hn⟩ : ∃ n : Nat, (n : Int) = b1 * 256 + b2 := ⟨(b1 * 256 + b2).toNat, by omega⟩
        rw [show (3 + b1 * 256 + b2).toNat = 3 + n by omega]
        have hlr : n ≤ r.length := by simp at c4; omega
        have hd : (b0 :: b1 :: b2 :: r).drop (3 + n) = r.drop n := by rw [Nat.add_comm]; rfl
        have ht : ((b0 :: b1 :: b2 :: r).take (3 + n)).drop 3 = r.take n := by rw [Nat.add_comm]; rfl
        rw [hd, ht]
        simp only [List.length_cons] at hk ha
        obtain ⟨m, e, q1, q2⟩ := dec_back k (r.drop n) (acc ++ [⟨b0, r.take n⟩]) (fun x hx => hb x (by simp [List.mem_of_mem_drop hx])) (by simp; omega) (by simp; omega)
        refine ⟨m, e, q1, ?_⟩
        rcases q2 with ⟨e0, l, m1, m2, m3, m4⟩ | q
        · refine Or.inl ⟨e0, ⟨b0, r.take n⟩ :: l, by rw [m1]; simp, ?_, ?_, by simp at m4 ⊢; omega⟩
          · have hmin : min n r.length = n := by omega
            simp only [fl, one, m2, List.length_take, hmin]
            rw [show b0 % 256 = b0 by omega, show (n : Int) / 256 % 256 = b1 by omega, show (n : Int) % 256 = b2 by omega]
            simp
          · intro x hx
            rcases List.mem_cons.mp hx with rfl | hx
            · unfold good
              simp only [List.length_take]
              omega
            · exact m3 x hx
        · exact Or.inr q
      | [], _, _, _, h => simp at c1
      | [_], _, _, _, h => simp at h
      | [_, _], _, _, _, h => simp at h
    · rw [if_neg c1]
      have : b = [] := List.eq_nil_of_length_eq_zero (by omega)
      exact ⟨_, _, rfl, Or.inl ⟨rfl, [], by simp, by rw [this]; rfl, by simp, by simp⟩⟩
end Go.Proofs.Ytfoagppeddflnaa.Cod

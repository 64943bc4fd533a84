/- Plain law of the codec: what Decode makes of a beginning of an encoding. No Go, no memory. -/
import Derived.Test.YtfoagppeddflnaaCodV
namespace Go.Proofs.Ytfoagppeddflnaa.Cod
open Go.RowKit Go.Proofs.Ytfoagppeddflnaa.PT07 Go.Proofs.YtfoagppeddflnaaW.PrintWords Go.Proofs.YtfoagppeddflnaaW.PrintLast

theorem one_len (x : S56) : (one x).length = 3 + x.f1.length := by simp [one]; omega
theorem end_of {b : List Int} {n : Nat} (hn : n ≤ 65535) (h1 : rd b 1 = (n : Int) / 256 % 256) (h2 : rd b 2 = (n : Int) % 256) : codec_Decode.end_ b = 3 + (n : Int) := by
  unfold codec_Decode.end_
  rw [h1, h2]
  clear h1 h2
  have hn0 : (0 : Int) ≤ (n : Int) := by omega
  have hn1 : (n : Int) ≤ 65535 := by omega
  clear hn
  generalize (n : Int) = n at hn0 hn1 ⊢
  have h3 : 0 ≤ n / 256 % 256 ∧ n / 256 % 256 ≤ 255 := by omega
  have h4 : 0 ≤ n % 256 ∧ n % 256 ≤ 255 := by omega
  rw [wrap_id (x := n / 256 % 256) (by omega) (by omega), wrap_id (x := n / 256 % 256 * 256) (by omega) (by omega), wrap_id (x := n % 256) (by omega) (by omega), wrap_id (x := 3 + n / 256 % 256 * 256) (by omega) (by omega), wrap_id (by omega) (by omega)]
  omega
theorem len_take_app (a f : List Int) (k : Nat) (h1 : a.length ≤ k) (h2 : k ≤ a.length + f.length) : (a ++ f.take (k - a.length)).length = k := by
  rw [List.length_append, List.length_take]
  omega
theorem dec_step (x : S56) (rest : List Int) (acc : List S56) (K : Nat) (hx : good x) (ha : acc.length < 4398046511103) (hb : (one x ++ rest).length < 140737488355328) : codec_Decode.l0 (K + 1) (one x ++ rest) acc = codec_Decode.l0 K rest (acc ++ [x]) := by
  obtain ⟨d1, d2, d3, d4, d5⟩ := dec_one x rest hx
  have hl1 := one_len x
  have hlen : (one x ++ rest).length = 3 + x.f1.length + rest.length := by rw [List.length_append, hl1]
  unfold good at hx
  obtain ⟨N, hN⟩ : ∃ N, (one x ++ rest).length = N := ⟨_, rfl⟩
  obtain ⟨M, hM⟩ : ∃ M, x.f1.length = M := ⟨_, rfl⟩
  rw [hN, hM] at hlen
  rw [hM] at d3 d4 d5 hx
  have c1 : 0 < N := by clear ha hb d1; omega
  have c2 : ¬ N < 3 := by clear ha hb; omega
  have c3 : ¬ x.f0 = 0 := by clear ha hb; omega
  have c4 : ¬ (N : Int) < 3 + (M : Int) := by clear ha hb; omega
  have c5 : 3 ≤ 3 + (M : Int) := by clear ha hb; omega
  have c6 : (3 + (M : Int)).toNat = 3 + M := by clear ha hb; omega
  have c7 : wrap64 x.f0 = x.f0 := wrap_id (by clear ha hb; omega) (by clear ha hb; omega)
  rw [← hN] at c1 c2 c4
  rw [codec_Decode.l0, d2, d3, if_pos c1, if_neg c2, if_neg c3, if_neg c4, if_pos c5, if_pos ha, if_pos hb, c6, d4, d5, c7]
theorem dec_cut (x : S56) (acc : List S56) (K k : Nat) (hx : good x) (h0 : 0 < k) (hk : k < (one x).length) : codec_Decode.l0 (K + 1) ((one x).take k) acc = some ([], 4) := by
  have hl1 := one_len x
  unfold good at hx
  have hbl : ((one x).take k).length = k := by rw [List.length_take]; omega
  have c1 : 0 < ((one x).take k).length := by omega
  rw [codec_Decode.l0, if_pos c1]
  by_cases h3 : k < 3
  · have c2 : ((one x).take k).length < 3 := by omega
    rw [if_pos c2]
  have c2 : ¬ ((one x).take k).length < 3 := by omega
  rw [if_neg c2]
  obtain ⟨k, rfl⟩ : ∃ q, k = q + 3 := ⟨k - 3, by omega⟩
  have e0 : rd ((one x).take (k + 3)) 0 = x.f0 % 256 := by simp [rd, one]
  have e1 : rd ((one x).take (k + 3)) 1 = (x.f1.length : Int) / 256 % 256 := by simp [rd, one]
  have e2 : rd ((one x).take (k + 3)) 2 = (x.f1.length : Int) % 256 := by simp [rd, one]
  have c3 : ¬ rd ((one x).take (k + 3)) 0 = 0 := by rw [e0]; omega
  have hn : x.f1.length ≤ 65535 := by have := hx.2.2; clear hbl c1 c2 e0 e1 e2 c3; omega
  have c4 := end_of (b := (one x).take (k + 3)) (n := x.f1.length) hn e1 e2
  have c5 : (((one x).take (k + 3)).length : Int) < 3 + (x.f1.length : Int) := by
    rw [hbl]
    rw [hl1] at hk
    clear hbl c1 c2 e0 e1 e2 c3 c4
    omega
  rw [if_neg c3, c4, if_pos c5]
theorem take_app (a f : List Int) (k : Nat) (h1 : a.length ≤ k) : (a ++ f).take k = a ++ f.take (k - a.length) := by
  rw [List.take_append, List.take_of_length_le h1]
theorem dec_part : ∀ (l : List S56) (k K n : Nat) (acc : List S56), (∀ x ∈ l, good x) → k ≤ (fl l).length → n ≤ l.length → (∀ j, j < n → (fl (l.take j)).length < k) → (n = l.length ∨ k ≤ (fl (l.take n)).length) →
    l.length < K → (∀ j, j < l.length → acc.length + j < 4398046511103) → (fl l).length < 140737488355328 →
    codec_Decode.l0 K ((fl l).take k) acc = some (if (fl (l.take n)).length = k then (acc ++ l.take n, 0) else ([], 4))
  | [], k, K, n, acc, _, hk, hn, _, _, hK, _, _ => by
    obtain ⟨K, rfl⟩ : ∃ m, K = m + 1 := ⟨K - 1, by omega⟩
    obtain rfl : k = 0 := by simpa [fl] using hk
    simp [codec_Decode.l0, fl]
  | x :: r, k, K, n, acc, hg, hk, hn, hlt, hend, hK, ha, hb => by
    obtain ⟨K, rfl⟩ : ∃ m, K = m + 1 := ⟨K - 1, by omega⟩
    have hx := hg x (by simp)
    have hfl : fl (x :: r) = one x ++ fl r := rfl
    have htk : ∀ j, (fl ((x :: r).take (j + 1))).length = (one x).length + (fl (r.take j)).length := fun j => by
      show (one x ++ fl (r.take j)).length = _
      rw [List.length_append]
    have hl1 : 3 ≤ (one x).length := by rw [one_len]; omega
    rcases Nat.eq_zero_or_pos k with h0 | h0
    · subst h0
      have : n = 0 := by
        rcases Nat.eq_zero_or_pos n with h | h
        · exact h
        · exact absurd (hlt 0 h) (Nat.not_lt_zero _)
      subst this
      simp [codec_Decode.l0, fl]
    · have hn1 : n ≠ 0 := fun h => by
        subst h
        rcases hend with h | h
        · simp at h
        · exact absurd h (Nat.not_le_of_lt h0)
      obtain ⟨m, rfl⟩ : ∃ m, n = m + 1 := ⟨n - 1, by omega⟩
      rw [hfl] at hk hb ⊢
      have hk2 := hk
      rw [List.length_append] at hk2
      by_cases hkx : k < (one x).length
      · have hm : m = 0 := by
          rcases Nat.eq_zero_or_pos m with h | h
          · exact h
          · have h1 := hlt 1 (by omega)
            rw [htk 0] at h1
            exact absurd h1 (by omega)
        subst hm
        have hne : (fl ((x :: r).take (0 + 1))).length ≠ k := by
          rw [htk 0]
          intro h
          exact absurd hkx (by omega)
        rw [if_neg hne, List.take_append_of_le_length (Nat.le_of_lt hkx), dec_cut x acc K k hx h0 hkx]
      · have hge := Nat.le_of_not_lt hkx
        rw [take_app _ _ k hge, dec_step x _ acc K hx (by have := ha 0 (by simp); omega) (by rw [len_take_app _ _ k hge hk2]; exact Nat.lt_of_le_of_lt hk hb)]
        have hih := dec_part r (k - (one x).length) K m (acc ++ [x]) (fun y hy => hg y (by simp [hy])) (Nat.sub_le_iff_le_add'.2 hk2) (by simpa using hn) (fun j hj => by
            have h1 := hlt (j + 1) (by omega)
            rw [htk j] at h1
            clear ha hb
            omega) (by
            rcases hend with h | h
            · exact .inl (by simpa using h)
            · right
              rw [htk m] at h
              clear ha hb
              omega) (by simpa using hK) (fun j hj => by have := ha (j + 1) (by simpa using hj); rw [List.length_append]; simp; omega) (Nat.lt_of_le_of_lt (by rw [List.length_append]; omega) hb)
        have hc : (fl ((x :: r).take (m + 1))).length = k ↔ (fl (r.take m)).length = k - (one x).length := by
          rw [htk m]
          clear ha hb
          omega
        rw [hih]
        by_cases q : (fl (r.take m)).length = k - (one x).length
        · rw [if_pos q, if_pos (hc.2 q)]
          simp
        · rw [if_neg q, if_neg (fun h => q (hc.1 h))]
theorem fl_append (a b : List S56) : fl (a ++ b) = fl a ++ fl b := by
  induction a with
  | nil => rfl
  | cons x a ih => simp [fl, ih]
theorem fl_len (l : List S56) (h : ∀ x ∈ l, good x) : (fl l).length ≤ 70000 * l.length := by
  induction l with
  | nil => simp [fl]
  | cons x r ih =>
    have hx := h x (by simp)
    have := ih (fun y hy => h y (by simp [hy]))
    unfold good at hx
    simp [fl, one]
    omega
theorem fl_take_succ (l : List S56) (n : Nat) (h : n < l.length) : (fl (l.take (n + 1))).length = (fl (l.take n)).length + 3 + (l[n]).f1.length := by
  rw [List.take_succ_eq_append_getElem h, fl_append]
  simp [fl, one]
  omega
theorem fl_take_le (l : List S56) (n : Nat) : (fl (l.take n)).length ≤ (fl l).length := by
  have : fl l = fl (l.take n) ++ fl (l.drop n) := by rw [← fl_append, List.take_append_drop]
  rw [this]
  simp
theorem good_append {a b : List S56} (ha : ∀ x ∈ a, good x) (hb : ∀ x ∈ b, good x) : ∀ x ∈ a ++ b, good x := fun x hx => by
  rcases List.mem_append.1 hx with h | h
  · exact ha x h
  · exact hb x h
end Go.Proofs.Ytfoagppeddflnaa.Cod

/- The pure statement of FletcherJoins: for every two lists of bytes and every number, Join's answer is the sums of the two lists one after the other, and the number counts modulo 255 alone (at most 1000 bytes each). -/
import Derived.Test.YtandnmkllijnhaaFlet
namespace Go.Proofs.Ytandnmkllijnhaa.Pure
open Go.RowKit Go.Proofs.Ytandnmkllijnhaa.PT08 Go.Proofs.Ytandnmkllijnhaa.Flet Go.Proofs.YtandnmkllijnhaaW.PrintWords Go.Proofs.YtandnmkllijnhaaW.PrintLast

theorem join_eq (a b c d n : Int) (ha : 0 ≤ a ∧ a < 255) (hb : 0 ≤ b ∧ b < 255) (hc : 0 ≤ c ∧ c < 255) (hd : 0 ≤ d ∧ d < 255) : fletcher_Join.f a b c d n = some ((a + c) % 255, (b + n % 255 * a + d) % 255) := by
  have hn : 0 ≤ n % 255 ∧ n % 255 < 255 := by omega
  have h1 : a % 255 = a := by omega
  have h2 : b % 255 = b := by omega
  have h3 : c % 255 = c := by omega
  have h4 : d % 255 = d := by omega
  have hm : 0 ≤ n % 255 * a ∧ n % 255 * a ≤ 255 * 255 := ⟨Int.mul_nonneg hn.1 ha.1, Int.mul_le_mul (by omega) (by omega) ha.1 (by omega)⟩
  unfold fletcher_Join.f
  simp only [reduce_eq, Option.bind_some, h1, h2, h3, h4]
  generalize n % 255 = m at *
  rw [wrap_id (x := a + c) (by omega) (by omega), wrap_id (x := m * a) (by omega) (by omega), wrap_id (x := b + m * a) (by omega) (by omega), wrap_id (x := b + m * a + d) (by omega) (by omega)]
theorem FletcherJoins : ∀ (l0 : List Int) (l1 : List Int) (a2 : Int), (l0.length * 1 ≤ 140737488351232 ∧ ∀ x ∈ l0, (Lit.int .u8 x).wf = true) → (l1.length * 1 ≤ 140737488351232 ∧ ∀ x ∈ l1, (Lit.int .u8 x).wf = true) → ((Lit.int .i64 a2).wf = true) → ∃ k, waypointlaw08_FletcherJoins.f k l0 l1 a2 = some true := by
  rintro l m n ⟨hl1, hw1⟩ ⟨hl2, hw2⟩ hn
  have hb1 := by_of hw1
  have hb2 := by_of hw2
  refine ⟨l.length + m.length + 3001, ?_⟩
  unfold waypointlaw08_FletcherJoins.f
  rw [awake_yes _ (by omega)]
  simp only [Option.bind_some, if_true]
  by_cases h : (l.length : Int) > 1000
  · rw [if_pos h]
    simp [waypointlaw08_FletcherJoins.j0]
  rw [if_neg h]
  by_cases h2 : (m.length : Int) > 1000
  · rw [decide_eq_true h2]
    simp [waypointlaw08_FletcherJoins.j0]
  rw [decide_eq_false h2]
  simp only [waypointlaw08_FletcherJoins.j0]
  rw [if_neg (by decide), ref_eq _ l hb1 (by omega) (by omega), ref_eq _ m hb2 (by omega) (by omega)]
  simp only [Option.bind_some]
  have r1 : 0 ≤ S l % 255 ∧ S l % 255 < 255 := by omega
  have r2 : 0 ≤ T l % 255 ∧ T l % 255 < 255 := by omega
  have r3 : 0 ≤ S m % 255 ∧ S m % 255 < 255 := by omega
  have r4 : 0 ≤ T m % 255 ∧ T m % 255 < 255 := by omega
  simp only [join_eq _ _ _ _ _ r1 r2 r3 r4, Option.bind_some, List.length_nil, Nat.zero_add, List.nil_append]
  rw [if_pos (by omega), if_pos (by omega), ref_eq _ (l ++ m) (hb1.append hb2) (by rw [List.length_append]; omega) (by rw [List.length_append]; omega)]
  simp only [Option.bind_some, Reduced_eq]
  rw [show n % 255 % 255 = n % 255 by omega, S_append, T_append]
  have e1 : (S l % 255 + S m % 255) % 255 = (S l + S m) % 255 := by omega
  have e2 : (T l % 255 + (m.length : Int) % 255 * (S l % 255) + T m % 255) % 255 = (T l + m.length * S l + T m) % 255 := by
    have q1 : S l % 255 = S l - 255 * (S l / 255) := by omega
    have q2 : T l % 255 = T l - 255 * (T l / 255) := by omega
    have q3 : T m % 255 = T m - 255 * (T m / 255) := by omega
    have q4 : (m.length : Int) % 255 = m.length - 255 * ((m.length : Int) / 255) := by omega
    generalize S l / 255 = p1 at q1
    generalize T l / 255 = p2 at q2
    generalize T m / 255 = p3 at q3
    generalize (m.length : Int) / 255 = p4 at q4
    rw [q1, q2, q3, q4]
    exact modw (-p2 - p3 - p4 * (S l - 255 * p1) - m.length * p1) (by grind)
  rw [e1, e2]
  simp

end Go.Proofs.Ytandnmkllijnhaa.Pure

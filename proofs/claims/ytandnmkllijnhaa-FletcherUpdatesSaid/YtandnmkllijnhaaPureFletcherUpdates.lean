/- The pure statement of FletcherUpdates: for every two lists of bytes and every two numbers: Update, given the sums of the first list and multiples of 255 more, answers with the sums of both lists one after the other (at most 1000 bytes each). -/
import Derived.Test.YtandnmkllijnhaaFlet
namespace Go.Proofs.Ytandnmkllijnhaa.Pure
open Go.RowKit Go.Proofs.Ytandnmkllijnhaa.PT08 Go.Proofs.Ytandnmkllijnhaa.Flet Go.Proofs.YtandnmkllijnhaaW.PrintWords Go.Proofs.YtandnmkllijnhaaW.PrintLast

theorem FletcherUpdates : ∀ (l0 : List Int) (l1 : List Int) (a2_0 : Int) (a2_1 : Int), (l0.length * 1 ≤ 140737488351232 ∧ ∀ x ∈ l0, (Lit.int .u8 x).wf = true) → (l1.length * 1 ≤ 140737488351232 ∧ ∀ x ∈ l1, (Lit.int .u8 x).wf = true) → ((Lit.int .i16 a2_0).wf = true) → ((Lit.int .i16 a2_1).wf = true) → ∃ k, waypointlaw08_FletcherUpdates.f k l0 l1 a2_0 a2_1 = some true := by
  rintro l m p q ⟨hl1, hw1⟩ ⟨hl2, hw2⟩ hp hq
  have hb1 := by_of hw1
  have hb2 := by_of hw2
  simp [Lit.wf, IntKind.min, IntKind.max, IntKind.signed, IntKind.bits] at hp hq
  refine ⟨l.length + m.length + 3001, ?_⟩
  unfold waypointlaw08_FletcherUpdates.f
  rw [awake_yes _ (by omega)]
  simp only [Option.bind_some, if_true]
  by_cases h : (l.length : Int) > 1000
  · rw [if_pos h]
    simp [waypointlaw08_FletcherUpdates.j0]
  rw [if_neg h]
  by_cases h2 : (m.length : Int) > 1000
  · rw [decide_eq_true h2]
    simp [waypointlaw08_FletcherUpdates.j0]
  rw [decide_eq_false h2]
  simp only [waypointlaw08_FletcherUpdates.j0]
  rw [if_neg (by decide), ref_eq _ l hb1 (by omega) (by omega)]
  simp only [Option.bind_some]
  rw [update_eq _ _ _ m hb2 (by omega) (by omega)]
  simp only [Option.bind_some, List.length_nil, Nat.zero_add, List.nil_append]
  rw [if_pos (by omega), if_pos (by omega), ref_eq _ (l ++ m) (hb1.append hb2) (by rw [List.length_append]; omega) (by rw [List.length_append]; omega)]
  simp only [Option.bind_some]
  rw [S_append, T_append]
  rw [wrap_id (x := p) (by omega) (by omega), wrap_id (x := q) (by omega) (by omega), wrap_id (x := 255 * p) (by omega) (by omega), wrap_id (x := 255 * q) (by omega) (by omega), wrap_id (x := S l % 255 + 255 * p) (by omega) (by omega), wrap_id (x := T l % 255 + 255 * q) (by omega) (by omega)]
  have e1 : (S l % 255 + 255 * p + S m) % 255 = (S l + S m) % 255 := by omega
  have e2 : (T l % 255 + 255 * q + (m.length : Int) * (S l % 255 + 255 * p) + T m) % 255 = (T l + m.length * S l + T m) % 255 := by
    have q1 : S l % 255 = S l - 255 * (S l / 255) := by omega
    have q2 : T l % 255 = T l - 255 * (T l / 255) := by omega
    generalize S l / 255 = p1 at q1
    generalize T l / 255 = p2 at q2
    rw [q1, q2]
    exact modw (q - p2 + m.length * (p - p1)) (by grind)
  rw [e1, e2]
  simp

end Go.Proofs.Ytandnmkllijnhaa.Pure

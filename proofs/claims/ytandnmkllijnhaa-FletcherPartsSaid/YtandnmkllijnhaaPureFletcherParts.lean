/- The pure statement of FletcherParts: for every two lists of bytes and every number of zeros: the sums of what begins with a sealed part are those of the rest, and zeros before a sealed list leave it sealed (from 2 to 300 bytes, at most 300 bytes). -/
import Derived.Test.YtandnmkllijnhaaFlet
namespace Go.Proofs.Ytandnmkllijnhaa.Pure
open Go.RowKit Go.Proofs.Ytandnmkllijnhaa.PT08 Go.Proofs.Ytandnmkllijnhaa.Flet Go.Proofs.YtandnmkllijnhaaW.PrintWords Go.Proofs.YtandnmkllijnhaaW.PrintLast

theorem T_zeros (n : Nat) : T (List.replicate n 0) = 0 ∧ S (List.replicate n 0) = 0 := by
  induction n with
  | zero => simp [T, S]
  | succ n ih => simp [List.replicate_succ, T, S, ih.1, ih.2]
theorem FletcherParts : ∀ (l0 : List Int) (l1 : List Int) (a2 : Int), (l0.length * 1 ≤ 140737488351232 ∧ ∀ x ∈ l0, (Lit.int .u8 x).wf = true) → (l1.length * 1 ≤ 140737488351232 ∧ ∀ x ∈ l1, (Lit.int .u8 x).wf = true) → ((Lit.int .u8 a2).wf = true) → ∃ k, waypointlaw08_FletcherParts.f k l0 l1 a2 = some true := by
  rintro l m n ⟨hl1, hw1⟩ ⟨hl2, hw2⟩ hn
  have hb1 := by_of hw1
  have hb2 := by_of hw2
  have hn' : 0 ≤ n ∧ n ≤ 255 := by
    simp [Lit.wf, IntKind.min, IntKind.max, IntKind.signed, IntKind.bits] at hn
    omega
  refine ⟨l.length + m.length + 3001, ?_⟩
  unfold waypointlaw08_FletcherParts.f
  rw [awake_yes _ (by omega)]
  simp only [Option.bind_some, if_true]
  by_cases h : (l.length : Int) < 2
  · rw [if_pos h]
    simp [waypointlaw08_FletcherParts.j0]
  rw [if_neg h]
  by_cases h1 : (l.length : Int) > 300
  · rw [if_pos h1]
    simp [waypointlaw08_FletcherParts.j0]
  rw [if_neg h1]
  by_cases h2 : (m.length : Int) > 300
  · rw [decide_eq_true h2]
    simp [waypointlaw08_FletcherParts.j0]
  rw [decide_eq_false h2]
  simp only [waypointlaw08_FletcherParts.j0]
  rw [if_neg (by decide), wrap_id (x := (l.length : Int) - 2) (by omega) (by omega)]
  obtain ⟨out, hs, hbo, hlo, hS, hT⟩ := seal_ok (l.length + m.length + 3000) l ((l.length : Int) - 2) hb1 (by omega) (by omega) (by omega) (by omega)
  rw [hs]
  simp only [Option.bind_some, if_true, List.length_nil, Nat.zero_add, List.nil_append]
  rw [if_pos (by omega), if_pos (by omega), sum_eq _ (out ++ m) (hbo.append hb2) (by simp; omega) (by simp; omega), sum_eq _ m hb2 (by omega) (by omega)]
  simp only [Option.bind_some]
  have e1 : S (out ++ m) % 255 = S m % 255 := by rw [S_append]; omega
  have e2 : T (out ++ m) % 255 = T m % 255 := by
    rw [T_append]
    have q1 : S out = 255 * (S out / 255) := by omega
    have q2 : T out = 255 * (T out / 255) := by omega
    generalize S out / 255 = p1 at q1
    generalize T out / 255 = p2 at q2
    rw [q1, q2]
    exact modw (p2 + m.length * p1) (by grind)
  rw [if_pos e1, if_pos e2, if_pos hn'.1, if_pos (by omega), if_pos (by simp; omega)]
  have hz : By (List.replicate n.toNat 0) := by
    intro x hx
    rw [(List.mem_replicate.1 hx).2]
    omega
  rw [check_eq _ _ (hz.append hbo) (by simp; omega) (by simp; omega)]
  simp only [Option.bind_some]
  rw [S_append, T_append, (T_zeros _).1, (T_zeros _).2]
  simp [hS, hT]

end Go.Proofs.Ytandnmkllijnhaa.Pure

import Derived.Test.YtpliaagfhjnnaaaEvV
import Derived.Test.YtpliaagfhjnnaaaEvX
namespace Go.Proofs.Ytpliaagfhjnnaaa.Ev
open Go.RowKit Go.Proofs.YtpliaagfhjnnaaaW.PrintWords Go.Proofs.Ytpliaagfhjnnaaa.Sep Go.Proofs.Ytpliaagfhjnnaaa.HeapP Go.Proofs.Ytpliaagfhjnnaaa.Heap Go.Proofs.Ytpliaagfhjnnaaa.EvP
set_option linter.unusedVariables false
set_option linter.unusedSimpArgs false

/-! The queue and the reference side by side. -/
def TwoR (w0 w : World) (O : Nat → Prop) (q : Nat) (E1 : List EvP.Ev) (l1 n1 : Int) (r : Nat) (E2 : List EvP.Ev) (l2 n2 : Int) : Prop :=
  ∃ G1 G2, QIs w G1 q E1 l1 n1 ∧ RQ w G2 r E2 l2 n2 ∧ Below w0.heap.size w0 w ∧ (∀ k, G1 k → w0.heap.size ≤ k) ∧ (∀ k, G2 k → w0.heap.size ≤ k) ∧ (∀ k, G1 k → ¬ G2 k) ∧ (∀ k, O k → ¬ G1 k ∧ ¬ G2 k ∧ k < w.heap.size)
section
variable {w0 w w1 : World} {O : Nat → Prop} {q r : Nat} {E1 E2 E' : List EvP.Ev} {l1 n1 l2 n2 l' n' : Int}
theorem TwoR.left (h : TwoR w0 w O q E1 l1 n1 r E2 l2 n2) : ∃ O1, QS w0 w O1 q E1 l1 n1 ∧ ∀ w1 E' l' n', QS w0 w1 O1 q E' l' n' → Chg (OthQ w0 O1) w w1 → TwoR w0 w1 O q E' l' n' r E2 l2 n2 ∧ Chg (OthQ w0 O) w w1 := by
  obtain ⟨G1, G2, a, b, c, d, e, f, g⟩ := h
  refine ⟨fun k => G2 k ∨ O k, ⟨G1, a, c, d, fun k hk => ?_⟩, fun w1 E' l' n' hs hc => ?_⟩
  · rcases hk with hk | hk
    · exact ⟨fun h1 => f k h1 hk, b.lt k hk⟩
    · exact ⟨(g k hk).1, (g k hk).2.2⟩
  · obtain ⟨G3, a3, c3, d3, g3⟩ := hs
    exact ⟨⟨G3, G2, a3, b.kept hc (fun k hk ho => ho.2 (.inl hk)), c3, d3, e, fun k h1 h2 => (g3 k (.inl h2)).1 h1, fun k hk => ⟨(g3 k (.inr hk)).1, (g k hk).2.1, (g3 k (.inr hk)).2⟩⟩, hc.mono (fun k _ ho => ⟨ho.1, fun h => ho.2 (.inr h)⟩)⟩
theorem TwoR.right (h : TwoR w0 w O q E1 l1 n1 r E2 l2 n2) : ∃ G2, RQ w G2 r E2 l2 n2 ∧ ∀ w1 E' l' n', RPst w G2 r E' l' n' w1 → TwoR w0 w1 O q E1 l1 n1 r E' l' n' ∧ Chg (OthQ w0 O) w w1 := by
  obtain ⟨G1, G2, a, b, c, d, e, f, g⟩ := h
  refine ⟨G2, b, fun w1 E' l' n' hp => ⟨⟨G1, Gr G2 w w1, a.kept hp.2 (fun k h1 h2 => f k h1 h2), hp.1, hp.2.below c c.size e, d, fun k hk => hk.elim (e k) (fun q => Nat.le_trans c.size q.1), fun k h1 h2 => ?_, fun k hk => ⟨(g k hk).1, fun h2 => ?_, Nat.lt_of_lt_of_le (g k hk).2.2 hp.2.size⟩⟩, hp.2.mono (fun k _ hf => ⟨e k hf, fun ho => (g k ho).2.1 hf⟩)⟩⟩
  · rcases h2 with h2 | h2
    · exact f k h1 h2
    · have := a.lt k h1; omega
  · rcases h2 with h2 | h2
    · exact (g k hk).2.1 h2
    · have := (g k hk).2.2; omega
theorem TwoR.below (h : TwoR w0 w O q E1 l1 n1 r E2 l2 n2) : Below w0.heap.size w0 w := by
  obtain ⟨G1, G2, a, b, c, _⟩ := h
  exact c
theorem TwoR.facts (h : TwoR w0 w O q E1 l1 n1 r E2 l2 n2) : E1.Pairwise (fun a b => a.id < b.id) ∧ (∀ e ∈ E1, 1 ≤ e.id ∧ e.id ≤ l1) ∧ (∀ e ∈ E1, n1 ≤ e.time ∧ e.time ≤ 1073741824) ∧ (0 ≤ n1 ∧ n1 ≤ 1073741824) ∧ 0 ≤ l1 ∧ E1.length ≤ 65536 := by
  obtain ⟨G1, G2, a, b, c, _⟩ := h
  exact a.facts
theorem TwoR.drewN (h : TwoR w0 w O q E1 l1 n1 r E2 l2 n2) (n : Nat) : TwoR w0 (w.drewN n) O q E1 l1 n1 r E2 l2 n2 := by
  obtain ⟨G1, G2, a, b, c, d⟩ := h
  have hc : Chg (fun _ => False) w (w.drewN n) := (Chg.refl _ _).drewN n
  exact ⟨G1, G2, a.kept hc (fun _ _ h => h), b.kept hc (fun _ _ h => h), ⟨c.os, c.tape, c.output, c.size, c.block⟩, d⟩
theorem TwoR.beside (h : TwoR w0 w O q E1 l1 n1 r E2 l2 n2) (b : Nat) (hb : w.heap.size ≤ b) (hc : Chg (fun _ => False) w w1) (hl : b < w1.heap.size) : TwoR w0 w1 (fun k => k = b) q E1 l1 n1 r E2 l2 n2 := by
  obtain ⟨G1, G2, a, b', c, d, e, f, g⟩ := h
  exact ⟨G1, G2, a.kept hc (fun _ _ h => h), b'.kept hc (fun _ _ h => h), hc.below c c.size (fun _ h => h.elim), d, e, f, fun k hk => by
    subst hk
    exact ⟨fun hf => by have := a.lt k hf; omega, fun hg => by have := b'.lt k hg; omega, hl⟩⟩
theorem TwoR.alone (h : TwoR w0 w O q E1 l1 n1 r E2 l2 n2) : TwoR w0 w (fun _ => False) q E1 l1 n1 r E2 l2 n2 := by
  obtain ⟨G1, G2, a, b', c, d, e, f, g⟩ := h
  exact ⟨G1, G2, a, b', c, d, e, f, fun _ h => h.elim⟩
end
def addI (last er : Int) : Int := if er = 0 then last + 1 else 0
def addL (last er : Int) : Int := if er = 0 then last + 1 else last
def addE (E : List EvP.Ev) (last t d er : Int) : List EvP.Ev := if er = 0 then E ++ [⟨last + 1, t, d⟩] else E
section
variable {w0 w w1 : World} {O : Nat → Prop} {q r : Nat} {E1 E2 E' : List EvP.Ev} {l1 n1 l2 n2 l' n' : Int}
theorem s_add (h : TwoR w0 w O q E1 l1 n1 r E2 l2 n2) (t d : Int) (hl : l1 < 4294967295) : Calls Try.prog 11 #[.pointer (some ⟨q, 0, none⟩), .int .i64 t, .int .i64 d] w fun e w' => e = .returned (.tuple #[.int .i64 (addI l1 (addErr n1 t E1.length)), .int .i64 (addErr n1 t E1.length)]) ∧ TwoR w0 w' O q (addE E1 l1 t d (addErr n1 t E1.length)) (addL l1 (addErr n1 t E1.length)) n1 r E2 l2 n2 ∧ Chg (OthQ w0 O) w w' := by
  have h2 := h
  obtain ⟨O1, hs, hk⟩ := h.left
  by_cases he : addErr n1 t E1.length = 0
  · rw [he, show addI l1 0 = l1 + 1 from if_pos rfl, show addE E1 l1 t d 0 = E1 ++ [⟨l1 + 1, t, d⟩] from if_pos rfl, show addL l1 0 = l1 + 1 from if_pos rfl]
    exact (q_add_ok hs t d _ _ rfl rfl he hl).mono fun e w1 he => ⟨he.1, hk _ _ _ _ he.2.1 he.2.2⟩
  · rw [show addI l1 (addErr n1 t E1.length) = 0 from if_neg he, show addE E1 l1 t d (addErr n1 t E1.length) = E1 from if_neg he, show addL l1 (addErr n1 t E1.length) = l1 from if_neg he]
    exact (q_add_no hs t d _ rfl he).mono fun e w1 h1 => ⟨h1.1, by rw [← h1.2]; exact ⟨h2, Chg.refl _ _⟩⟩
theorem s_radd (h : TwoR w0 w O q E1 l1 n1 r E2 l2 n2) (t d : Int) (h0 : 0 ≤ l2) (hl : l2 < 4294967295) : Calls Try.prog 16 #[.pointer (some ⟨r, 0, none⟩), .int .i64 t, .int .i64 d] w fun e w' => e = .returned (.tuple #[.int .i64 (addI l2 (addErr n2 t E2.length)), .int .i64 (addErr n2 t E2.length)]) ∧ TwoR w0 w' O q E1 l1 n1 r (addE E2 l2 t d (addErr n2 t E2.length)) (addL l2 (addErr n2 t E2.length)) n2 ∧ Chg (OthQ w0 O) w w' := by
  have h2 := h
  obtain ⟨G2, hs, hk⟩ := h.right
  by_cases he : addErr n2 t E2.length = 0
  · rw [he, show addI l2 0 = l2 + 1 from if_pos rfl, show addE E2 l2 t d 0 = E2 ++ [⟨l2 + 1, t, d⟩] from if_pos rfl, show addL l2 0 = l2 + 1 from if_pos rfl]
    exact (radd_good hs t d he h0 hl).mono fun e w1 he => ⟨he.1, hk _ _ _ _ he.2⟩
  · rw [show addI l2 (addErr n2 t E2.length) = 0 from if_neg he, show addE E2 l2 t d (addErr n2 t E2.length) = E2 from if_neg he, show addL l2 (addErr n2 t E2.length) = l2 from if_neg he]
    exact (radd_bad hs t d he).mono fun e w1 h1 => ⟨h1.1, by rw [← h1.2]; exact ⟨h2, Chg.refl _ _⟩⟩
end
end Go.Proofs.Ytpliaagfhjnnaaa.Ev

import Derived.Test.YtpliaagfhjnnaaaHeapH
namespace Go.Proofs.Ytpliaagfhjnnaaa.Heap
open Go.RowKit Go.Proofs.YtpliaagfhjnnaaaW.PrintWords Go.Proofs.Ytpliaagfhjnnaaa.Sep Go.Proofs.Ytpliaagfhjnnaaa.HeapP

/-- A heap beside other things of the call's own: O their blocks. -/
def HOf (w0 w : World) (O : Nat → Prop) (p : Nat) (Has : List Bool) (ks : List Int) : Prop := ∃ F, HIs w F p Has ks ∧ Below w0.heap.size w0 w ∧ (∀ k, F k → w0.heap.size ≤ k) ∧ (∀ k, O k → ¬ F k)
/-- What such a call turns. -/
def Oth (w0 : World) (O : Nat → Prop) (k : Nat) : Prop := w0.heap.size ≤ k ∧ ¬ O k
theorem HOf.at_ {w0 w : World} {O : Nat → Prop} {p : Nat} {Has : List Bool} {ks : List Int} (h : HOf w0 w O p Has ks) : HAt w0 w p Has ks := by
  obtain ⟨F, a, b, c, _⟩ := h
  exact ⟨F, a, b, c⟩
theorem HOf.post {w0 w w1 : World} {F O : Nat → Prop} {p : Nat} {Has : List Bool} {ks : List Int} (hb : Below w0.heap.size w0 w) (hf : ∀ k, F k → w0.heap.size ≤ k) (hd : ∀ k, O k → ¬ F k) (hO : ∀ k, O k → k < w.heap.size) (h : SetPost w F p Has ks w1) : HOf w0 w1 O p Has ks ∧ Chg (Oth w0 O) w w1 :=
  ⟨⟨Gr F w w1, h.1, h.2.below hb hb.size hf, fun k hk => by
    rcases hk with q | q
    · exact hf k q
    · exact Nat.le_trans hb.size q.1, fun k ho hk => by
    rcases hk with q | q
    · exact hd k ho q
    · exact absurd (hO k ho) (by omega)⟩, h.2.mono (fun k _ hk => ⟨hf k hk, fun ho => hd k ho hk⟩)⟩
/-- Another thing has turned (G its blocks). -/
theorem HOf.kept {w0 w w1 : World} {O G : Nat → Prop} {p : Nat} {Has : List Bool} {ks : List Int} (h : HOf w0 w O p Has ks) (hc : Chg G w w1) (hG : ∀ k, G k → O k ∧ w0.heap.size ≤ k) : HOf w0 w1 O p Has ks := by
  obtain ⟨F, a, b, c, d⟩ := h
  exact ⟨F, a.kept hc (fun k hf hg => d k (hG k hg).1 hf), hc.below b b.size (fun k hk => (hG k hk).2), c, d⟩
theorem HAt.of {w0 w : World} {p : Nat} {Has : List Bool} {ks : List Int} (h : HAt w0 w p Has ks) (O : Nat → Prop) (w1 : World) (hc : Chg (fun _ => False) w w1) (hO : ∀ k, O k → w.heap.size ≤ k) : HOf w0 w1 O p Has ks := by
  obtain ⟨F, a, b, c⟩ := h
  refine ⟨F, a.kept hc (fun _ _ h => h), hc.below b b.size (fun _ h => h.elim), c, fun k ho hf => ?_⟩
  obtain ⟨_, _, _, _, ho2, _⟩ := a
  have := ho2.lt k hf
  have := hO k ho
  omega
theorem pop_of {w0 w : World} {O : Nat → Prop} {p : Nat} {Has : List Bool} {ks : List Int} (h : HOf w0 w O p Has ks) (hO : ∀ k, O k → k < w.heap.size) (h0 : 0 < Has.count true) : Calls Try.prog 25 #[.pointer (some ⟨p, 0, none⟩)] w fun e w' => ∃ i, Least Has ks i ∧ e = .returned (.tuple #[.int .i64 (i : Int), .int .i64 (gi ks i), .bool true]) ∧ HOf w0 w' O p (Has.set i false) ks ∧ Chg (Oth w0 O) w w' := by
  obtain ⟨F, a, b, c, d⟩ := h
  refine (pop_some a h0).mono fun e w1 he => ?_
  obtain ⟨i', hl', rfl, hp⟩ := he
  exact ⟨i', hl', rfl, HOf.post b c d hO hp⟩
theorem set_of {w0 w : World} {O : Nat → Prop} {p : Nat} {Has : List Bool} {ks : List Int} (h : HOf w0 w O p Has ks) (hO : ∀ k, O k → k < w.heap.size) (i : Nat) (key : Int) (hi : i < Has.length) : Calls Try.prog 23 #[.pointer (some ⟨p, 0, none⟩), .int .i64 (i : Int), .int .i64 key] w fun e w' => e = .returned (.int .i64 0) ∧ HOf w0 w' O p (Has.set i true) (ks.set i key) ∧ Chg (Oth w0 O) w w' := by
  obtain ⟨F, a, b, c, d⟩ := h
  exact (set_yes a i key hi).mono fun e w1 he => ⟨he.1, HOf.post b c d hO he.2⟩
theorem remove_of {w0 w : World} {O : Nat → Prop} {p : Nat} {Has : List Bool} {ks : List Int} (h : HOf w0 w O p Has ks) (hO : ∀ k, O k → k < w.heap.size) (i : Nat) (hi : i < Has.length) (hb : gb Has i = true) : Calls Try.prog 27 #[.pointer (some ⟨p, 0, none⟩), .int .i64 (i : Int)] w fun e w' => e = .returned (.int .i64 0) ∧ HOf w0 w' O p (Has.set i false) ks ∧ Chg (Oth w0 O) w w' := by
  obtain ⟨F, a, b, c, d⟩ := h
  exact (remove_yes a i hi hb).mono fun e w1 he => ⟨he.1, HOf.post b c d hO he.2⟩
end Go.Proofs.Ytpliaagfhjnnaaa.Heap

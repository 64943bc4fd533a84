import Derived.Test.YtpliaagfhjnnaaaHeapG
namespace Go.Proofs.Ytpliaagfhjnnaaa.Heap
open Go.RowKit Go.Proofs.YtpliaagfhjnnaaaW.PrintWords Go.Proofs.Ytpliaagfhjnnaaa.Sep Go.Proofs.Ytpliaagfhjnnaaa.HeapP

/-- A heap of the call's own (w0: the world as the call began). -/
def HAt (w0 w : World) (p : Nat) (Has : List Bool) (ks : List Int) : Prop := ∃ F, HIs w F p Has ks ∧ Below w0.heap.size w0 w ∧ (∀ k, F k → w0.heap.size ≤ k)
theorem HAt.post {w0 w w1 : World} {F : Nat → Prop} {p : Nat} {Has : List Bool} {ks : List Int} (hb : Below w0.heap.size w0 w) (hf : ∀ k, F k → w0.heap.size ≤ k) (h : SetPost w F p Has ks w1) : HAt w0 w1 p Has ks :=
  ⟨Gr F w w1, h.1, h.2.below hb hb.size hf, fun k hk => by
    rcases hk with q | q
    · exact hf k q
    · exact Nat.le_trans hb.size q.1⟩
theorem HAt.drewN {w0 w : World} {p : Nat} {Has : List Bool} {ks : List Int} (h : HAt w0 w p Has ks) (n : Nat) : HAt w0 (w.drewN n) p Has ks := by
  obtain ⟨F, a, b, c⟩ := h
  exact ⟨F, a.drewN n, ⟨b.os, b.tape, b.output, b.size, b.block⟩, c⟩
theorem new_at (w0 w : World) (hb : Below w0.heap.size w0 w) (n : Nat) (hn : n ≤ 65536) : Calls Try.prog 21 #[.int .i64 (n : Int)] w fun e w' => ∃ p, e = .returned (.tuple #[.pointer (some ⟨p, 0, none⟩), .int .i64 0]) ∧ HAt w0 w' p (List.replicate n false) (List.replicate n 0) := by
  refine (new_yes n w hn).mono ?_
  rintro e w1 ⟨p, F, rfl, h1, h2, h3⟩
  exact ⟨p, rfl, F, h1, hb.trans (h2.mono hb.size), fun k hk => Nat.le_trans hb.size (h3 k hk)⟩
theorem set_at {w0 w : World} {p : Nat} {Has : List Bool} {ks : List Int} (h : HAt w0 w p Has ks) (i : Nat) (key : Int) (hi : i < Has.length) : Calls Try.prog 23 #[.pointer (some ⟨p, 0, none⟩), .int .i64 (i : Int), .int .i64 key] w fun e w' => e = .returned (.int .i64 0) ∧ HAt w0 w' p (Has.set i true) (ks.set i key) := by
  obtain ⟨F, a, b, c⟩ := h
  exact (set_yes a i key hi).mono fun e w1 he => ⟨he.1, HAt.post b c he.2⟩
theorem set_at_no {w0 w : World} {p : Nat} {Has : List Bool} {ks : List Int} (h : HAt w0 w p Has ks) (i key : Int) (hi : i < 0 ∨ (Has.length : Int) ≤ i) : Calls Try.prog 23 #[.pointer (some ⟨p, 0, none⟩), .int .i64 i, .int .i64 key] w fun e w' => e = .returned (.int .i64 2) ∧ w = w' := by
  obtain ⟨F, a, b, c⟩ := h
  exact (set_no a i key hi).mono fun e w1 he => ⟨he.1, he.2.symm⟩
theorem remove_at_no {w0 w : World} {p : Nat} {Has : List Bool} {ks : List Int} (h : HAt w0 w p Has ks) (i : Int) (hi : i < 0 ∨ (Has.length : Int) ≤ i) : Calls Try.prog 27 #[.pointer (some ⟨p, 0, none⟩), .int .i64 i] w fun e w' => e = .returned (.int .i64 2) ∧ w = w' := by
  obtain ⟨F, a, b, c⟩ := h
  exact (remove_no a i hi).mono fun e w1 he => ⟨he.1, he.2.symm⟩
theorem remove_at_none {w0 w : World} {p : Nat} {Has : List Bool} {ks : List Int} (h : HAt w0 w p Has ks) (i : Nat) (hi : i < Has.length) (hb : gb Has i = false) : Calls Try.prog 27 #[.pointer (some ⟨p, 0, none⟩), .int .i64 (i : Int)] w fun e w' => e = .returned (.int .i64 8) ∧ w = w' := by
  obtain ⟨F, a, b, c⟩ := h
  exact (remove_none a i hi hb).mono fun e w1 he => ⟨he.1, he.2.symm⟩
theorem remove_at {w0 w : World} {p : Nat} {Has : List Bool} {ks : List Int} (h : HAt w0 w p Has ks) (i : Nat) (hi : i < Has.length) (hb : gb Has i = true) : Calls Try.prog 27 #[.pointer (some ⟨p, 0, none⟩), .int .i64 (i : Int)] w fun e w' => e = .returned (.int .i64 0) ∧ HAt w0 w' p (Has.set i false) ks := by
  obtain ⟨F, a, b, c⟩ := h
  exact (remove_yes a i hi hb).mono fun e w1 he => ⟨he.1, HAt.post b c he.2⟩
theorem len_at {w0 w : World} {p : Nat} {Has : List Bool} {ks : List Int} (h : HAt w0 w p Has ks) (n : Nat) (hn : Has.count true = n) : Calls Try.prog 22 #[.pointer (some ⟨p, 0, none⟩)] w fun e w' => e = .returned (.int .i64 (n : Int)) ∧ w = w' := by
  obtain ⟨F, a, b, c⟩ := h
  subst hn
  exact (len_calls a).mono fun e w1 he => ⟨he.1, he.2.symm⟩
theorem pop_at {w0 w : World} {p : Nat} {Has : List Bool} {ks : List Int} (h : HAt w0 w p Has ks) (i : Nat) (hl : Least Has ks i) : Calls Try.prog 25 #[.pointer (some ⟨p, 0, none⟩)] w fun e w' => e = .returned (.tuple #[.int .i64 (i : Int), .int .i64 (gi ks i), .bool true]) ∧ HAt w0 w' p (Has.set i false) ks := by
  obtain ⟨F, a, b, c⟩ := h
  have h0 : 0 < Has.count true := by
    rw [List.count_pos_iff]
    have := hl.2.1
    have h1 := hl.1
    simp only [gb, List.getD_eq_getElem?_getD, List.getElem?_eq_getElem h1, Option.getD_some] at this
    rw [← this]
    exact List.getElem_mem h1
  refine (pop_some a h0).mono fun e w1 he => ?_
  obtain ⟨i', hl', rfl, hp⟩ := he
  obtain rfl := hl.same hl'
  exact ⟨rfl, HAt.post b c hp⟩
theorem pop_at_none {w0 w : World} {p : Nat} {Has : List Bool} {ks : List Int} (h : HAt w0 w p Has ks) (h0 : Has.count true = 0) : Calls Try.prog 25 #[.pointer (some ⟨p, 0, none⟩)] w fun e w' => e = .returned (.tuple #[.int .i64 0, .int .i64 0, .bool false]) ∧ w = w' := by
  obtain ⟨F, a, b, c⟩ := h
  exact (pop_none a h0).mono fun e w1 he => ⟨he.1, he.2.symm⟩
/-! The same with numbers as the walk has them. -/
theorem new_lit (w0 w : World) (hb : Below w0.heap.size w0 w) (I : Int) (n : Nat) (hI : I = (n : Int)) (hn : n ≤ 65536) : Calls Try.prog 21 #[.int .i64 I] w fun e w' => ∃ p, e = .returned (.tuple #[.pointer (some ⟨p, 0, none⟩), .int .i64 0]) ∧ HAt w0 w' p (List.replicate n false) (List.replicate n 0) := by
  subst hI
  exact new_at w0 w hb n hn
theorem set_lit {w0 w : World} {p : Nat} {Has : List Bool} {ks : List Int} (h : HAt w0 w p Has ks) (I : Int) (i : Nat) (key : Int) (hI : I = (i : Int)) (hi : i < Has.length) : Calls Try.prog 23 #[.pointer (some ⟨p, 0, none⟩), .int .i64 I, .int .i64 key] w fun e w' => e = .returned (.int .i64 0) ∧ HAt w0 w' p (Has.set i true) (ks.set i key) := by
  subst hI
  exact set_at h i key hi
theorem pop_lit {w0 w : World} {p : Nat} {Has : List Bool} {ks : List Int} (h : HAt w0 w p Has ks) (i : Nat) (I K : Int) (hI : I = (i : Int)) (hK : gi ks i = K) (hl : Least Has ks i) : Calls Try.prog 25 #[.pointer (some ⟨p, 0, none⟩)] w fun e w' => e = .returned (.tuple #[.int .i64 I, .int .i64 K, .bool true]) ∧ HAt w0 w' p (Has.set i false) ks := by
  subst hI hK
  exact pop_at h i hl
theorem len_lit {w0 w : World} {p : Nat} {Has : List Bool} {ks : List Int} (h : HAt w0 w p Has ks) (n : Nat) (I : Int) (hI : I = (n : Int)) (hn : Has.count true = n) : Calls Try.prog 22 #[.pointer (some ⟨p, 0, none⟩)] w fun e w' => e = .returned (.int .i64 I) ∧ w = w' := by
  subst hI
  exact len_at h n hn
theorem remove_lit_none {w0 w : World} {p : Nat} {Has : List Bool} {ks : List Int} (h : HAt w0 w p Has ks) (I : Int) (i : Nat) (hI : I = (i : Int)) (hi : i < Has.length) (hb : gb Has i = false) : Calls Try.prog 27 #[.pointer (some ⟨p, 0, none⟩), .int .i64 I] w fun e w' => e = .returned (.int .i64 8) ∧ w = w' := by
  subst hI
  exact remove_at_none h i hi hb
theorem remove_lit {w0 w : World} {p : Nat} {Has : List Bool} {ks : List Int} (h : HAt w0 w p Has ks) (I : Int) (i : Nat) (hI : I = (i : Int)) (hi : i < Has.length) (hb : gb Has i = true) : Calls Try.prog 27 #[.pointer (some ⟨p, 0, none⟩), .int .i64 I] w fun e w' => e = .returned (.int .i64 0) ∧ HAt w0 w' p (Has.set i false) ks := by
  subst hI
  exact remove_at h i hi hb
end Go.Proofs.Ytpliaagfhjnnaaa.Heap

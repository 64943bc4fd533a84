import Derived.Test.YtpgnefojifiopaaHeapS
namespace Go.Proofs.Ytpgnefojifiopaa.Heap
open Go.RowKit Go.Proofs.YtpgnefojifiopaaW.PrintWords Go.Proofs.Ytpgnefojifiopaa.Sep Go.Proofs.Ytpgnefojifiopaa.HeapP
set_option linter.unusedVariables false

/-! The two heaps side by side. -/
def inR (Has : List Bool) (i : Int) : Prop := 0 ≤ i ∧ i < (Has.length : Int)
open Classical in
noncomputable def setE (Has : List Bool) (i : Int) : Int := if inR Has i then 0 else 2
open Classical in
noncomputable def setH (Has : List Bool) (i : Int) : List Bool := if inR Has i then Has.set i.toNat true else Has
open Classical in
noncomputable def setK (Has : List Bool) (ks : List Int) (i key : Int) : List Int := if inR Has i then ks.set i.toNat key else ks
open Classical in
noncomputable def remE (Has : List Bool) (i : Int) : Int := if inR Has i then (if gb Has i.toNat = true then 0 else 8) else 2
open Classical in
noncomputable def remH (Has : List Bool) (i : Int) : List Bool := if inR Has i ∧ gb Has i.toNat = true then Has.set i.toNat false else Has
open Classical in
noncomputable def keyV (Has : List Bool) (ks : List Int) (i : Int) : Int := if inR Has i ∧ gb Has i.toNat = true then gi ks i.toNat else 0
open Classical in
noncomputable def keyB (Has : List Bool) (i : Int) : Bool := if inR Has i ∧ gb Has i.toNat = true then true else false
theorem setH_len (Has : List Bool) (i : Int) : (setH Has i).length = Has.length := by unfold setH; split <;> simp
theorem remH_len (Has : List Bool) (i : Int) : (remH Has i).length = Has.length := by unfold remH; split <;> simp
/-- What Pop says. -/
def PopS (Has : List Bool) (ks : List Int) (x y : Int) (b : Bool) (Has' : List Bool) : Prop :=
  ((∀ k, k < Has.length → gb Has k = false) ∧ x = 0 ∧ y = 0 ∧ b = false ∧ Has' = Has) ∨ ∃ i, Least Has ks i ∧ x = (i : Int) ∧ y = gi ks i ∧ b = true ∧ Has' = Has.set i false
theorem PopS.same {Has : List Bool} {ks : List Int} {x y x' y' : Int} {b b' : Bool} {H1 H2 : List Bool} (h : PopS Has ks x y b H1) (h2 : PopS Has ks x' y' b' H2) : x = x' ∧ y = y' ∧ b = b' ∧ H1 = H2 := by
  rcases h with ⟨a, rfl, rfl, rfl, rfl⟩ | ⟨i, hi, rfl, rfl, rfl, rfl⟩ <;> rcases h2 with ⟨a2, rfl, rfl, rfl, rfl⟩ | ⟨j, hj, rfl, rfl, rfl, rfl⟩
  · exact ⟨rfl, rfl, rfl, rfl⟩
  · have := a j hj.1; rw [hj.2.1] at this; cases this
  · have := a2 i hi.1; rw [hi.2.1] at this; cases this
  · obtain rfl := hi.same hj
    exact ⟨rfl, rfl, rfl, rfl⟩
theorem PopS.len {Has : List Bool} {ks : List Int} {x y : Int} {b : Bool} {H1 : List Bool} (h : PopS Has ks x y b H1) : H1.length = Has.length := by
  rcases h with ⟨_, _, _, _, rfl⟩ | ⟨i, _, _, _, _, rfl⟩ <;> simp
def TwoS (w0 w : World) (O : Nat → Prop) (p q : Nat) (H1 : List Bool) (k1 : List Int) (H2 : List Bool) (k2 : List Int) : Prop :=
  ∃ F G, HIs w F p H1 k1 ∧ RIs w G q H2 k2 ∧ Below w0.heap.size w0 w ∧ (∀ k, F k → w0.heap.size ≤ k) ∧ (∀ k, G k → w0.heap.size ≤ k) ∧ (∀ k, F k → ¬ G k) ∧ (∀ k, O k → ¬ F k ∧ ¬ G k ∧ k < w.heap.size)
theorem HIs.flt {w : World} {F : Nat → Prop} {p : Nat} {Has : List Bool} {ks : List Int} (h : HIs w F p Has ks) (k : Nat) (hk : F k) : k < w.heap.size := by
  obtain ⟨_, _, _, _, ho, _⟩ := h
  exact ho.lt k hk
theorem RIs.glt {w : World} {F : Nat → Prop} {p : Nat} {Has : List Bool} {ks : List Int} (h : RIs w F p Has ks) (k : Nat) (hk : F k) : k < w.heap.size := by
  obtain ⟨_, _, ho⟩ := h
  exact ho.lt k hk
section
variable {w0 w w1 : World} {O : Nat → Prop} {p q : Nat} {H1 H2 H' : List Bool} {k1 k2 k' : List Int}
theorem TwoS.below (h : TwoS w0 w O p q H1 k1 H2 k2) : Below w0.heap.size w0 w := by
  obtain ⟨F, G, _, _, c, _⟩ := h
  exact c
theorem TwoS.drewN (h : TwoS w0 w O p q H1 k1 H2 k2) (n : Nat) : TwoS w0 (w.drewN n) O p q H1 k1 H2 k2 := by
  obtain ⟨F, G, a, b, c, d⟩ := h
  exact ⟨F, G, a.drewN n, b.drewN n, ⟨c.os, c.tape, c.output, c.size, c.block⟩, d⟩
theorem TwoS.drew (h : TwoS w0 w O p q H1 k1 H2 k2) : TwoS w0 w.drew O p q H1 k1 H2 k2 := h.drewN 1
theorem TwoS.hpost {F G : Nat → Prop} (b : RIs w G q H2 k2) (c : Below w0.heap.size w0 w) (d : ∀ k, F k → w0.heap.size ≤ k) (e : ∀ k, G k → w0.heap.size ≤ k) (f : ∀ k, F k → ¬ G k) (g : ∀ k, O k → ¬ F k ∧ ¬ G k ∧ k < w.heap.size) (h : SetPost w F p H' k' w1) : TwoS w0 w1 O p q H' k' H2 k2 ∧ Chg (Oth w0 O) w w1 := by
  refine ⟨⟨Gr F w w1, G, h.1, b.kept h.2 (fun k hg hf => f k hf hg), h.2.below c c.size d, fun k hk => ?_, e, fun k hk hg => ?_, fun k ho => ⟨fun hk => ?_, (g k ho).2.1, Nat.lt_of_lt_of_le (g k ho).2.2 h.2.size⟩⟩, h.2.mono (fun k _ hf => ⟨d k hf, fun ho => (g k ho).1 hf⟩)⟩
  · rcases hk with q | q
    · exact d k q
    · exact Nat.le_trans c.size q.1
  · rcases hk with q | q
    · exact f k q hg
    · have := b.glt k hg; omega
  · rcases hk with q | q
    · exact (g k ho).1 q
    · have := (g k ho).2.2; omega
theorem TwoS.rpost {F G : Nat → Prop} (a : HIs w F p H1 k1) (c : Below w0.heap.size w0 w) (d : ∀ k, F k → w0.heap.size ≤ k) (e : ∀ k, G k → w0.heap.size ≤ k) (f : ∀ k, F k → ¬ G k) (g : ∀ k, O k → ¬ F k ∧ ¬ G k ∧ k < w.heap.size) (h : RPost w G q H' k' w1) : TwoS w0 w1 O p q H1 k1 H' k' ∧ Chg (Oth w0 O) w w1 :=
  ⟨⟨F, G, a.kept h.2 f, h.1, h.2.below c c.size e, d, e, f, fun k ho => ⟨(g k ho).1, (g k ho).2.1, Nat.lt_of_lt_of_le (g k ho).2.2 h.2.size⟩⟩, h.2.mono (fun k _ hf => ⟨e k hf, fun ho => (g k ho).2.1 hf⟩)⟩
/-- Beside something new. -/
theorem TwoS.beside (h : TwoS w0 w O p q H1 k1 H2 k2) (b : Nat) (hb : w.heap.size ≤ b) (hc : Chg (fun _ => False) w w1) (hl : b < w1.heap.size) : TwoS w0 w1 (fun k => k = b) p q H1 k1 H2 k2 := by
  obtain ⟨F, G, a, b', c, d, e, f, g⟩ := h
  exact ⟨F, G, a.kept hc (fun _ _ h => h), b'.kept hc (fun _ _ h => h), hc.below c c.size (fun _ h => h.elim), d, e, f, fun k hk => by
    subst hk
    exact ⟨fun hf => by have := a.flt k hf; omega, fun hg => by have := b'.glt k hg; omega, hl⟩⟩
theorem TwoS.alone (h : TwoS w0 w O p q H1 k1 H2 k2) : TwoS w0 w (fun _ => False) p q H1 k1 H2 k2 := by
  obtain ⟨F, G, a, b', c, d, e, f, g⟩ := h
  exact ⟨F, G, a, b', c, d, e, f, fun _ h => h.elim⟩
/-- Something else of its own has turned. -/
theorem TwoS.kept (h : TwoS w0 w O p q H1 k1 H2 k2) (hc : Chg O w w1) (hO : ∀ k, O k → w0.heap.size ≤ k) : TwoS w0 w1 O p q H1 k1 H2 k2 := by
  obtain ⟨F, G, a, b, c, d, e, f, g⟩ := h
  exact ⟨F, G, a.kept hc (fun k hf ho => (g k ho).1 hf), b.kept hc (fun k hf ho => (g k ho).2.1 hf), hc.below c c.size hO, d, e, f, fun k ho => ⟨(g k ho).1, (g k ho).2.1, Nat.lt_of_lt_of_le (g k ho).2.2 hc.size⟩⟩
theorem not_inR {Has : List Bool} {i : Int} (h : ¬ inR Has i) : i < 0 ∨ (Has.length : Int) ≤ i := by unfold inR at h; omega
theorem t_set (h : TwoS w0 w O p q H1 k1 H2 k2) (I key : Int) : Calls Try.prog 10 #[.pointer (some ⟨p, 0, none⟩), .int .i64 I, .int .i64 key] w fun e w' => e = .returned (.int .i64 (setE H1 I)) ∧ TwoS w0 w' O p q (setH H1 I) (setK H1 k1 I key) H2 k2 ∧ Chg (Oth w0 O) w w' := by
  by_cases hr : inR H1 I
  · obtain ⟨i, rfl⟩ := Int.eq_ofNat_of_zero_le hr.1
    rw [show setE H1 (i : Int) = 0 from if_pos hr, show setH H1 (i : Int) = H1.set i true from if_pos hr, show setK H1 k1 (i : Int) key = k1.set i key from if_pos hr]
    obtain ⟨F, G, a, b, c, d, e, f, g⟩ := h
    exact (set_yes a i key (by have := hr.2; omega)).mono fun e1 w1 he => ⟨he.1, TwoS.hpost b c d e f g he.2⟩
  · rw [show setE H1 I = 2 from if_neg hr, show setH H1 I = H1 from if_neg hr, show setK H1 k1 I key = k1 from if_neg hr]
    have h2 := h
    obtain ⟨F, G, a, b, c, d, e, f, g⟩ := h
    exact (set_no a I key (not_inR hr)).mono fun e1 w1 he => ⟨he.1, by rw [he.2]; exact ⟨h2, Chg.refl _ _⟩⟩
theorem t_rset (h : TwoS w0 w O p q H1 k1 H2 k2) (I key : Int) : Calls Try.prog 13 #[.pointer (some ⟨q, 0, none⟩), .int .i64 I, .int .i64 key] w fun e w' => e = .returned (.int .i64 (setE H2 I)) ∧ TwoS w0 w' O p q H1 k1 (setH H2 I) (setK H2 k2 I key) ∧ Chg (Oth w0 O) w w' := by
  by_cases hr : inR H2 I
  · obtain ⟨i, rfl⟩ := Int.eq_ofNat_of_zero_le hr.1
    rw [show setE H2 (i : Int) = 0 from if_pos hr, show setH H2 (i : Int) = H2.set i true from if_pos hr, show setK H2 k2 (i : Int) key = k2.set i key from if_pos hr]
    obtain ⟨F, G, a, b, c, d, e, f, g⟩ := h
    exact (rset_yes b i key (by have := hr.2; omega)).mono fun e1 w1 he => ⟨he.1, TwoS.rpost a c d e f g he.2⟩
  · rw [show setE H2 I = 2 from if_neg hr, show setH H2 I = H2 from if_neg hr, show setK H2 k2 I key = k2 from if_neg hr]
    have h2 := h
    obtain ⟨F, G, a, b, c, d, e, f, g⟩ := h
    exact (rset_no b I key (not_inR hr)).mono fun e1 w1 he => ⟨he.1, by rw [← he.2]; exact ⟨h2, Chg.refl _ _⟩⟩
theorem t_rem (h : TwoS w0 w O p q H1 k1 H2 k2) (I : Int) : Calls Try.prog 14 #[.pointer (some ⟨p, 0, none⟩), .int .i64 I] w fun e w' => e = .returned (.int .i64 (remE H1 I)) ∧ TwoS w0 w' O p q (remH H1 I) k1 H2 k2 ∧ Chg (Oth w0 O) w w' := by
  have h2 := h
  by_cases hr : inR H1 I
  · obtain ⟨i, rfl⟩ := Int.eq_ofNat_of_zero_le hr.1
    obtain ⟨F, G, a, b, c, d, e, f, g⟩ := h
    cases hb : gb H1 i with
    | true =>
      rw [show remE H1 (i : Int) = 0 from (if_pos hr).trans (if_pos hb), show remH H1 (i : Int) = H1.set i false from if_pos ⟨hr, hb⟩]
      exact (remove_yes a i (by have := hr.2; omega) hb).mono fun e1 w1 he => ⟨he.1, TwoS.hpost b c d e f g he.2⟩
    | false =>
      have hb' : ¬ gb H1 (i : Int).toNat = true := by rw [Int.toNat_natCast, hb]; decide
      rw [show remE H1 (i : Int) = 8 from (if_pos hr).trans (if_neg hb'), show remH H1 (i : Int) = H1 from if_neg (fun q => hb' q.2)]
      exact (remove_none a i (by have := hr.2; omega) hb).mono fun e1 w1 he => ⟨he.1, by rw [he.2]; exact ⟨h2, Chg.refl _ _⟩⟩
  · rw [show remE H1 I = 2 from if_neg hr, show remH H1 I = H1 from if_neg (fun q => hr q.1)]
    obtain ⟨F, G, a, b, c, d, e, f, g⟩ := h
    exact (remove_no a I (not_inR hr)).mono fun e1 w1 he => ⟨he.1, by rw [he.2]; exact ⟨h2, Chg.refl _ _⟩⟩
theorem t_rrem (h : TwoS w0 w O p q H1 k1 H2 k2) (I : Int) : Calls Try.prog 15 #[.pointer (some ⟨q, 0, none⟩), .int .i64 I] w fun e w' => e = .returned (.int .i64 (remE H2 I)) ∧ TwoS w0 w' O p q H1 k1 (remH H2 I) k2 ∧ Chg (Oth w0 O) w w' := by
  have h2 := h
  by_cases hr : inR H2 I
  · obtain ⟨i, rfl⟩ := Int.eq_ofNat_of_zero_le hr.1
    obtain ⟨F, G, a, b, c, d, e, f, g⟩ := h
    cases hb : gb H2 i with
    | true =>
      rw [show remE H2 (i : Int) = 0 from (if_pos hr).trans (if_pos hb), show remH H2 (i : Int) = H2.set i false from if_pos ⟨hr, hb⟩]
      exact (rremove_yes b i (by have := hr.2; omega) hb).mono fun e1 w1 he => ⟨he.1, TwoS.rpost a c d e f g he.2⟩
    | false =>
      have hb' : ¬ gb H2 (i : Int).toNat = true := by rw [Int.toNat_natCast, hb]; decide
      rw [show remE H2 (i : Int) = 8 from (if_pos hr).trans (if_neg hb'), show remH H2 (i : Int) = H2 from if_neg (fun q => hb' q.2)]
      exact (rremove_none b i (by have := hr.2; omega) hb).mono fun e1 w1 he => ⟨he.1, by rw [← he.2]; exact ⟨h2, Chg.refl _ _⟩⟩
  · rw [show remE H2 I = 2 from if_neg hr, show remH H2 I = H2 from if_neg (fun q => hr q.1)]
    obtain ⟨F, G, a, b, c, d, e, f, g⟩ := h
    exact (rremove_no b I (not_inR hr)).mono fun e1 w1 he => ⟨he.1, by rw [← he.2]; exact ⟨h2, Chg.refl _ _⟩⟩
theorem t_key (h : TwoS w0 w O p q H1 k1 H2 k2) (I : Int) : Calls Try.prog 18 #[.pointer (some ⟨p, 0, none⟩), .int .i64 I] w fun e w' => e = .returned (.tuple #[.int .i64 (keyV H1 k1 I), .bool (keyB H1 I)]) ∧ w = w' := by
  obtain ⟨F, G, a, b, c, d, e, f, g⟩ := h
  by_cases hr : inR H1 I
  · obtain ⟨i, rfl⟩ := Int.eq_ofNat_of_zero_le hr.1
    cases hb : gb H1 i with
    | true =>
      rw [show keyV H1 k1 (i : Int) = gi k1 i from if_pos ⟨hr, hb⟩, show keyB H1 (i : Int) = true from if_pos ⟨hr, hb⟩]
      exact (key_some a i (by have := hr.2; omega) hb).mono fun e1 w1 he => ⟨he.1, he.2.symm⟩
    | false =>
      have hb' : ¬ gb H1 (i : Int).toNat = true := by rw [Int.toNat_natCast, hb]; decide
      rw [show keyV H1 k1 (i : Int) = 0 from if_neg (fun q => hb' q.2), show keyB H1 (i : Int) = false from if_neg (fun q => hb' q.2)]
      exact (key_none a i (by have := hr.2; omega) hb).mono fun e1 w1 he => ⟨he.1, he.2.symm⟩
  · rw [show keyV H1 k1 I = 0 from if_neg (fun q => hr q.1), show keyB H1 I = false from if_neg (fun q => hr q.1)]
    exact (key_no a I (not_inR hr)).mono fun e1 w1 he => ⟨he.1, he.2.symm⟩
theorem t_rkey (h : TwoS w0 w O p q H1 k1 H2 k2) (I : Int) : Calls Try.prog 19 #[.pointer (some ⟨q, 0, none⟩), .int .i64 I] w fun e w' => e = .returned (.tuple #[.int .i64 (keyV H2 k2 I), .bool (keyB H2 I)]) ∧ w = w' := by
  obtain ⟨F, G, a, b, c, d, e, f, g⟩ := h
  by_cases hr : inR H2 I
  · obtain ⟨i, rfl⟩ := Int.eq_ofNat_of_zero_le hr.1
    cases hb : gb H2 i with
    | true =>
      rw [show keyV H2 k2 (i : Int) = gi k2 i from if_pos ⟨hr, hb⟩, show keyB H2 (i : Int) = true from if_pos ⟨hr, hb⟩]
      exact (rkey_some b i (by have := hr.2; omega) hb).mono fun e1 w1 he => ⟨he.1, he.2⟩
    | false =>
      have hb' : ¬ gb H2 (i : Int).toNat = true := by rw [Int.toNat_natCast, hb]; decide
      rw [show keyV H2 k2 (i : Int) = 0 from if_neg (fun q => hb' q.2), show keyB H2 (i : Int) = false from if_neg (fun q => hb' q.2)]
      exact (rkey_none b i (by have := hr.2; omega) hb).mono fun e1 w1 he => ⟨he.1, he.2⟩
  · rw [show keyV H2 k2 I = 0 from if_neg (fun q => hr q.1), show keyB H2 I = false from if_neg (fun q => hr q.1)]
    exact (rkey_no b I (not_inR hr)).mono fun e1 w1 he => ⟨he.1, he.2⟩
theorem t_len (h : TwoS w0 w O p q H1 k1 H2 k2) : Calls Try.prog 17 #[.pointer (some ⟨p, 0, none⟩)] w fun e w' => e = .returned (.int .i64 (H1.count true : Int)) ∧ w = w' := by
  obtain ⟨F, G, a, b, c, d, e, f, g⟩ := h
  exact (len_calls a).mono fun e1 w1 he => ⟨he.1, he.2.symm⟩
theorem t_rlen (h : TwoS w0 w O p q H1 k1 H2 k2) : Calls Try.prog 20 #[.pointer (some ⟨q, 0, none⟩)] w fun e w' => e = .returned (.int .i64 (H2.count true : Int)) ∧ w = w' := by
  obtain ⟨F, G, a, b, c, d, e, f, g⟩ := h
  exact (rlen_calls b).mono fun e1 w1 he => ⟨he.1, he.2⟩
theorem count_none {Has : List Bool} : Has.count true = 0 ↔ ∀ k, k < Has.length → gb Has k = false := by
  rw [List.count_eq_zero]
  constructor
  · intro h k hk
    cases hb : gb Has k with
    | false => rfl
    | true =>
      simp only [gb, List.getD_eq_getElem?_getD, List.getElem?_eq_getElem hk, Option.getD_some] at hb
      exact absurd (hb ▸ List.getElem_mem hk) h
  · intro h hm
    obtain ⟨k, hk, e⟩ := List.getElem_of_mem hm
    have := h k hk
    simp only [gb, List.getD_eq_getElem?_getD, List.getElem?_eq_getElem hk, Option.getD_some] at this
    rw [this] at e
    cases e
theorem t_pop (h : TwoS w0 w O p q H1 k1 H2 k2) : Calls Try.prog 11 #[.pointer (some ⟨p, 0, none⟩)] w fun e w' => ∃ x y b H', PopS H1 k1 x y b H' ∧ e = .returned (.tuple #[.int .i64 x, .int .i64 y, .bool b]) ∧ TwoS w0 w' O p q H' k1 H2 k2 ∧ Chg (Oth w0 O) w w' := by
  have h2 := h
  obtain ⟨F, G, a, b, c, d, e, f, g⟩ := h
  rcases Nat.eq_zero_or_pos (H1.count true) with h0 | h0
  · exact (pop_none a h0).mono fun e1 w1 he => ⟨0, 0, false, H1, .inl ⟨count_none.1 h0, rfl, rfl, rfl, rfl⟩, he.1, by rw [he.2]; exact ⟨h2, Chg.refl _ _⟩⟩
  · refine (pop_some a h0).mono fun e1 w1 he => ?_
    obtain ⟨i, hL, rfl, hp⟩ := he
    exact ⟨_, _, _, _, .inr ⟨i, hL, rfl, rfl, rfl, rfl⟩, rfl, TwoS.hpost b c d e f g hp⟩
theorem t_rpop (h : TwoS w0 w O p q H1 k1 H2 k2) : Calls Try.prog 16 #[.pointer (some ⟨q, 0, none⟩)] w fun e w' => ∃ x y b H', PopS H2 k2 x y b H' ∧ e = .returned (.tuple #[.int .i64 x, .int .i64 y, .bool b]) ∧ TwoS w0 w' O p q H1 k1 H' k2 ∧ Chg (Oth w0 O) w w' := by
  obtain ⟨F, G, a, b, c, d, e, f, g⟩ := h
  refine (rpop_calls b).mono fun e1 w1 he => ?_
  rcases he with ⟨hn, rfl, h1, h2⟩ | ⟨i, hL, rfl, hp⟩
  · exact ⟨0, 0, false, H2, .inl ⟨hn, rfl, rfl, rfl, rfl⟩, rfl, TwoS.rpost a c d e f g ⟨h1, h2⟩⟩
  · exact ⟨_, _, _, _, .inr ⟨i, hL, rfl, rfl, rfl, rfl⟩, rfl, TwoS.rpost a c d e f g hp⟩
theorem t_new (hb : Below w0.heap.size w0 w) (I : Int) (n : Nat) (hI : I = (n : Int)) (hn : n ≤ 65536) : Calls Try.prog 9 #[.int .i64 I] w fun e w' => ∃ p, e = .returned (.tuple #[.pointer (some ⟨p, 0, none⟩), .int .i64 0]) ∧ HAt w0 w' p (List.replicate n false) (List.replicate n 0) := new_lit w0 w hb I n hI hn
theorem t_rnew (h : HAt w0 w p H1 k1) (I : Int) (n : Nat) (hI : I = (n : Int)) (hn : n ≤ 65536) : Calls Try.prog 12 #[.int .i64 I] w fun e w' => ∃ q, e = .returned (.pointer (some ⟨q, 0, none⟩)) ∧ TwoS w0 w' (fun _ => False) p q H1 k1 (List.replicate n false) (List.replicate n 0) := by
  subst hI
  obtain ⟨F, a, b, c⟩ := h
  refine (rnew_calls n w hn).mono fun e1 w1 he => ?_
  obtain ⟨q, G, rfl, h1, h2, h3⟩ := he
  have hc : Chg (fun _ => False) w w1 := Chg.of_below h2
  exact ⟨q, rfl, F, G, a.kept hc (fun _ _ h => h), h1, hc.below b b.size (fun _ h => h.elim), c, fun k hk => Nat.le_trans b.size (h3 k hk), fun k hf hg => by have := a.flt k hf; have := h3 k hg; omega, fun _ h => h.elim⟩
end
end Go.Proofs.Ytpgnefojifiopaa.Heap

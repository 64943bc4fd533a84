import Derived.Test.YtpliaagfhjnnaaaEvY
namespace Go.Proofs.Ytpliaagfhjnnaaa.Ev
open Go.RowKit Go.Proofs.YtpliaagfhjnnaaaW.PrintWords Go.Proofs.Ytpliaagfhjnnaaa.Sep Go.Proofs.Ytpliaagfhjnnaaa.HeapP Go.Proofs.Ytpliaagfhjnnaaa.Heap Go.Proofs.Ytpliaagfhjnnaaa.EvP
set_option linter.unusedVariables false
set_option linter.unusedSimpArgs false

/-- What Next says. -/
def NextS (E : List EvP.Ev) (now t d : Int) (ok : Bool) (E' : List EvP.Ev) (now' : Int) : Prop :=
  (E = [] ∧ t = 0 ∧ d = 0 ∧ ok = false ∧ E' = [] ∧ now' = now) ∨ ∃ x, MinE E x ∧ t = x.time ∧ d = x.data ∧ ok = true ∧ E' = EvP.drop E x.id ∧ now' = x.time
theorem NextS.same {E : List EvP.Ev} {now t d t2 d2 n1 n2 last : Int} {ok ok2 : Bool} {F1 F2 : List EvP.Ev} (hs : E.Pairwise (fun a b => a.id < b.id)) (hi : ∀ e ∈ E, 1 ≤ e.id ∧ e.id ≤ last) (hl : last < 4294967296) (h : NextS E now t d ok F1 n1) (h2 : NextS E now t2 d2 ok2 F2 n2) : t = t2 ∧ d = d2 ∧ ok = ok2 ∧ F1 = F2 ∧ n1 = n2 := by
  rcases h with ⟨rfl, rfl, rfl, rfl, rfl, rfl⟩ | ⟨x, hx, rfl, rfl, rfl, rfl, rfl⟩ <;> rcases h2 with ⟨e, rfl, rfl, rfl, rfl, rfl⟩ | ⟨y, hy, rfl, rfl, rfl, rfl, rfl⟩
  · exact ⟨rfl, rfl, rfl, rfl, rfl⟩
  · exact absurd hy.1 (by simp)
  · subst e; exact absurd hx.1 (by simp)
  · obtain rfl := MinE.same hs (fun e he => by have := hi e he; omega) hx hy
    exact ⟨rfl, rfl, rfl, rfl, rfl⟩
section
variable {w0 w w1 : World} {O : Nat → Prop} {q r : Nat} {E1 E2 E' : List EvP.Ev} {l1 n1 l2 n2 l' n' : Int}
theorem s_next (h : TwoR w0 w O q E1 l1 n1 r E2 l2 n2) (hl : l1 < 4294967296) : Calls Try.prog 12 #[.pointer (some ⟨q, 0, none⟩)] w fun e w' => ∃ t d ok E' n', NextS E1 n1 t d ok E' n' ∧ e = .returned (.tuple #[.int .i64 t, .int .i64 d, .bool ok]) ∧ TwoR w0 w' O q E' l1 n' r E2 l2 n2 ∧ Chg (OthQ w0 O) w w' := by
  have h2 := h
  obtain ⟨O1, hs, hk⟩ := h.left
  by_cases hE : E1 = []
  · subst hE
    exact (q_next_none hs).mono fun e w1 h1 => ⟨0, 0, false, [], n1, .inl ⟨rfl, rfl, rfl, rfl, rfl, rfl⟩, h1.1, by rw [← h1.2]; exact ⟨h2, Chg.refl _ _⟩⟩
  · refine (q_next_some hs (List.length_pos_iff.2 hE) hl).mono fun e w1 h1 => ?_
    obtain ⟨x, hx, he, a, b⟩ := h1
    exact ⟨_, _, _, _, _, .inr ⟨x, hx, rfl, rfl, rfl, rfl, rfl⟩, he, hk _ _ _ _ a b⟩
theorem s_rnext {last : Int} (h : TwoR w0 w O q E1 l1 n1 r E2 l2 n2) (hs : E2.Pairwise (fun a b => a.id < b.id)) (hi : ∀ e ∈ E2, 1 ≤ e.id ∧ e.id ≤ last) (hl : last < 4294967296) (hlen : E2.length ≤ 65536) : Calls Try.prog 17 #[.pointer (some ⟨r, 0, none⟩)] w fun e w' => ∃ t d ok E' n', NextS E2 n2 t d ok E' n' ∧ e = .returned (.tuple #[.int .i64 t, .int .i64 d, .bool ok]) ∧ TwoR w0 w' O q E1 l1 n1 r E' l2 n' ∧ Chg (OthQ w0 O) w w' := by
  have h2 := h
  obtain ⟨G2, hr, hk⟩ := h.right
  by_cases hE : E2 = []
  · subst hE
    refine (rnext_none hr).mono fun e w1 h1 => ⟨0, 0, false, [], n2, .inl ⟨rfl, rfl, rfl, rfl, rfl, rfl⟩, h1.1, ?_⟩
    obtain ⟨n, hn⟩ := h1.2
    rw [hn]
    exact ⟨h2.drewN n, (Chg.refl _ _).drewN n⟩
  · refine (rnext_some hr hs hi hl (List.length_pos_iff.2 hE) hlen).mono fun e w1 h1 => ?_
    obtain ⟨x, hx, he, a⟩ := h1
    exact ⟨_, _, _, _, _, .inr ⟨x, hx, rfl, rfl, rfl, rfl, rfl⟩, he, hk _ _ _ _ a⟩
theorem s_len (h : TwoR w0 w O q E1 l1 n1 r E2 l2 n2) : Calls Try.prog 13 #[.pointer (some ⟨q, 0, none⟩)] w fun e w' => e = .returned (.int .i64 (E1.length : Int)) ∧ w = w' := by
  obtain ⟨O1, hs, hk⟩ := h.left
  exact q_len hs
theorem s_now (h : TwoR w0 w O q E1 l1 n1 r E2 l2 n2) : Calls Try.prog 15 #[.pointer (some ⟨q, 0, none⟩)] w fun e w' => e = .returned (.int .i64 n1) ∧ w = w' := by
  obtain ⟨O1, hs, hk⟩ := h.left
  exact q_now hs
theorem s_cancel (h : TwoR w0 w O q E1 l1 n1 r E2 l2 n2) (id : Int) (hid : (Lit.int .i64 id).wf = true) (hl : l1 < 4294967296) : Calls Try.prog 14 #[.pointer (some ⟨q, 0, none⟩), .int .i64 id] w fun e w' => ∃ c, ((c = 8 ∧ ∀ x ∈ E1, x.id ≠ id) ∨ (c = 0 ∧ ∃ x ∈ E1, x.id = id)) ∧ e = .returned (.int .i64 c) ∧ TwoR w0 w' O q (EvP.drop E1 id) l1 n1 r E2 l2 n2 ∧ Chg (OthQ w0 O) w w' := by
  obtain ⟨O1, hs, hk⟩ := h.left
  by_cases hx : ∃ x ∈ E1, x.id = id
  · exact (q_cancel_yes hs id hid hx rfl hl).mono fun e w1 he => ⟨0, .inr ⟨rfl, hx⟩, he.1, hk _ _ _ _ he.2.1 he.2.2⟩
  · have hn : ∀ x ∈ E1, x.id ≠ id := fun x hm e => hx ⟨x, hm, e⟩
    rw [drop_none hn]
    exact (q_cancel_no hs id hid hn hl).mono fun e w1 he => ⟨8, .inl ⟨rfl, hn⟩, he.1, hk _ _ _ _ he.2.1 he.2.2⟩
theorem s_rcancel (h : TwoR w0 w O q E1 l1 n1 r E2 l2 n2) (id : Int) (hs : E2.Pairwise (fun a b => a.id < b.id)) (hlen : E2.length ≤ 65536) : Calls Try.prog 18 #[.pointer (some ⟨r, 0, none⟩), .int .i64 id] w fun e w' => ∃ c, ((c = 8 ∧ ∀ x ∈ E2, x.id ≠ id) ∨ (c = 0 ∧ ∃ x ∈ E2, x.id = id)) ∧ e = .returned (.int .i64 c) ∧ TwoR w0 w' O q E1 l1 n1 r (EvP.drop E2 id) l2 n2 ∧ Chg (OthQ w0 O) w w' := by
  have h2 := h
  obtain ⟨G2, hr, hk⟩ := h.right
  refine (rcancel_calls hr hs hlen id).mono fun e w1 he => ?_
  rcases he with ⟨hn, he, rfl⟩ | ⟨hx, he, hp⟩
  · refine ⟨8, .inl ⟨rfl, hn⟩, he, ?_⟩
    rw [drop_none hn]
    exact ⟨h2, Chg.refl _ _⟩
  · exact ⟨0, .inr ⟨rfl, hx⟩, he, hk _ _ _ _ hp⟩
/-- What Peek says. -/
def PeekS (E : List EvP.Ev) (t : Int) (ok : Bool) : Prop := (E = [] ∧ t = 0 ∧ ok = false) ∨ ∃ x, MinE E x ∧ t = x.time ∧ ok = true
theorem PeekS.same {E : List EvP.Ev} {t t2 last : Int} {ok ok2 : Bool} (hs : E.Pairwise (fun a b => a.id < b.id)) (hi : ∀ e ∈ E, 1 ≤ e.id ∧ e.id ≤ last) (hl : last < 4294967296) (h : PeekS E t ok) (h2 : PeekS E t2 ok2) : t = t2 ∧ ok = ok2 := by
  rcases h with ⟨rfl, rfl, rfl⟩ | ⟨x, hx, rfl, rfl⟩ <;> rcases h2 with ⟨e, rfl, rfl⟩ | ⟨y, hy, rfl, rfl⟩
  · exact ⟨rfl, rfl⟩
  · exact absurd hy.1 (by simp)
  · subst e; exact absurd hx.1 (by simp)
  · obtain rfl := MinE.same hs (fun e he => by have := hi e he; omega) hx hy
    exact ⟨rfl, rfl⟩
theorem s_peek (h : TwoR w0 w O q E1 l1 n1 r E2 l2 n2) (hl : l1 < 4294967296) : Calls Try.prog 19 #[.pointer (some ⟨q, 0, none⟩)] w fun e w' => ∃ t ok, PeekS E1 t ok ∧ e = .returned (.tuple #[.int .i64 t, .bool ok]) ∧ TwoR w0 w' O q E1 l1 n1 r E2 l2 n2 ∧ Chg (OthQ w0 O) w w' := by
  have h2 := h
  obtain ⟨O1, ⟨G, a, c, d, g⟩, hk⟩ := h.left
  by_cases hE : E1 = []
  · subst hE
    exact (peek_none a).mono fun e w1 h1 => ⟨0, false, .inl ⟨rfl, rfl, rfl⟩, h1.1, by rw [← h1.2]; exact ⟨h2, Chg.refl _ _⟩⟩
  · refine (peek_some a (List.length_pos_iff.2 hE) hl).mono fun e w1 h1 => ?_
    obtain ⟨x, hx, he, hp⟩ := h1
    have hq := QS.post c d g hp
    exact ⟨_, _, .inr ⟨x, hx, rfl, rfl⟩, he, hk _ _ _ _ hq.1 hq.2⟩
theorem s_rpeek {last : Int} (h : TwoR w0 w O q E1 l1 n1 r E2 l2 n2) (hs : E2.Pairwise (fun a b => a.id < b.id)) (hi : ∀ e ∈ E2, 1 ≤ e.id ∧ e.id ≤ last) (hl : last < 4294967296) (hlen : E2.length ≤ 65536) : Calls Try.prog 20 #[.pointer (some ⟨r, 0, none⟩)] w fun e w' => ∃ t ok, PeekS E2 t ok ∧ e = .returned (.tuple #[.int .i64 t, .bool ok]) ∧ TwoR w0 w' O q E1 l1 n1 r E2 l2 n2 ∧ Chg (OthQ w0 O) w w' := by
  have h2 := h
  obtain ⟨G2, hr, hk⟩ := h.right
  by_cases hE : E2 = []
  · subst hE
    refine (rpeek_none hr).mono fun e w1 h1 => ⟨0, false, .inl ⟨rfl, rfl, rfl⟩, h1.1, ?_⟩
    obtain ⟨n, hn⟩ := h1.2
    rw [hn]
    exact ⟨h2.drewN n, (Chg.refl _ _).drewN n⟩
  · refine (rpeek_some hr hs hi hl (List.length_pos_iff.2 hE) hlen).mono fun e w1 h1 => ?_
    obtain ⟨x, hx, he, n, hn⟩ := h1
    refine ⟨_, _, .inr ⟨x, hx, rfl, rfl⟩, he, ?_⟩
    rw [hn]
    exact ⟨h2.drewN n, (Chg.refl _ _).drewN n⟩
theorem s_start (h : QS w0 w (fun _ => False) q E1 l1 n1) : TwoR w0 (w.alloc (.cells #[.slice none 0 0, .int .i64 0, .int .i64 0] 45)) (fun _ => False) q E1 l1 n1 w.heap.size [] 0 0 := by
  obtain ⟨G, a, c, d, g⟩ := h
  have hc : Chg (fun _ => False) w (w.alloc (.cells #[.slice none 0 0, .int .i64 0, .int .i64 0] 45)) := (Chg.refl _ _).alloc _
  refine ⟨G, fun k => k = w.heap.size, a.kept hc (fun _ _ h => h), ⟨.slice none 0 0, ⟨heap_alloc_new w _, rfl, .inl ⟨rfl, rfl⟩⟩, fun k hk => ?_, fun k hk => by rw [hk]; simp⟩, hc.below c c.size (fun _ h => h.elim), d, fun k hk => by rw [hk]; exact c.size, fun k h1 h2 => by have := a.lt k h1; omega, fun _ h => h.elim⟩
  rcases hk with e | e
  · exact e
  · cases e
theorem TwoR.cells (h : TwoR w0 w O q E1 l1 n1 r E2 l2 n2) : ∃ A c, w.cell? ⟨r, 0, none⟩ = some (.slice A E2.length c) ∧ w.cell? ⟨r, 2, none⟩ = some (.int .i64 n2) := by
  obtain ⟨G1, G2, a, ⟨vE, hv, _⟩, _⟩ := h
  obtain ⟨A, c, rfl⟩ := hv.oe.slice
  exact ⟨A, c, blk_at hv.blk 0 _ rfl, blk_at hv.blk 2 _ rfl⟩
end
end Go.Proofs.Ytpliaagfhjnnaaa.Ev

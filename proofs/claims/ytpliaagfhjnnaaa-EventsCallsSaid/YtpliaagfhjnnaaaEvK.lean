import Derived.Test.YtpliaagfhjnnaaaEvI
namespace Go.Proofs.Ytpliaagfhjnnaaa.Ev
open Go.RowKit Go.Proofs.YtpliaagfhjnnaaaW.PrintWords Go.Proofs.Ytpliaagfhjnnaaa.Sep Go.Proofs.Ytpliaagfhjnnaaa.HeapP Go.Proofs.Ytpliaagfhjnnaaa.Heap Go.Proofs.Ytpliaagfhjnnaaa.EvP
set_option linter.unusedVariables false
set_option linter.unusedSimpArgs false

/-! Two queues side by side. -/
def TwoQ (w0 w : World) (O : Nat → Prop) (q1 : Nat) (E1 : List EvP.Ev) (l1 n1 : Int) (q2 : Nat) (E2 : List EvP.Ev) (l2 n2 : Int) : Prop :=
  ∃ G1 G2, QIs w G1 q1 E1 l1 n1 ∧ QIs w G2 q2 E2 l2 n2 ∧ Below w0.heap.size w0 w ∧ (∀ k, G1 k → w0.heap.size ≤ k) ∧ (∀ k, G2 k → w0.heap.size ≤ k) ∧ (∀ k, G1 k → ¬ G2 k) ∧ (∀ k, O k → ¬ G1 k ∧ ¬ G2 k ∧ k < w.heap.size)
section
variable {w0 w w1 : World} {O : Nat → Prop} {q1 q2 : Nat} {E1 E2 E' : List EvP.Ev} {l1 n1 l2 n2 l' n' : Int}
theorem TwoQ.swap (h : TwoQ w0 w O q1 E1 l1 n1 q2 E2 l2 n2) : TwoQ w0 w O q2 E2 l2 n2 q1 E1 l1 n1 := by
  obtain ⟨G1, G2, a, b, c, d, e, f, g⟩ := h
  exact ⟨G2, G1, b, a, c, e, d, fun k h1 h2 => f k h2 h1, fun k hk => ⟨(g k hk).2.1, (g k hk).1, (g k hk).2.2⟩⟩
theorem TwoQ.left (h : TwoQ w0 w O q1 E1 l1 n1 q2 E2 l2 n2) : ∃ O1, QS w0 w O1 q1 E1 l1 n1 ∧ ∀ w1 E' l' n', QS w0 w1 O1 q1 E' l' n' → Chg (OthQ w0 O1) w w1 → TwoQ w0 w1 O q1 E' l' n' q2 E2 l2 n2 ∧ Chg (OthQ w0 O) w w1 := by
  obtain ⟨G1, G2, a, b, c, d, e, f, g⟩ := h
  refine ⟨fun k => G2 k ∨ O k, ⟨G1, a, c, d, fun k hk => ?_⟩, fun w1 E' l' n' hs hc => ?_⟩
  · rcases hk with hk | hk
    · exact ⟨fun h1 => f k h1 hk, b.lt k hk⟩
    · exact ⟨(g k hk).1, (g k hk).2.2⟩
  · obtain ⟨G3, a3, c3, d3, g3⟩ := hs
    exact ⟨⟨G3, G2, a3, b.kept hc (fun k hk ho => ho.2 (.inl hk)), c3, d3, e, fun k h1 h2 => (g3 k (.inl h2)).1 h1, fun k hk => ⟨(g3 k (.inr hk)).1, (g k hk).2.1, (g3 k (.inr hk)).2⟩⟩, hc.mono (fun k _ ho => ⟨ho.1, fun h => ho.2 (.inr h)⟩)⟩
theorem TwoQ.below (h : TwoQ w0 w O q1 E1 l1 n1 q2 E2 l2 n2) : Below w0.heap.size w0 w := by
  obtain ⟨G1, G2, a, b, c, _⟩ := h
  exact c
theorem TwoQ.facts (h : TwoQ w0 w O q1 E1 l1 n1 q2 E2 l2 n2) : E1.Pairwise (fun a b => a.id < b.id) ∧ (∀ e ∈ E1, 1 ≤ e.id ∧ e.id ≤ l1) ∧ (∀ e ∈ E1, n1 ≤ e.time ∧ e.time ≤ 1073741824) ∧ (0 ≤ n1 ∧ n1 ≤ 1073741824) ∧ 0 ≤ l1 ∧ E1.length ≤ 65536 := by
  obtain ⟨G1, G2, a, b, c, _⟩ := h
  exact a.facts
theorem TwoQ.kept (h : TwoQ w0 w O q1 E1 l1 n1 q2 E2 l2 n2) (hc : Chg O w w1) (hO : ∀ k, O k → w0.heap.size ≤ k) : TwoQ w0 w1 O q1 E1 l1 n1 q2 E2 l2 n2 := by
  obtain ⟨G1, G2, a, b, c, d, e, f, g⟩ := h
  exact ⟨G1, G2, a.kept hc (fun k hg ho => (g k ho).1 hg), b.kept hc (fun k hg ho => (g k ho).2.1 hg), hc.below c c.size hO, d, e, f, fun k ho => ⟨(g k ho).1, (g k ho).2.1, Nat.lt_of_lt_of_le (g k ho).2.2 hc.size⟩⟩
theorem TwoQ.beside (h : TwoQ w0 w O q1 E1 l1 n1 q2 E2 l2 n2) (b : Nat) (hb : w.heap.size ≤ b) (hc : Chg (fun _ => False) w w1) (hl : b < w1.heap.size) : TwoQ w0 w1 (fun k => k = b) q1 E1 l1 n1 q2 E2 l2 n2 := by
  obtain ⟨G1, G2, a, b', c, d, e, f, g⟩ := h
  exact ⟨G1, G2, a.kept hc (fun _ _ h => h), b'.kept hc (fun _ _ h => h), hc.below c c.size (fun _ h => h.elim), d, e, f, fun k hk => by
    subst hk
    exact ⟨fun hf => by have := a.lt k hf; omega, fun hg => by have := b'.lt k hg; omega, hl⟩⟩
theorem t_new (h : QS w0 w (fun _ => False) q1 E1 l1 n1) : Calls Try.prog 10 #[] w fun e w' => ∃ q, e = .returned (.pointer (some ⟨q, 0, none⟩)) ∧ TwoQ w0 w' (fun _ => False) q1 E1 l1 n1 q [] 0 0 := by
  refine (qnew_calls w).mono fun e w1 he => ?_
  obtain ⟨q, G, rfl, h1, h2, h3⟩ := he
  obtain ⟨G1, a, c, d, g⟩ := h
  have hc := Chg.of_below (F := fun _ => False) h2
  exact ⟨q, rfl, G1, G, a.kept hc (fun _ _ h => h), h1, hc.below c c.size (fun _ h => h.elim), d, fun k hk => Nat.le_trans c.size (h3 k hk), fun k h4 h5 => by have := a.lt k h4; have := h3 k h5; omega, fun _ h => h.elim⟩
theorem t_add1 (h : TwoQ w0 w O q1 E1 l1 n1 q2 E2 l2 n2) (t d i : Int) (E' : List EvP.Ev) (hi : l1 + 1 = i) (hE : E1 ++ [⟨i, t, d⟩] = E') (hb : addErr n1 t E1.length = 0) (hl : l1 < 4294967295) : Calls Try.prog 11 #[.pointer (some ⟨q1, 0, none⟩), .int .i64 t, .int .i64 d] w fun e w' => e = .returned (.tuple #[.int .i64 i, .int .i64 0]) ∧ TwoQ w0 w' O q1 E' i n1 q2 E2 l2 n2 ∧ Chg (OthQ w0 O) w w' := by
  obtain ⟨O1, hs, hk⟩ := h.left
  exact (q_add_ok hs t d i E' hi hE hb hl).mono fun e w1 he => ⟨he.1, hk _ _ _ _ he.2.1 he.2.2⟩
theorem t_add2 (h : TwoQ w0 w O q1 E1 l1 n1 q2 E2 l2 n2) (t d i : Int) (E' : List EvP.Ev) (hi : l2 + 1 = i) (hE : E2 ++ [⟨i, t, d⟩] = E') (hb : addErr n2 t E2.length = 0) (hl : l2 < 4294967295) : Calls Try.prog 11 #[.pointer (some ⟨q2, 0, none⟩), .int .i64 t, .int .i64 d] w fun e w' => e = .returned (.tuple #[.int .i64 i, .int .i64 0]) ∧ TwoQ w0 w' O q1 E1 l1 n1 q2 E' i n2 ∧ Chg (OthQ w0 O) w w' :=
  (t_add1 h.swap t d i E' hi hE hb hl).mono fun e w1 he => ⟨he.1, he.2.1.swap, he.2.2⟩
theorem t_next1 (h : TwoQ w0 w O q1 E1 l1 n1 q2 E2 l2 n2) (hE : 0 < E1.length) (hl : l1 < 4294967296) : Calls Try.prog 12 #[.pointer (some ⟨q1, 0, none⟩)] w fun e w' => ∃ x, MinE E1 x ∧ e = .returned (.tuple #[.int .i64 x.time, .int .i64 x.data, .bool true]) ∧ TwoQ w0 w' O q1 (EvP.drop E1 x.id) l1 x.time q2 E2 l2 n2 := by
  obtain ⟨O1, hs, hk⟩ := h.left
  refine (q_next_some hs hE hl).mono fun e w1 he => ?_
  obtain ⟨x, hx, he, h1, h2⟩ := he
  exact ⟨x, hx, he, (hk _ _ _ _ h1 h2).1⟩
theorem t_next2 (h : TwoQ w0 w O q1 E1 l1 n1 q2 E2 l2 n2) (hE : 0 < E2.length) (hl : l2 < 4294967296) : Calls Try.prog 12 #[.pointer (some ⟨q2, 0, none⟩)] w fun e w' => ∃ x, MinE E2 x ∧ e = .returned (.tuple #[.int .i64 x.time, .int .i64 x.data, .bool true]) ∧ TwoQ w0 w' O q1 E1 l1 n1 q2 (EvP.drop E2 x.id) l2 x.time := by
  refine (t_next1 h.swap hE hl).mono fun e w1 he => ?_
  obtain ⟨x, hx, he, h1⟩ := he
  exact ⟨x, hx, he, h1.swap⟩
theorem t_none1 (h : TwoQ w0 w O q1 [] l1 n1 q2 E2 l2 n2) : Calls Try.prog 12 #[.pointer (some ⟨q1, 0, none⟩)] w fun e w' => e = .returned (.tuple #[.int .i64 0, .int .i64 0, .bool false]) ∧ w = w' := by
  obtain ⟨O1, hs, hk⟩ := h.left
  exact q_next_none hs
theorem t_none2 (h : TwoQ w0 w O q1 E1 l1 n1 q2 [] l2 n2) : Calls Try.prog 12 #[.pointer (some ⟨q2, 0, none⟩)] w fun e w' => e = .returned (.tuple #[.int .i64 0, .int .i64 0, .bool false]) ∧ w = w' := t_none1 h.swap
theorem t_cancel_yes (h : TwoQ w0 w O q1 E1 l1 n1 q2 E2 l2 n2) (id : Int) (hid : (Lit.int .i64 id).wf = true) (hx : ∃ x ∈ E1, x.id = id) (hl : l1 < 4294967296) : Calls Try.prog 14 #[.pointer (some ⟨q1, 0, none⟩), .int .i64 id] w fun e w' => e = .returned (.int .i64 0) ∧ TwoQ w0 w' O q1 (EvP.drop E1 id) l1 n1 q2 E2 l2 n2 ∧ Chg (OthQ w0 O) w w' := by
  obtain ⟨O1, hs, hk⟩ := h.left
  exact (q_cancel_yes hs id hid hx rfl hl).mono fun e w1 he => ⟨he.1, hk _ _ _ _ he.2.1 he.2.2⟩
theorem t_cancel_no (h : TwoQ w0 w O q1 E1 l1 n1 q2 E2 l2 n2) (id : Int) (hid : (Lit.int .i64 id).wf = true) (hx : ∀ x ∈ E1, x.id ≠ id) (hl : l1 < 4294967296) : Calls Try.prog 14 #[.pointer (some ⟨q1, 0, none⟩), .int .i64 id] w fun e w' => e = .returned (.int .i64 8) ∧ TwoQ w0 w' O q1 E1 l1 n1 q2 E2 l2 n2 ∧ Chg (OthQ w0 O) w w' := by
  obtain ⟨O1, hs, hk⟩ := h.left
  exact (q_cancel_no hs id hid hx hl).mono fun e w1 he => ⟨he.1, hk _ _ _ _ he.2.1 he.2.2⟩
theorem t_len1 (h : TwoQ w0 w O q1 E1 l1 n1 q2 E2 l2 n2) : Calls Try.prog 13 #[.pointer (some ⟨q1, 0, none⟩)] w fun e w' => e = .returned (.int .i64 (E1.length : Int)) ∧ w = w' := by
  obtain ⟨O1, hs, hk⟩ := h.left
  exact q_len hs
end
/-! The same times and data in the same order. -/
def td (E : List EvP.Ev) : List (Int × Int) := E.map fun e => (e.time, e.data)
theorem td_at {E1 E2 : List EvP.Ev} (h : td E1 = td E2) (i : Nat) : (pe E1 i).time = (pe E2 i).time ∧ (pe E1 i).data = (pe E2 i).data := by
  have hl : E1.length = E2.length := by have := congrArg List.length h; simpa [td] using this
  rcases Nat.lt_or_ge i E1.length with hi | hi
  · have h1 : (td E1)[i]? = (td E2)[i]? := by rw [h]
    simp only [td, List.getElem?_map, List.getElem?_eq_getElem hi, List.getElem?_eq_getElem (hl ▸ hi), Option.map_some, Option.some.injEq, Prod.mk.injEq] at h1
    rw [pe_get hi, pe_get (hl ▸ hi)]
    exact h1
  · simp [pe, List.getD_eq_getElem?_getD, List.getElem?_eq_none hi, List.getElem?_eq_none (hl ▸ hi)]
theorem min_pos {E : List EvP.Ev} {last : Int} (hs : E.Pairwise (fun a b => a.id < b.id)) (hi : ∀ e ∈ E, 1 ≤ e.id ∧ e.id ≤ last) (hl : last < 4294967296) {x : EvP.Ev} (hx : MinE E x) : ∃ p, p < E.length ∧ pe E p = x ∧ (∀ i, i < p → x.time < (pe E i).time) ∧ ∀ i, i < E.length → x.time ≤ (pe E i).time := by
  obtain ⟨p, hp, e⟩ := List.getElem_of_mem hx.1
  have hpx : pe E p = x := by rw [pe_get hp]; exact e
  refine ⟨p, hp, hpx, fun i hip => ?_, fun i hil => ?_⟩
  · have h1 := hx.2 _ (pe_mem (xs := E) (i := i) (by omega))
    have h2 := hi _ (pe_mem (xs := E) (i := i) (by omega))
    have h3 := hi _ hx.1
    have h4 : (pe E i).id < (pe E p).id := by
      rw [pe_get (by omega), pe_get hp]
      exact List.pairwise_iff_getElem.1 hs i p (by omega) hp hip
    rw [hpx] at h4
    unfold EvP.rank at h1
    omega
  · have h1 := hx.2 _ (pe_mem hil)
    have h2 := hi _ (pe_mem hil)
    have h3 := hi _ hx.1
    unfold EvP.rank at h1
    omega
theorem td_next {E1 E2 : List EvP.Ev} {la lb : Int} (h : td E1 = td E2) (hs1 : E1.Pairwise (fun a b => a.id < b.id)) (hi1 : ∀ e ∈ E1, 1 ≤ e.id ∧ e.id ≤ la) (ha : la < 4294967296) (hs2 : E2.Pairwise (fun a b => a.id < b.id)) (hi2 : ∀ e ∈ E2, 1 ≤ e.id ∧ e.id ≤ lb) (hb : lb < 4294967296) {x y : EvP.Ev} (hx : MinE E1 x) (hy : MinE E2 y) : x.time = y.time ∧ x.data = y.data ∧ td (EvP.drop E1 x.id) = td (EvP.drop E2 y.id) := by
  obtain ⟨p, hp, ex, hp1, hp2⟩ := min_pos hs1 hi1 ha hx
  obtain ⟨p', hp', ey, hq1, hq2⟩ := min_pos hs2 hi2 hb hy
  have hl : E1.length = E2.length := by have := congrArg List.length h; simpa [td] using this
  have heq : p = p' := by
    rcases Nat.lt_trichotomy p p' with c | c | c
    · have h1 := hq1 p c
      have h2 := hp2 p' (by omega)
      have h3 := (td_at h p).1
      have h4 := (td_at h p').1
      rw [ex] at h3
      rw [ey] at h4
      omega
    · exact c
    · have h1 := hp1 p' c
      have h2 := hq2 p (by omega)
      have h3 := (td_at h p).1
      have h4 := (td_at h p').1
      rw [ex] at h3
      rw [ey] at h4
      omega
  subst heq
  have h5 := td_at h p
  rw [ex, ey] at h5
  refine ⟨h5.1, h5.2, ?_⟩
  have e1 := drop_at hs1 hp
  have e2 := drop_at hs2 hp'
  rw [ex] at e1
  rw [ey] at e2
  rw [← e1, ← e2]
  unfold td at h ⊢
  rw [List.map_append, List.map_append, List.map_take, List.map_take, List.map_drop, List.map_drop, h]
end Go.Proofs.Ytpliaagfhjnnaaa.Ev

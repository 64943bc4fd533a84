import Derived.Test.YtpliaagfhjnnaaaEvG
namespace Go.Proofs.Ytpliaagfhjnnaaa.Ev
open Go.RowKit Go.Proofs.YtpliaagfhjnnaaaW.PrintWords Go.Proofs.Ytpliaagfhjnnaaa.Sep Go.Proofs.Ytpliaagfhjnnaaa.HeapP Go.Proofs.Ytpliaagfhjnnaaa.Heap Go.Proofs.Ytpliaagfhjnnaaa.EvP
set_option linter.unusedVariables false

/-! A queue beside other things. -/
def OthQ (w0 : World) (O : Nat → Prop) (k : Nat) : Prop := w0.heap.size ≤ k ∧ ¬ O k
def QS (w0 w : World) (O : Nat → Prop) (q : Nat) (E : List EvP.Ev) (last now : Int) : Prop :=
  ∃ G, QIs w G q E last now ∧ Below w0.heap.size w0 w ∧ (∀ k, G k → w0.heap.size ≤ k) ∧ (∀ k, O k → ¬ G k ∧ k < w.heap.size)
section
variable {w0 w w1 : World} {O G : Nat → Prop} {q : Nat} {E E' : List EvP.Ev} {last now last' now' : Int}
theorem QIs.lt (h : QIs w G q E last now) (k : Nat) (hk : G k) : k < w.heap.size := by
  obtain ⟨ph, b, vp, vf, F, PL, FR, Has, ks, M, c, hv, hi, hc, hG, hl⟩ := h
  exact hl k hk
theorem QIs.kept (h : QIs w G q E last now) (hc : Chg O w w1) (hd : ∀ k, G k → ¬ O k) : QIs w1 G q E last now := by
  obtain ⟨ph, b, vp, vf, F, PL, FR, Has, ks, M, c, hv, hi, h3, hG, hl⟩ := h
  exact ⟨ph, b, vp, vf, F, PL, FR, Has, ks, M, c, hv.kept hc (fun k hk => hd k (hG k hk)), hi, h3, hG, fun k hk => Nat.lt_of_lt_of_le (hl k hk) hc.size⟩
theorem QIs.facts (h : QIs w G q E last now) : E.Pairwise (fun a b => a.id < b.id) ∧ (∀ e ∈ E, 1 ≤ e.id ∧ e.id ≤ last) ∧ (∀ e ∈ E, now ≤ e.time ∧ e.time ≤ 1073741824) ∧ (0 ≤ now ∧ now ≤ 1073741824) ∧ 0 ≤ last ∧ E.length ≤ 65536 := by
  obtain ⟨ph, b, vp, vf, F, PL, FR, Has, ks, M, c, hv, hi, h3, hG, hl⟩ := h
  exact ⟨hi.sorted, hi.ids, hi.times, hi.now0, hi.last0, by have := hi.fl; have := hi.pm; omega⟩
theorem QS.facts (h : QS w0 w O q E last now) : E.Pairwise (fun a b => a.id < b.id) ∧ (∀ e ∈ E, 1 ≤ e.id ∧ e.id ≤ last) ∧ (∀ e ∈ E, now ≤ e.time ∧ e.time ≤ 1073741824) ∧ (0 ≤ now ∧ now ≤ 1073741824) ∧ 0 ≤ last ∧ E.length ≤ 65536 := by
  obtain ⟨G, a, _⟩ := h
  exact a.facts
theorem QS.below (h : QS w0 w O q E last now) : Below w0.heap.size w0 w := by
  obtain ⟨G, _, c, _⟩ := h
  exact c
theorem QS.post (c : Below w0.heap.size w0 w) (d : ∀ k, G k → w0.heap.size ≤ k) (g : ∀ k, O k → ¬ G k ∧ k < w.heap.size) (h : QPost w G q E' last' now' w1) : QS w0 w1 O q E' last' now' ∧ Chg (OthQ w0 O) w w1 := by
  refine ⟨⟨Gr G w w1, h.1, h.2.below c c.size d, fun k hk => hk.elim (d k) (fun q => Nat.le_trans c.size q.1), fun k ho => ⟨fun hk => ?_, Nat.lt_of_lt_of_le (g k ho).2 h.2.size⟩⟩, h.2.mono (fun k _ hf => ⟨d k hf, fun ho => (g k ho).1 hf⟩)⟩
  rcases hk with q | q
  · exact (g k ho).1 q
  · have := (g k ho).2; omega
theorem QS.kept (h : QS w0 w O q E last now) (hc : Chg O w w1) (hO : ∀ k, O k → w0.heap.size ≤ k) : QS w0 w1 O q E last now := by
  obtain ⟨G, a, c, d, g⟩ := h
  exact ⟨G, a.kept hc (fun k hg ho => (g k ho).1 hg), hc.below c c.size hO, d, fun k ho => ⟨(g k ho).1, Nat.lt_of_lt_of_le (g k ho).2 hc.size⟩⟩
theorem QS.drewN (h : QS w0 w O q E last now) (n : Nat) : QS w0 (w.drewN n) O q E last now := by
  obtain ⟨G, a, c, d, g⟩ := h
  exact ⟨G, a.kept ((Chg.refl (fun _ => False) _).drewN n) (fun _ _ h => h), ⟨c.os, c.tape, c.output, c.size, c.block⟩, d, g⟩
theorem QS.drew (h : QS w0 w O q E last now) : QS w0 w.drew O q E last now := h.drewN 1
/-- Beside something new. -/
theorem QS.beside (h : QS w0 w O q E last now) (O' : Nat → Prop) (hc : Chg (fun _ => False) w w1) (hO : ∀ k, O' k → k < w1.heap.size ∧ (w.heap.size ≤ k ∨ O k)) : QS w0 w1 O' q E last now := by
  obtain ⟨G, a, c, d, g⟩ := h
  refine ⟨G, a.kept hc (fun _ _ h => h), hc.below c c.size (fun _ h => h.elim), d, fun k hk => ⟨fun hg => ?_, (hO k hk).1⟩⟩
  rcases (hO k hk).2 with h | h
  · have := a.lt k hg; omega
  · exact (g k h).1 hg
theorem QS.less (h : QS w0 w O q E last now) (O' : Nat → Prop) (hO : ∀ k, O' k → O k) : QS w0 w O' q E last now := by
  obtain ⟨G, a, c, d, g⟩ := h
  exact ⟨G, a, c, d, fun k hk => g k (hO k hk)⟩
theorem q_new (hb : Below w0.heap.size w0 w) : Calls Try.prog 10 #[] w fun e w' => ∃ q, e = .returned (.pointer (some ⟨q, 0, none⟩)) ∧ QS w0 w' (fun _ => False) q [] 0 0 := by
  refine (qnew_calls w).mono fun e w1 he => ?_
  obtain ⟨q, G, rfl, h1, h2, h3⟩ := he
  exact ⟨q, rfl, G, h1, (Chg.of_below (F := fun _ => False) h2).below hb hb.size (fun _ h => h.elim), fun k hk => Nat.le_trans hb.size (h3 k hk), fun _ h => h.elim⟩
theorem q_add_ok (h : QS w0 w O q E last now) (t d i : Int) (E' : List EvP.Ev) (hi : last + 1 = i) (hE : E ++ [⟨i, t, d⟩] = E') (hb : addErr now t E.length = 0) (hl : last < 4294967295) : Calls Try.prog 11 #[.pointer (some ⟨q, 0, none⟩), .int .i64 t, .int .i64 d] w fun e w' => e = .returned (.tuple #[.int .i64 i, .int .i64 0]) ∧ QS w0 w' O q E' i now ∧ Chg (OthQ w0 O) w w' := by
  subst hi hE
  obtain ⟨G, a, c, d', g⟩ := h
  exact (add_good a t d hb hl).mono fun e w1 he => ⟨he.1, QS.post c d' g he.2⟩
theorem q_add_no (h : QS w0 w O q E last now) (t d er : Int) (hb : addErr now t E.length = er) (h0 : er ≠ 0) : Calls Try.prog 11 #[.pointer (some ⟨q, 0, none⟩), .int .i64 t, .int .i64 d] w fun e w' => e = .returned (.tuple #[.int .i64 0, .int .i64 er]) ∧ w = w' := by
  subst hb
  obtain ⟨G, a, c, d', g⟩ := h
  exact add_bad a t d h0
theorem q_next_some (h : QS w0 w O q E last now) (hE : 0 < E.length) (hl : last < 4294967296) : Calls Try.prog 12 #[.pointer (some ⟨q, 0, none⟩)] w fun e w' => ∃ x, MinE E x ∧ e = .returned (.tuple #[.int .i64 x.time, .int .i64 x.data, .bool true]) ∧ QS w0 w' O q (EvP.drop E x.id) last x.time ∧ Chg (OthQ w0 O) w w' := by
  obtain ⟨G, a, c, d, g⟩ := h
  refine (next_some a hE hl).mono fun e w1 he => ?_
  obtain ⟨x, hx, he, hp⟩ := he
  exact ⟨x, hx, he, QS.post c d g hp⟩
theorem q_next_is (h : QS w0 w O q E last now) (x : EvP.Ev) (t d : Int) (hx : MinE E x) (ht : x.time = t) (hd : x.data = d) (hE : EvP.drop E x.id = E') (hl : last < 4294967296) : Calls Try.prog 12 #[.pointer (some ⟨q, 0, none⟩)] w fun e w' => e = .returned (.tuple #[.int .i64 t, .int .i64 d, .bool true]) ∧ QS w0 w' O q E' last t ∧ Chg (OthQ w0 O) w w' := by
  subst ht hd hE
  have hf := h.facts
  refine (q_next_some h (List.length_pos_of_mem hx.1) hl).mono fun e w1 he => ?_
  obtain ⟨y, hy, he⟩ := he
  obtain rfl := MinE.same hf.1 (fun e he => by have := hf.2.1 e he; omega) hy hx
  exact he
theorem q_next_none (h : QS w0 w O q [] last now) : Calls Try.prog 12 #[.pointer (some ⟨q, 0, none⟩)] w fun e w' => e = .returned (.tuple #[.int .i64 0, .int .i64 0, .bool false]) ∧ w = w' := by
  obtain ⟨G, a, c, d, g⟩ := h
  exact next_none a
theorem q_cancel_yes (h : QS w0 w O q E last now) (id : Int) (hid : (Lit.int .i64 id).wf = true) (hx : ∃ x ∈ E, x.id = id) (hE : EvP.drop E id = E') (hl : last < 4294967296) : Calls Try.prog 14 #[.pointer (some ⟨q, 0, none⟩), .int .i64 id] w fun e w' => e = .returned (.int .i64 0) ∧ QS w0 w' O q E' last now ∧ Chg (OthQ w0 O) w w' := by
  subst hE
  obtain ⟨G, a, c, d, g⟩ := h
  refine (cancel_calls a id hid hl).mono fun e w1 he => ?_
  rcases he with ⟨h1, _⟩ | ⟨_, h1, h2⟩
  · obtain ⟨x, hm, hi⟩ := hx
    exact absurd hi (h1 x hm)
  · exact ⟨h1, QS.post c d g h2⟩
theorem q_cancel_no (h : QS w0 w O q E last now) (id : Int) (hid : (Lit.int .i64 id).wf = true) (hx : ∀ x ∈ E, x.id ≠ id) (hl : last < 4294967296) : Calls Try.prog 14 #[.pointer (some ⟨q, 0, none⟩), .int .i64 id] w fun e w' => e = .returned (.int .i64 8) ∧ QS w0 w' O q E last now ∧ Chg (OthQ w0 O) w w' := by
  obtain ⟨G, a, c, d, g⟩ := h
  refine (cancel_calls a id hid hl).mono fun e w1 he => ?_
  rcases he with ⟨_, h1, h2⟩ | ⟨⟨x, hm, hi⟩, _⟩
  · exact ⟨h1, QS.post c d g h2⟩
  · exact absurd hi (hx x hm)
theorem q_len (h : QS w0 w O q E last now) : Calls Try.prog 13 #[.pointer (some ⟨q, 0, none⟩)] w fun e w' => e = .returned (.int .i64 (E.length : Int)) ∧ w = w' := by
  obtain ⟨G, a, c, d, g⟩ := h
  exact qlen_calls a
theorem q_now (h : QS w0 w O q E last now) : Calls Try.prog 15 #[.pointer (some ⟨q, 0, none⟩)] w fun e w' => e = .returned (.int .i64 now) ∧ w = w' := by
  obtain ⟨G, a, c, d, g⟩ := h
  exact now_calls a
end
def minB (E : List EvP.Ev) (x : EvP.Ev) : Bool := E.any (fun e => decide (e.id = x.id) && decide (e.time = x.time) && decide (e.data = x.data)) && E.all (fun e => decide (EvP.rank x ≤ EvP.rank e))
theorem min_of {E : List EvP.Ev} {x : EvP.Ev} (h : minB E x = true) : MinE E x := by
  simp only [minB, Bool.and_eq_true, List.any_eq_true, List.all_eq_true, decide_eq_true_eq] at h
  obtain ⟨⟨⟨i, t, d⟩, he, ⟨h1, h2⟩, h3⟩, h4⟩ := h
  obtain ⟨i', t', d'⟩ := x
  simp only at h1 h2 h3
  subst h1 h2 h3
  exact ⟨he, h4⟩
set_option maxHeartbeats 4000000 in
set_option maxRecDepth 100000 in
theorem awake_calls (w : World) : Calls Try.prog 9 #[] w fun e w' => e = .returned (.bool true) ∧ Below w.heap.size w w' := by
  go_enter Try.func9, Try.ntmps9
  go_wp2_with (first | (go_at_call 10; (with_reducible refine (q_new (Below.refl _ w)).mono ?_); rintro e w1 ⟨p, rfl, h1⟩; have H1 := Aside0.mk h1; clear h1) | (go_at_call 11; (with_reducible refine (q_add_no H6.out 4 1 7 (by decide) (by decide)).mono ?_); rintro e w7 ⟨rfl, h7⟩; obtain rfl := h7.symm) | (go_at_call 11; (with_reducible refine (q_add_ok H3.out 5 30 3 [⟨1, 5, 10⟩, ⟨2, 3, 20⟩, ⟨3, 5, 30⟩] rfl rfl (by decide) (by decide)).mono ?_); rintro e w4 ⟨rfl, h4, _⟩; have H4 := Aside0.mk h4; clear h4) | (go_at_call 11; (with_reducible refine (q_add_ok H2.out 3 20 2 [⟨1, 5, 10⟩, ⟨2, 3, 20⟩] rfl rfl (by decide) (by decide)).mono ?_); rintro e w3 ⟨rfl, h3, _⟩; have H3 := Aside0.mk h3; clear h3) | (go_at_call 11; (with_reducible refine (q_add_ok H1.out 5 10 1 [⟨1, 5, 10⟩] rfl rfl (by decide) (by decide)).mono ?_); rintro e w2 ⟨rfl, h2, _⟩; have H2 := Aside0.mk h2; clear h2) | (go_at_call 14; (with_reducible refine (q_cancel_yes (E' := []) H6.out 3 (by decide) ⟨_, List.mem_singleton.2 rfl, rfl⟩ rfl (by decide)).mono ?_); rintro e w8 ⟨rfl, h8, _⟩; have H8 := Aside0.mk h8; clear h8) | (go_at_call 12; (with_reducible refine (q_next_none H8.out).mono ?_); rintro e w9 ⟨rfl, h9⟩; obtain rfl := h9.symm) | (go_at_call 12; (with_reducible refine (q_next_is (E' := [⟨3, 5, 30⟩]) H5.out ⟨1, 5, 10⟩ 5 10 (min_of (by decide)) rfl rfl rfl (by decide)).mono ?_); rintro e w6 ⟨rfl, h6, _⟩; have H6 := Aside0.mk h6; clear h6) | (go_at_call 12; (with_reducible refine (q_next_is (E' := [⟨1, 5, 10⟩, ⟨3, 5, 30⟩]) H4.out ⟨2, 3, 20⟩ 3 20 (min_of (by decide)) rfl rfl rfl (by decide)).mono ?_); rintro e w5 ⟨rfl, h5, _⟩; have H5 := Aside0.mk h5; clear h5))
  go_ret
  exact ⟨rfl, H8.out.below⟩
end Go.Proofs.Ytpliaagfhjnnaaa.Ev

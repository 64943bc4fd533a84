import Derived.Test.YtpliaagfhjnnaaaEvI
import Derived.Lib.JoinLaws
namespace Go.Proofs.Ytpliaagfhjnnaaa.Ev
open Go.RowKit Go.Proofs.YtpliaagfhjnnaaaW.PrintWords Go.Proofs.Ytpliaagfhjnnaaa.Sep Go.Proofs.Ytpliaagfhjnnaaa.HeapP Go.Proofs.Ytpliaagfhjnnaaa.Heap Go.Proofs.Ytpliaagfhjnnaaa.EvP
set_option linter.unusedVariables false
set_option linter.unusedSimpArgs false

/-! The law EventsChain: what holds between its steps. -/
theorem own_room (W : World) (c : Nat) (hc : c ≤ 65536) : OwnI 3 (W.alloc (.cells (madeCells #[.int .i64 0] c) 3)) (.slice (some ⟨W.heap.size, 0, none⟩) 0 c) [] :=
  ⟨by simp [nums], .inr ⟨W.heap.size, c, _, by simp, Nat.zero_le _, heap_alloc_new W _, Nat.zero_le _, by unfold maxLen; omega, by simp [size_madeCells], by simp [nums]⟩⟩
theorem QS.appended {w0 w w1 : World} {v v1 : Value} {q : Nat} {E : List EvP.Ev} {last now : Int} (h : QS w0 w (fun k => v.ownBlock = some k) q E last now) (hb : ∀ k, v.ownBlock = some k → w0.heap.size ≤ k) (hg : w.grownBy w1 v.ownBlock) (hat : v1.ownBlock = v.ownBlock ∨ ∃ b, v1.ownBlock = some b ∧ w.heap.size ≤ b) (ho : ∀ k, v1.ownBlock = some k → k < w1.heap.size) : QS w0 w1 (fun k => v1.ownBlock = some k) q E last now ∧ ∀ k, v1.ownBlock = some k → w0.heap.size ≤ k := by
  have hsz := h.below.size
  have hc : Chg (fun k => v.ownBlock = some k) w w1 := (Chg.refl _ w).grown hg (fun k e _ => e)
  obtain ⟨G, a, c, d, g⟩ := h
  refine ⟨⟨G, a.kept hc (fun k hg ho => (g k ho).1 hg), hc.below c c.size hb, d, fun k hk => ⟨fun hgk => ?_, ho k hk⟩⟩, fun k hk => ?_⟩
  · rcases hat with e | ⟨b, e, hb2⟩
    · exact (g k (e ▸ hk)).1 hgk
    · rw [hk] at e
      injection e with e
      have := a.lt k hgk
      omega
  · rcases hat with e | ⟨b, e, hb2⟩
    · exact hb k (e ▸ hk)
    · rw [hk] at e
      injection e with e
      omega
structure ChainQ (w : World) (q S : Nat) (wr : World) (j n : Nat) (E : List EvP.Ev) (AL : List Int) (v : Value) (now ld : Int) : Prop where
  ho : QS w wr (fun k => v.ownBlock = some k) q E (n : Int) now
  own : OwnI 3 wr v AL
  ln : AL.length = n
  gl : ∀ k, v.ownBlock = some k → w.heap.size ≤ k
  form : ∀ e ∈ E, ∃ k : Nat, k < n ∧ e = evAt AL k
  el : E.length = S
  tm : ∀ e ∈ E, e.time ≤ 255 * (j : Int)
  ld_ : ∀ e ∈ E, e.time = now → ld ≤ e.data
  nj : n = S + j
theorem evAt_snoc (AL : List Int) (y : Int) {k : Nat} (h : k < AL.length) : evAt (AL ++ [y]) k = evAt AL k := by
  simp [evAt, List.getD_eq_getElem?_getD, List.getElem?_append_left h]
/-- Behind a Next, an Add and an append. -/
theorem ChainQ.step {w : World} {q S : Nat} {wr w5 w6 : World} {j n k : Nat} {E : List EvP.Ev} {AL : List Int} {v v1 : Value} {now ld Y : Int} (h : ChainQ w q S wr j n E AL v now ld) (hx : MinE E (evAt AL k)) (hk : k < n) (hn : n ≤ 300)
    (h5 : QS w w5 (fun k => v.ownBlock = some k) q (EvP.drop E (evAt AL k).id ++ [⟨(n : Int) + 1, Y, (n : Int)⟩]) ((n : Int) + 1) (evAt AL k).time)
    (hY : (evAt AL k).time ≤ Y ∧ Y ≤ (evAt AL k).time + 255) (ho : OwnI 3 w6 v1 (AL ++ [Y])) (hg : w5.grownBy w6 v.ownBlock) (hat : v1.ownBlock = v.ownBlock ∨ ∃ b, v1.ownBlock = some b ∧ w5.heap.size ≤ b) :
    ChainQ w q S w6 (j + 1) (n + 1) (EvP.drop E (evAt AL k).id ++ [⟨(n : Int) + 1, Y, (n : Int)⟩]) (AL ++ [Y]) v1 (evAt AL k).time (k : Int) := by
  obtain ⟨h6, g6⟩ := h5.appended h.gl hg hat (fun k hk => ho.lt k hk)
  have hlen := drop_len h.ho.facts.1 hx.1
  have hln := h.ln
  refine ⟨h6, ho, by simp [hln], g6, fun e he => ?_, by simp; have := h.el; omega, fun e he => ?_, fun e he ht => ?_, by have := h.nj; omega⟩
  · rcases List.mem_append.1 he with he | he
    · obtain ⟨k2, hk2, e2⟩ := h.form e (mem_drop.1 he).1
      exact ⟨k2, by omega, by rw [evAt_snoc _ _ (by omega)]; exact e2⟩
    · simp only [List.mem_singleton] at he
      refine ⟨n, by omega, ?_⟩
      rw [he]
      simp [evAt, ← hln]
  · rcases List.mem_append.1 he with he | he
    · have := h.tm e (mem_drop.1 he).1; omega
    · simp only [List.mem_singleton] at he
      have := h.tm _ hx.1
      rw [he]
      show Y ≤ _
      omega
  · rcases List.mem_append.1 he with he | he
    · obtain ⟨k2, hk2, e2⟩ := h.form e (mem_drop.1 he).1
      have hr := hx.2 e (mem_drop.1 he).1
      rw [e2] at hr ht ⊢
      simp only [EvP.rank, evAt] at hr ht ⊢
      omega
    · simp only [List.mem_singleton] at he
      rw [he]
      show (k : Int) ≤ (n : Int)
      omega
end Go.Proofs.Ytpliaagfhjnnaaa.Ev

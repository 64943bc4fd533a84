import Derived.Test.YtpliaagfhjnnaaaEvH
import Derived.Deep.OwnRows
import Derived.Deep.Cut
namespace Go.Proofs.Ytpliaagfhjnnaaa.Ev
open Go.RowKit Go.Proofs.YtpliaagfhjnnaaaW.PrintWords Go.Proofs.Ytpliaagfhjnnaaa.Sep Go.Proofs.Ytpliaagfhjnnaaa.HeapP Go.Proofs.Ytpliaagfhjnnaaa.Heap Go.Proofs.Ytpliaagfhjnnaaa.EvP
set_option linter.unusedVariables false

theorem addErr_ok2 {now t : Int} {n : Nat} (h0 : 0 ≤ now) (h1 : now ≤ t) (h2 : t ≤ 1073741824) (h3 : n < 65536) : addErr now t n = 0 := by
  unfold addErr
  rw [if_neg (by omega), if_neg (by omega), if_neg (by omega), if_neg (by omega)]
theorem infoBool : (Try.prog.info? 4).map (fun i => (i.zero, i.size, i.bytes)) = some (some (.bool false), 1, 1) := by kernel_rfl
theorem own_falses (W : World) (n : Nat) (hn : n ≤ 65536) : OwnB 4 (W.alloc (.cells (madeCells #[.bool false] n) 4)) (.slice (some ⟨W.heap.size, 0, none⟩) n n) (List.replicate n false) := by
  refine ⟨by simp [bools], .inr ⟨W.heap.size, n, _, by simp, Nat.zero_le _, heap_alloc_new W _, by simp, by unfold maxLen; omega, by simp [size_madeCells], ?_⟩⟩
  have hl : (madeCells #[Value.bool false] n).toList = bools (List.replicate n false) := by
    apply List.ext_getElem
    · simp [bools, madeCells]
    · intro i h1 h2
      simp [bools, madeCells, Nat.mod_one]
  rw [hl]
  simp [bools]
def evAt (l : List Int) (k : Nat) : EvP.Ev := ⟨(k : Int) + 1, l.getD k 0, (k : Int)⟩
def evs (l : List Int) (i : Nat) : List EvP.Ev := (List.range i).map (evAt l)
theorem evs_succ (l : List Int) (i : Nat) : evs l (i + 1) = evs l i ++ [evAt l i] := by simp [evs, List.range_succ]
theorem evs_length (l : List Int) (i : Nat) : (evs l i).length = i := by simp [evs]
theorem mem_evs {l : List Int} {i : Nat} {e : EvP.Ev} (h : e ∈ evs l i) : ∃ k, k < i ∧ e = evAt l k := by
  simp only [evs, List.mem_map, List.mem_range] at h
  obtain ⟨k, hk, e⟩ := h
  exact ⟨k, hk, e.symm⟩
/-- While they are taken out: seen lies at gs. -/
structure SortQ (w : World) (q gs N : Nat) (l : List Int) (last : Int) (wr : World) (j : Nat) (E : List EvP.Ev) (seen : List Bool) (now la : Int) : Prop where
  ho : QS w wr (fun k => k = gs) q E last now
  form : ∀ e ∈ E, ∃ k : Nat, k < N ∧ e = evAt l k ∧ gb seen k = false
  el : E.length + j = N
  sl : seen.length = N
  se : OwnB 4 wr (.slice (some ⟨gs, 0, none⟩) N N) seen
  gl : w.heap.size ≤ gs
  la_ : la = -1 ∨ ∃ i0 : Nat, la = (i0 : Int) ∧ i0 < N ∧ ∀ e ∈ E, EvP.rank (evAt l i0) ≤ EvP.rank e
theorem SortQ.gs_lt {w : World} {q gs N : Nat} {l : List Int} {last : Int} {wr : World} {j : Nat} {E : List EvP.Ev} {seen : List Bool} {now la : Int} (h : SortQ w q gs N l last wr j E seen now la) : gs < wr.heap.size := h.se.lt gs rfl
theorem SortQ.drew {w : World} {q gs N : Nat} {l : List Int} {last : Int} {wr : World} {j : Nat} {E : List EvP.Ev} {seen : List Bool} {now la : Int} (h : SortQ w q gs N l last wr j E seen now la) : SortQ w q gs N l last wr.drew j E seen now la :=
  ⟨h.ho.drew, h.form, h.el, h.sl, h.se.blocks (fun _ _ => rfl), h.gl, h.la_⟩
theorem SortQ.step {w : World} {q gs N : Nat} {l : List Int} {last : Int} {wr w1 : World} {j k : Nat} {E : List EvP.Ev} {seen : List Bool} {now la now' : Int} (h : SortQ w q gs N l last wr j E seen now la) (hx : MinE E (evAt l k)) (hk : k < N) (h1 : QS w w1 (fun k => k = gs) q (EvP.drop E (evAt l k).id) last now') (hc : Chg (OthQ w (fun k => k = gs)) wr w1) : SortQ w q gs N l last (w1.setCell ⟨gs, k, none⟩ (.bool true)) (j + 1) (EvP.drop E (evAt l k).id) (seen.set k true) now' (k : Int) := by
  have gl := h.gs_lt
  have se1 : OwnB 4 w1 (.slice (some ⟨gs, 0, none⟩) N N) seen := h.se.blocks (fun k hk => hc.block k (by rw [ob hk]; exact gl) (fun q => q.2 (ob hk)))
  have hlen := drop_len h.ho.facts.1 hx.1
  refine ⟨h1.kept ((Chg.refl (fun k => k = gs) w1).setCell ⟨gs, k, none⟩ (fun _ => rfl) (.bool true)) (fun k e => by rw [e]; exact h.gl), fun e he => ?_, by have := h.el; omega, by simpa using h.sl, se1.store k true, h.gl, .inr ⟨k, rfl, hk, fun e he => hx.2 e (mem_drop.1 he).1⟩⟩
  obtain ⟨m, hne⟩ := mem_drop.1 he
  obtain ⟨k2, hk2, rfl, hs⟩ := h.form e m
  refine ⟨k2, hk2, rfl, ?_⟩
  have c : k2 ≠ k := fun c => hne (by rw [c])
  rw [gb_set_ne _ _ c]
  exact hs
end Go.Proofs.Ytpliaagfhjnnaaa.Ev

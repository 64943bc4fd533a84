/- The channel in memory: a row of fates, the block, its footprint. -/
import Derived.Test.YtkdkdhbkmhkjfaaSep
import Derived.Test.YtkdkdhbkmhkjfaaProg
import Derived.Test.YtkdkdhbkmhkjfaaChP
import Derived.WalkKit
import Derived.RegionTactic
import Derived.BigRegion
import Derived.Deep.QuietTactic
import Derived.BigQuiet
import Derived.Deep.LoopGhost
namespace Go.Proofs.Ytkdkdhbkmhkjfaa.Ch
open Go.RowKit Go.Proofs.YtkdkdhbkmhkjfaaW.PrintWords Go.Proofs.Ytkdkdhbkmhkjfaa.Sep Go.Proofs.Ytkdkdhbkmhkjfaa.ChP
set_option linter.unusedVariables false

/-! A row of fates. -/
def ftc (l : List Ft) : List Value := l.flatMap fun x => [.int .i64 x.kind, .int .i64 x.n]
def gf (l : List Ft) (i : Nat) : Ft := l.getD i zF
theorem ftc_length (l : List Ft) : (ftc l).length = l.length * 2 := by
  induction l with
  | nil => rfl
  | cons x l ih => simp [ftc] at ih ⊢; omega
theorem ftc_get (l : List Ft) (i : Nat) (hi : i < l.length) : (ftc l)[i * 2]? = some (.int .i64 (gf l i).kind) ∧ (ftc l)[i * 2 + 1]? = some (.int .i64 (gf l i).n) := by
  induction l generalizing i with
  | nil => simp at hi
  | cons x l ih =>
    have e : ftc (x :: l) = [.int .i64 x.kind, .int .i64 x.n] ++ ftc l := rfl
    rw [e]
    cases i with
    | zero => exact ⟨rfl, rfl⟩
    | succ i =>
      have h := ih i (by simpa using hi)
      have e2 : gf (x :: l) (i + 1) = gf l i := rfl
      rw [e2, List.getElem?_append_right (by simp; omega), List.getElem?_append_right (by simp; omega)]
      have q1 : (i + 1) * 2 - [Value.int IntKind.i64 x.kind, Value.int IntKind.i64 x.n].length = i * 2 := by simp; omega
      have q2 : (i + 1) * 2 + 1 - [Value.int IntKind.i64 x.kind, Value.int IntKind.i64 x.n].length = i * 2 + 1 := by simp; omega
      rw [q1, q2]
      exact h
theorem ftc_one (l : List Ft) : ∀ u ∈ ftc l, u.oneCell' = true := by
  intro u hu
  simp only [ftc, List.mem_flatMap, List.mem_cons, List.not_mem_nil, or_false] at hu
  obtain ⟨x, _, rfl | rfl⟩ := hu <;> rfl
def OwnF (e : TypeId) (w : World) (v : Value) (l : List Ft) : Prop := w.ownsRow 0 e 2 v l.length (ftc l)
section
variable {e : TypeId} {w w1 : World} {v : Value} {l : List Ft} {g c n : Nat}
theorem OwnF.nil (e : TypeId) (w : World) : OwnF e w (.slice none 0 0) [] := ⟨rfl, .inl ⟨rfl, rfl⟩⟩
theorem OwnF.blocks (h : OwnF e w v l) (hk : ∀ k, v.ownBlock = some k → w1.heap[k]? = w.heap[k]?) : OwnF e w1 v l := own_at_blocks h hk
theorem OwnF.lt (h : OwnF e w v l) (k : Nat) (hk : v.ownBlock = some k) : k < w.heap.size := own_lt h k hk
theorem OwnF.slice (h : OwnF e w v l) : ∃ A c, v = .slice A l.length c := own_slice h
theorem OwnF.form (h : OwnF e w v l) (hn : 0 < l.length) : ∃ g c, v = .slice (some ⟨g, 0, none⟩) l.length c ∧ g < w.heap.size := by
  obtain ⟨g, c, rfl, _, hl⟩ := World.ownsRow.form h hn
  exact ⟨g, c, rfl, hl⟩
theorem OwnF.cells (h : OwnF e w (.slice (some ⟨g, 0, none⟩) n c) l) (i : Nat) (hi : i < l.length) : w.cell? ⟨g, i * 2, none⟩ = some (.int .i64 (gf l i).kind) ∧ w.cell? ⟨g, i * 2 + 1, none⟩ = some (.int .i64 (gf l i).n) := by
  have hc := fun j u (hu : (ftc l)[j]? = some u) => World.ownsRow.cells h (g := g) rfl j u hu
  simp only [add_plain] at hc
  obtain ⟨a, b⟩ := ftc_get l i hi
  exact ⟨hc _ _ a, hc _ _ b⟩
end
theorem OwnI.nil (e : TypeId) (w : World) : OwnI e w (.slice none 0 0) [] := ⟨rfl, .inl ⟨rfl, rfl⟩⟩
/-! The block. -/
structure St where
  dl : Int
  rt : Int
  rm : Int
  sc : List Ft
  ds : List Int
  off : Int
  la : Int
def blkOf (vs vd : Value) (s : St) : Array Value := #[.int .i64 s.dl, .int .i64 s.rt, .int .i64 s.rm, vs, vd, .int .i64 s.off, .int .i64 s.la]
structure CV (T eF : TypeId) (w : World) (c : Nat) (vs vd : Value) (s : St) : Prop where
  blk : w.heap[c]? = some (.cells #[.int .i64 s.dl, .int .i64 s.rt, .int .i64 s.rm, vs, vd, .int .i64 s.off, .int .i64 s.la] T (0, 0))
  os : OwnF eF w vs s.sc
  od : OwnI 3 w vd s.ds
  sc_ne : ∀ k, vs.ownBlock = some k → k ≠ c
  vd_ne : ∀ k, vd.ownBlock = some k → k ≠ c
  sep : ∀ k, vs.ownBlock = some k → vd.ownBlock ≠ some k
def CF (c : Nat) (vs vd : Value) (k : Nat) : Prop := k = c ∨ vs.ownBlock = some k ∨ vd.ownBlock = some k
def CIs (T eF : TypeId) (w : World) (G : Nat → Prop) (c : Nat) (s : St) : Prop := ∃ vs vd, CV T eF w c vs vd s ∧ (∀ k, CF c vs vd k → G k) ∧ ∀ k, G k → k < w.heap.size
section
variable {T eF : TypeId} {w w1 : World} {G F : Nat → Prop} {c : Nat} {vs vd : Value} {s : St}
theorem CV.cl (h : CV T eF w c vs vd s) : c < w.heap.size := (Array.getElem?_eq_some_iff.1 h.blk).1
theorem CV.lt (h : CV T eF w c vs vd s) (k : Nat) (hk : CF c vs vd k) : k < w.heap.size := by
  rcases hk with rfl | e | e
  · exact h.cl
  · exact h.os.lt k e
  · exact h.od.lt k e
theorem CV.kept (h : CV T eF w c vs vd s) (hc : Chg F w w1) (hd : ∀ k, CF c vs vd k → ¬ F k) : CV T eF w1 c vs vd s :=
  ⟨(hc.block c h.cl (hd c (.inl rfl))).trans h.blk, h.os.blocks (fun k hk => hc.block k (h.os.lt k hk) (hd k (.inr (.inl hk)))), h.od.blocks (fun k hk => hc.block k (h.od.lt k hk) (hd k (.inr (.inr hk)))), h.sc_ne, h.vd_ne, h.sep⟩
theorem CV.keep (h : CV T eF w c vs vd s) (hc : Chg (fun _ => False) w w1) : CV T eF w1 c vs vd s := h.kept hc (fun _ _ h => h)
theorem CV.setOff (h : CV T eF w c vs vd s) (x : Int) : CV T eF (w.setCell ⟨c, 5, none⟩ (.int .i64 x)) c vs vd { s with off := x } :=
  ⟨Sep.blk_set h.blk 5 _, h.os.blocks (fun k hk => blk_other _ _ (h.sc_ne k hk)), h.od.blocks (fun k hk => blk_other _ _ (h.vd_ne k hk)), h.sc_ne, h.vd_ne, h.sep⟩
theorem CV.setLa (h : CV T eF w c vs vd s) (x : Int) : CV T eF (w.setCell ⟨c, 6, none⟩ (.int .i64 x)) c vs vd { s with la := x } :=
  ⟨Sep.blk_set h.blk 6 _, h.os.blocks (fun k hk => blk_other _ _ (h.sc_ne k hk)), h.od.blocks (fun k hk => blk_other _ _ (h.vd_ne k hk)), h.sc_ne, h.vd_ne, h.sep⟩
/-- The departures grew: a new row stands in the block. -/
theorem CV.setDs {W : World} {v1 : Value} (h : CV T eF w c vs vd s) (ds : List Int) (hch : Chg (fun k => vd.ownBlock = some k) w W) (ho : OwnI 3 W v1 ds) (hat : v1.ownBlock = vd.ownBlock ∨ ∃ d, v1.ownBlock = some d ∧ w.heap.size ≤ d) : CV T eF (W.setCell ⟨c, 4, none⟩ v1) c vs v1 { s with ds := ds } := by
  have hc : ∀ k, v1.ownBlock = some k → k ≠ c := fun k hk => by
    rcases hat with e | ⟨d, e, hd⟩
    · exact h.vd_ne k (e ▸ hk)
    · rw [hk] at e; injection e with e; have := h.cl; omega
  have hb : W.heap[c]? = some (.cells #[.int .i64 s.dl, .int .i64 s.rt, .int .i64 s.rm, vs, vd, .int .i64 s.off, .int .i64 s.la] T (0, 0)) := (hch.block c h.cl (fun e => h.vd_ne c e rfl)).trans h.blk
  refine ⟨Sep.blk_set hb 4 v1, h.os.blocks (fun k hk => (blk_other _ _ (h.sc_ne k hk)).trans (hch.block k (h.os.lt k hk) (fun e => h.sep k hk e))), ho.blocks (fun k hk => blk_other _ _ (hc k hk)), h.sc_ne, hc, fun k hk e => ?_⟩
  rcases hat with e2 | ⟨d, e2, hd⟩
  · exact h.sep k hk (e2 ▸ e)
  · rw [e] at e2; injection e2 with e2; have := h.os.lt k hk; omega
theorem CIs.lt (h : CIs T eF w G c s) (k : Nat) (hk : G k) : k < w.heap.size := by
  obtain ⟨_, _, _, _, hl⟩ := h
  exact hl k hk
theorem CIs.kept (h : CIs T eF w G c s) (hc : Chg F w w1) (hd : ∀ k, G k → ¬ F k) : CIs T eF w1 G c s := by
  obtain ⟨vs, vd, hv, hG, hl⟩ := h
  exact ⟨vs, vd, hv.kept hc (fun k hk => hd k (hG k hk)), hG, fun k hk => Nat.lt_of_lt_of_le (hl k hk) hc.size⟩
theorem CIs.keep (h : CIs T eF w G c s) (hc : Chg (fun _ => False) w w1) : CIs T eF w1 G c s := h.kept hc (fun _ _ h => h)
end
/-! An object beside other things. -/
def Oth (w0 : World) (O : Nat → Prop) (k : Nat) : Prop := w0.heap.size ≤ k ∧ ¬ O k
def CS (T eF : TypeId) (w0 w : World) (O : Nat → Prop) (c : Nat) (s : St) : Prop := ∃ G, CIs T eF w G c s ∧ Below w0.heap.size w0 w ∧ (∀ k, G k → w0.heap.size ≤ k) ∧ ∀ k, O k → ¬ G k ∧ k < w.heap.size
/-- What a call on an object leaves. -/
def CPst (T eF : TypeId) (w : World) (G : Nat → Prop) (c : Nat) (s : St) (v : Value) (w' : World) : Prop := ∃ G', CIs T eF w' G' c s ∧ (∀ k, G' k → (G k ∨ w.heap.size ≤ k) ∧ v.ownBlock ≠ some k) ∧ Chg G w w' ∧ ∀ k, v.ownBlock = some k → w.heap.size ≤ k ∧ k < w'.heap.size
section
variable {T eF T2 e2 : TypeId} {w0 w w1 : World} {G O : Nat → Prop} {c d : Nat} {s t s' t' : St} {v : Value}
theorem CS.below (h : CS T eF w0 w O c s) : Below w0.heap.size w0 w := by
  obtain ⟨G, a, b, _⟩ := h
  exact b
theorem CS.post (hG : ∀ k, G k → w0.heap.size ≤ k) (hO : ∀ k, O k → ¬ G k ∧ k < w.heap.size) (hb : Below w0.heap.size w0 w) (h : CPst T eF w G c s' v w1) : CS T eF w0 w1 (fun k => O k ∨ v.ownBlock = some k) c s' ∧ Chg (Oth w0 O) w w1 := by
  obtain ⟨G', a, b, hc, hv⟩ := h
  refine ⟨⟨G', a, hc.below hb hb.size hG, fun k hk => ?_, fun k hk => ?_⟩, hc.mono (fun k _ hk => ⟨hG k hk, fun ho => (hO k ho).1 hk⟩)⟩
  · rcases (b k hk).1 with h1 | h1
    · exact hG k h1
    · exact Nat.le_trans hb.size h1
  · rcases hk with h1 | h1
    · refine ⟨fun h2 => ?_, Nat.lt_of_lt_of_le (hO k h1).2 hc.size⟩
      rcases (b k h2).1 with h3 | h3
      · exact (hO k h1).1 h3
      · have := (hO k h1).2; omega
    · exact ⟨fun h2 => (b k h2).2 h1, (hv k h1).2⟩
theorem CS.less {O' : Nat → Prop} (h : CS T eF w0 w O c s) (ho : ∀ k, O' k → O k) : CS T eF w0 w O' c s := by
  obtain ⟨G, a, b, d, g⟩ := h
  exact ⟨G, a, b, d, fun k hk => g k (ho k hk)⟩
theorem CS.kept (h : CS T eF w0 w O c s) (hc : Chg O w w1) (hO : ∀ k, O k → w0.heap.size ≤ k) : CS T eF w0 w1 O c s := by
  obtain ⟨G, a, b, d, g⟩ := h
  exact ⟨G, a.kept hc (fun k hk ho => (g k ho).1 hk), hc.below b b.size hO, d, fun k hk => ⟨(g k hk).1, Nat.lt_of_lt_of_le (g k hk).2 hc.size⟩⟩
theorem CS.keep (h : CS T eF w0 w O c s) (hc : Chg (fun _ => False) w w1) : CS T eF w0 w1 O c s := by
  obtain ⟨G, a, b, d, g⟩ := h
  exact ⟨G, a.keep hc, hc.below b b.size (fun _ h => h.elim), d, fun k hk => ⟨(g k hk).1, Nat.lt_of_lt_of_le (g k hk).2 hc.size⟩⟩
theorem CS.more (h : CS T eF w0 w O c s) (hc : Chg (fun _ => False) w w1) {O' : Nat → Prop} (ho : ∀ k, O' k → w.heap.size ≤ k ∧ k < w1.heap.size) : CS T eF w0 w1 (fun k => O k ∨ O' k) c s := by
  obtain ⟨G, a, b, d, g⟩ := h
  refine ⟨G, a.keep hc, hc.below b b.size (fun _ h => h.elim), d, fun k hk => ?_⟩
  rcases hk with hk | hk
  · exact ⟨(g k hk).1, Nat.lt_of_lt_of_le (g k hk).2 hc.size⟩
  · exact ⟨fun h2 => by have := a.lt k h2; have := ho k hk; omega, (ho k hk).2⟩
/-! Two objects. -/
def Two (T eF T2 e2 : TypeId) (w0 w : World) (O : Nat → Prop) (c : Nat) (s : St) (d : Nat) (t : St) : Prop := ∃ G1 G2, CIs T eF w G1 c s ∧ CIs T2 e2 w G2 d t ∧ Below w0.heap.size w0 w ∧ (∀ k, G1 k → w0.heap.size ≤ k) ∧ (∀ k, G2 k → w0.heap.size ≤ k) ∧ (∀ k, G1 k → ¬ G2 k) ∧ ∀ k, O k → ¬ G1 k ∧ ¬ G2 k ∧ k < w.heap.size
theorem Two.swap (h : Two T eF T2 e2 w0 w O c s d t) : Two T2 e2 T eF w0 w O d t c s := by
  obtain ⟨G1, G2, a, b, c, d, e, f, g⟩ := h
  exact ⟨G2, G1, b, a, c, e, d, fun k h1 h2 => f k h2 h1, fun k hk => ⟨(g k hk).2.1, (g k hk).1, (g k hk).2.2⟩⟩
theorem Two.below (h : Two T eF T2 e2 w0 w O c s d t) : Below w0.heap.size w0 w := by
  obtain ⟨G1, G2, a, b, c, _⟩ := h
  exact c
theorem Two.left (h : Two T eF T2 e2 w0 w O c s d t) : ∃ O1, CS T eF w0 w O1 c s ∧ ∀ (w1 : World) (s' : St) (v : Nat → Prop), CS T eF w0 w1 (fun k => O1 k ∨ v k) c s' → (∀ k, v k → w.heap.size ≤ k) → Chg (Oth w0 O1) w w1 → Two T eF T2 e2 w0 w1 (fun k => O k ∨ v k) c s' d t ∧ Chg (Oth w0 O) w w1 := by
  obtain ⟨G1, G2, a, b, c, d, e, f, g⟩ := h
  refine ⟨fun k => G2 k ∨ O k, ⟨G1, a, c, d, fun k hk => ?_⟩, fun w1 s' v hs hv hc => ?_⟩
  · rcases hk with hk | hk
    · exact ⟨fun h1 => f k h1 hk, b.lt k hk⟩
    · exact ⟨(g k hk).1, (g k hk).2.2⟩
  · obtain ⟨G3, a3, c3, d3, g3⟩ := hs
    refine ⟨⟨G3, G2, a3, b.kept hc (fun k hk ho => ho.2 (.inl hk)), c3, d3, e, fun k h1 h2 => (g3 k (.inl (.inl h2))).1 h1, fun k hk => ?_⟩, hc.mono (fun k _ ho => ⟨ho.1, fun h => ho.2 (.inr h)⟩)⟩
    rcases hk with hk | hk
    · exact ⟨(g3 k (.inl (.inr hk))).1, (g k hk).2.1, (g3 k (.inl (.inr hk))).2⟩
    · exact ⟨(g3 k (.inr hk)).1, fun h2 => by have := b.lt k h2; have := hv k hk; omega, (g3 k (.inr hk)).2⟩
theorem Two.less {O' : Nat → Prop} (h : Two T eF T2 e2 w0 w O c s d t) (ho : ∀ k, O' k → O k) : Two T eF T2 e2 w0 w O' c s d t := by
  obtain ⟨G1, G2, a, b, c, d, e, f, g⟩ := h
  exact ⟨G1, G2, a, b, c, d, e, f, fun k hk => g k (ho k hk)⟩
theorem Two.keep (h : Two T eF T2 e2 w0 w O c s d t) (hc : Chg (fun _ => False) w w1) : Two T eF T2 e2 w0 w1 O c s d t := by
  obtain ⟨G1, G2, a, b, c, d, e, f, g⟩ := h
  exact ⟨G1, G2, a.keep hc, b.keep hc, hc.below c c.size (fun _ h => h.elim), d, e, f, fun k hk => ⟨(g k hk).1, (g k hk).2.1, Nat.lt_of_lt_of_le (g k hk).2.2 hc.size⟩⟩
end
end Go.Proofs.Ytkdkdhbkmhkjfaa.Ch

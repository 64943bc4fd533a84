import Derived.Test.YtpliaagfhjnnaaaEvA
import Derived.Laws.BitsLemmas
namespace Go.Proofs.Ytpliaagfhjnnaaa.Ev
open Go.RowKit Go.Proofs.YtpliaagfhjnnaaaW.PrintWords Go.Proofs.Ytpliaagfhjnnaaa.Sep Go.Proofs.Ytpliaagfhjnnaaa.HeapP Go.Proofs.Ytpliaagfhjnnaaa.Heap Go.Proofs.Ytpliaagfhjnnaaa.EvP
set_option linter.unusedVariables false

/-! The queue. -/
theorem own_ne {w : World} {g p : Nat} {e t : TypeId} {v : Value} {cs : Array Value} {n s : Nat} {xs : List Value} (h : w.ownsRow 0 e s v n xs) (hb : w.heap[p]? = some (.cells cs t (0, 0))) (hne : e ≠ t) (hk : v.ownBlock = some g) : g ≠ p := by
  intro e1
  subst e1
  rcases h.2 with ⟨rfl, _⟩ | ⟨g', cap, cur, rfl, _, hh, _⟩
  · simp [Value.ownBlock] at hk
  · have : g' = g := by simpa [Value.ownBlock] using hk
    subst this
    rw [hb] at hh
    injection hh with hh
    injection hh with _ ht
    exact hne ht.symm
theorem own_ne_map {w : World} {g b c : Nat} {e k e2 : TypeId} {P : Program} {v : Value} {n s : Nat} {xs : List Value} {M : Int → Option Int} (h : w.ownsRow 0 e s v n xs) (hb : MapI P k e2 w b c M) (hk : v.ownBlock = some g) : g ≠ b := by
  intro e1
  subst e1
  obtain ⟨_, _, ⟨es, cl, h1, _⟩, _⟩ := hb
  rcases h.2 with ⟨rfl, _⟩ | ⟨g', cap, cur, rfl, _, hh, _⟩
  · simp [Value.ownBlock] at hk
  · have : g' = g := by simpa [Value.ownBlock] using hk
    subst this
    rw [h1] at hh
    injection hh with hh
    cases hh
structure QV (w : World) (q ph b : Nat) (vp vf : Value) (F : Nat → Prop) (PL : List EvP.Ev) (FR : List Int) (Has : List Bool) (ks : List Int) (M : Int → Option Int) (last now : Int) (c : Nat) : Prop where
  blk : w.heap[q]? = some (.cells #[.pointer (some ⟨ph, 0, none⟩), vp, vf, .map (some b), .int .i64 last, .int .i64 now] 58 (0, 0))
  hp : HIs w F ph Has ks
  op : OwnE 60 w vp PL
  of_ : OwnI 3 w vf FR
  mp : MapI Try.prog 3 3 w b c M
  dq : ¬ F q
  dp : ∀ k, vp.ownBlock = some k → ¬ F k
  df : ∀ k, vf.ownBlock = some k → ¬ F k
  db : ¬ F b
def QF (q b : Nat) (vp vf : Value) (F : Nat → Prop) (k : Nat) : Prop := k = q ∨ k = b ∨ F k ∨ vp.ownBlock = some k ∨ vf.ownBlock = some k
section
variable {w w1 : World} {q ph b c : Nat} {vp vf v1 : Value} {F : Nat → Prop} {PL : List EvP.Ev} {FR : List Int} {Has Has' : List Bool} {ks ks' : List Int} {M : Int → Option Int} {last now : Int}
theorem QV.qb (h : QV w q ph b vp vf F PL FR Has ks M last now c) : q ≠ b := by
  intro e
  subst e
  obtain ⟨_, _, ⟨es, cl, h1, _⟩, _⟩ := h.mp
  rw [h.blk] at h1
  cases h1
theorem QV.ql (h : QV w q ph b vp vf F PL FR Has ks M last now c) : q < w.heap.size := (Array.getElem?_eq_some_iff.1 h.blk).1
theorem QV.pq (h : QV w q ph b vp vf F PL FR Has ks M last now c) (k : Nat) (hk : vp.ownBlock = some k) : k ≠ q := own_ne h.op h.blk (by decide) hk
theorem QV.fq (h : QV w q ph b vp vf F PL FR Has ks M last now c) (k : Nat) (hk : vf.ownBlock = some k) : k ≠ q := own_ne h.of_ h.blk (by decide) hk
theorem QV.pb (h : QV w q ph b vp vf F PL FR Has ks M last now c) (k : Nat) (hk : vp.ownBlock = some k) : k ≠ b := own_ne_map h.op h.mp hk
theorem QV.fb (h : QV w q ph b vp vf F PL FR Has ks M last now c) (k : Nat) (hk : vf.ownBlock = some k) : k ≠ b := own_ne_map h.of_ h.mp hk
theorem QV.pf (h : QV w q ph b vp vf F PL FR Has ks M last now c) {a d : Nat} (ha : vp.ownBlock = some a) (hd : vf.ownBlock = some d) : a ≠ d := by
  rcases own_type_ne h.op h.of_ (by decide) with e | e
  · rw [e] at ha; cases ha
  · intro c; subst c; exact e (ha.trans hd.symm)
theorem QV.lt (h : QV w q ph b vp vf F PL FR Has ks M last now c) (k : Nat) (hf : QF q b vp vf F k) : k < w.heap.size := by
  rcases hf with rfl | rfl | e | e | e
  · exact h.ql
  · exact h.mp.lt
  · obtain ⟨_, _, _, _, ho, _⟩ := h.hp
    exact ho.lt k e
  · exact h.op.lt k e
  · exact h.of_.lt k e
/-- Other blocks than its own have turned. -/
theorem QV.kept {G : Nat → Prop} (h : QV w q ph b vp vf F PL FR Has ks M last now c) (hc : Chg G w w1) (hd : ∀ k, QF q b vp vf F k → ¬ G k) : QV w1 q ph b vp vf F PL FR Has ks M last now c := by
  have kb : ∀ k, QF q b vp vf F k → w1.heap[k]? = w.heap[k]? := fun k hk => hc.block k (h.lt k hk) (hd k hk)
  exact ⟨(kb q (.inl rfl)).trans h.blk, h.hp.kept hc (fun k hk => hd k (.inr (.inr (.inl hk)))), h.op.blocks (fun k hk => kb k (.inr (.inr (.inr (.inl hk))))), h.of_.blocks (fun k hk => kb k (.inr (.inr (.inr (.inr hk))))), h.mp.blocks (kb b (.inr (.inl rfl))), h.dq, h.dp, h.df, h.db⟩
theorem QV.drewN (h : QV w q ph b vp vf F PL FR Has ks M last now c) (n : Nat) : QV (w.drewN n) q ph b vp vf F PL FR Has ks M last now c := h.kept (G := fun _ => False) ((Chg.refl _ _).drewN n) (fun _ _ h => h)
theorem QV.drew (h : QV w q ph b vp vf F PL FR Has ks M last now c) : QV w.drew q ph b vp vf F PL FR Has ks M last now c := h.drewN 1
theorem QV.alloc (h : QV w q ph b vp vf F PL FR Has ks M last now c) (o : Obj) : QV (w.alloc o) q ph b vp vf F PL FR Has ks M last now c := h.kept (G := fun _ => False) ((Chg.refl _ _).alloc o) (fun _ _ h => h)
/-- Behind a call on the heap. -/
theorem QV.heapPost (h : QV w q ph b vp vf F PL FR Has ks M last now c) (hp : SetPost w F ph Has' ks' w1) : QV w1 q ph b vp vf (Gr F w w1) PL FR Has' ks' M last now c ∧ Chg (QF q b vp vf F) w w1 := by
  have hn : ∀ k, k < w.heap.size → ¬ F k → ¬ Gr F w w1 k := fun k hk hf hg => by
    rcases hg with q | q
    · exact hf q
    · omega
  have kb : ∀ k, k < w.heap.size → ¬ F k → w1.heap[k]? = w.heap[k]? := fun k hk hf => hp.2.block k hk hf
  exact ⟨⟨(kb q h.ql h.dq).trans h.blk, hp.1, h.op.blocks (fun k hk => kb k (h.op.lt k hk) (h.dp k hk)), h.of_.blocks (fun k hk => kb k (h.of_.lt k hk) (h.df k hk)), h.mp.blocks (kb b h.mp.lt h.db), hn q h.ql h.dq, fun k hk => hn k (h.op.lt k hk) (h.dp k hk), fun k hk => hn k (h.of_.lt k hk) (h.df k hk), hn b h.mp.lt h.db⟩, hp.2.mono (fun k _ hf => .inr (.inr (.inl hf)))⟩
/-- A store into one of its own words. -/
theorem QV.setLast (h : QV w q ph b vp vf F PL FR Has ks M last now c) (x : Int) : QV (w.setCell ⟨q, 4, none⟩ (.int .i64 x)) q ph b vp vf F PL FR Has ks M x now c ∧ Chg (QF q b vp vf F) w (w.setCell ⟨q, 4, none⟩ (.int .i64 x)) := by
  have b2 : (w.setCell ⟨q, 4, none⟩ (.int .i64 x)).heap[q]? = some (.cells #[.pointer (some ⟨ph, 0, none⟩), vp, vf, .map (some b), .int .i64 x, .int .i64 now] 58 (0, 0)) := Sep.blk_set h.blk 4 _
  have k1 : ∀ k, k ≠ q → (w.setCell ⟨q, 4, none⟩ (.int .i64 x)).heap[k]? = w.heap[k]? := fun k hk => blk_other _ _ hk
  have c1 : Chg (fun k => k = q) w (w.setCell ⟨q, 4, none⟩ (.int .i64 x)) := (Chg.refl (fun k => k = q) w).setCell ⟨q, 4, none⟩ (fun _ => rfl) _
  generalize w.setCell ⟨q, 4, none⟩ (.int .i64 x) = W1 at *
  exact ⟨⟨b2, h.hp.kept c1 (fun k hf e => h.dq (e ▸ hf)), h.op.blocks (fun k hk => k1 k (h.pq k hk)), h.of_.blocks (fun k hk => k1 k (h.fq k hk)), h.mp.blocks (k1 b (Ne.symm h.qb)), h.dq, h.dp, h.df, h.db⟩, c1.mono (fun k _ e => .inl e)⟩
theorem QV.setNow (h : QV w q ph b vp vf F PL FR Has ks M last now c) (x : Int) : QV (w.setCell ⟨q, 5, none⟩ (.int .i64 x)) q ph b vp vf F PL FR Has ks M last x c ∧ Chg (QF q b vp vf F) w (w.setCell ⟨q, 5, none⟩ (.int .i64 x)) := by
  have b2 : (w.setCell ⟨q, 5, none⟩ (.int .i64 x)).heap[q]? = some (.cells #[.pointer (some ⟨ph, 0, none⟩), vp, vf, .map (some b), .int .i64 last, .int .i64 x] 58 (0, 0)) := Sep.blk_set h.blk 5 _
  have k1 : ∀ k, k ≠ q → (w.setCell ⟨q, 5, none⟩ (.int .i64 x)).heap[k]? = w.heap[k]? := fun k hk => blk_other _ _ hk
  have c1 : Chg (fun k => k = q) w (w.setCell ⟨q, 5, none⟩ (.int .i64 x)) := (Chg.refl (fun k => k = q) w).setCell ⟨q, 5, none⟩ (fun _ => rfl) _
  generalize w.setCell ⟨q, 5, none⟩ (.int .i64 x) = W1 at *
  exact ⟨⟨b2, h.hp.kept c1 (fun k hf e => h.dq (e ▸ hf)), h.op.blocks (fun k hk => k1 k (h.pq k hk)), h.of_.blocks (fun k hk => k1 k (h.fq k hk)), h.mp.blocks (k1 b (Ne.symm h.qb)), h.dq, h.dp, h.df, h.db⟩, c1.mono (fun k _ e => .inl e)⟩
/-- Another row of free places. -/
theorem QV.setFree (h : QV w q ph b vp vf F PL FR Has ks M last now c) (xs : List Int) (ho : OwnI 3 w1 v1 xs) (hg : w.grownBy w1 vf.ownBlock) (hat : v1.ownBlock = vf.ownBlock ∨ ∃ b, v1.ownBlock = some b ∧ w.heap.size ≤ b) : QV (w1.setCell ⟨q, 2, none⟩ v1) q ph b vp v1 F PL xs Has ks M last now c ∧ Chg (QF q b vp vf F) w (w1.setCell ⟨q, 2, none⟩ v1) := by
  have b1 : w1.heap[q]? = some (.cells #[.pointer (some ⟨ph, 0, none⟩), vp, vf, .map (some b), .int .i64 last, .int .i64 now] 58 (0, 0)) := (hg.block q h.ql (fun e => h.fq q e.symm rfl)).trans h.blk
  have b2 : (w1.setCell ⟨q, 2, none⟩ v1).heap[q]? = some (.cells #[.pointer (some ⟨ph, 0, none⟩), vp, v1, .map (some b), .int .i64 last, .int .i64 now] 58 (0, 0)) := Sep.blk_set b1 2 v1
  have k1 : ∀ k, k ≠ q → (w1.setCell ⟨q, 2, none⟩ v1).heap[k]? = w1.heap[k]? := fun k hk => blk_other _ _ hk
  have k0 : ∀ k, k < w.heap.size → k ≠ q → vf.ownBlock ≠ some k → (w1.setCell ⟨q, 2, none⟩ v1).heap[k]? = w.heap[k]? := fun k hl hk hv => (k1 k hk).trans (hg.block k hl (fun e => hv e.symm))
  have c1 : Chg (fun k => k = q ∨ vf.ownBlock = some k) w (w1.setCell ⟨q, 2, none⟩ v1) := ((Chg.refl _ w).grown hg (fun k e _ => .inr e)).setCell ⟨q, 2, none⟩ (fun _ => .inl rfl) _
  have vq : ∀ k, v1.ownBlock = some k → k ≠ q ∧ ¬ F k := fun k hk => by
    rcases hat with e | ⟨d, e, hd⟩
    · exact ⟨h.fq k (e ▸ hk), h.df k (e ▸ hk)⟩
    · rw [hk] at e
      injection e with e
      have := h.ql
      refine ⟨by omega, fun hf => ?_⟩
      obtain ⟨_, _, _, _, ho2, _⟩ := h.hp
      have := ho2.lt k hf
      omega
  generalize w1.setCell ⟨q, 2, none⟩ v1 = W2 at *
  exact ⟨⟨b2, h.hp.kept c1 (fun k hf e => e.elim (fun e => h.dq (e ▸ hf)) (fun e => h.df k e hf)), h.op.blocks (fun k hk => k0 k (h.op.lt k hk) (h.pq k hk) (fun e => h.pf hk e rfl)), ho.blocks (fun k hk => k1 k (vq k hk).1), h.mp.blocks (k0 b h.mp.lt (Ne.symm h.qb) (fun e => h.fb b e rfl)), h.dq, h.dp, fun k hk => (vq k hk).2, h.db⟩, c1.mono (fun k _ e => e.elim (fun e => .inl e) (fun e => .inr (.inr (.inr (.inr e)))))⟩
/-- Another row of events. -/
theorem QV.setPlaces (h : QV w q ph b vp vf F PL FR Has ks M last now c) (xs : List EvP.Ev) (ho : OwnE 60 w1 v1 xs) (hg : w.grownBy w1 vp.ownBlock) (hat : v1.ownBlock = vp.ownBlock ∨ ∃ b, v1.ownBlock = some b ∧ w.heap.size ≤ b) : QV (w1.setCell ⟨q, 1, none⟩ v1) q ph b v1 vf F xs FR Has ks M last now c ∧ Chg (QF q b vp vf F) w (w1.setCell ⟨q, 1, none⟩ v1) := by
  have b1 : w1.heap[q]? = some (.cells #[.pointer (some ⟨ph, 0, none⟩), vp, vf, .map (some b), .int .i64 last, .int .i64 now] 58 (0, 0)) := (hg.block q h.ql (fun e => h.pq q e.symm rfl)).trans h.blk
  have b2 : (w1.setCell ⟨q, 1, none⟩ v1).heap[q]? = some (.cells #[.pointer (some ⟨ph, 0, none⟩), v1, vf, .map (some b), .int .i64 last, .int .i64 now] 58 (0, 0)) := Sep.blk_set b1 1 v1
  have k1 : ∀ k, k ≠ q → (w1.setCell ⟨q, 1, none⟩ v1).heap[k]? = w1.heap[k]? := fun k hk => blk_other _ _ hk
  have k0 : ∀ k, k < w.heap.size → k ≠ q → vp.ownBlock ≠ some k → (w1.setCell ⟨q, 1, none⟩ v1).heap[k]? = w.heap[k]? := fun k hl hk hv => (k1 k hk).trans (hg.block k hl (fun e => hv e.symm))
  have c1 : Chg (fun k => k = q ∨ vp.ownBlock = some k) w (w1.setCell ⟨q, 1, none⟩ v1) := ((Chg.refl _ w).grown hg (fun k e _ => .inr e)).setCell ⟨q, 1, none⟩ (fun _ => .inl rfl) _
  have vq : ∀ k, v1.ownBlock = some k → k ≠ q ∧ ¬ F k := fun k hk => by
    rcases hat with e | ⟨d, e, hd⟩
    · exact ⟨h.pq k (e ▸ hk), h.dp k (e ▸ hk)⟩
    · rw [hk] at e
      injection e with e
      have := h.ql
      refine ⟨by omega, fun hf => ?_⟩
      obtain ⟨_, _, _, _, ho2, _⟩ := h.hp
      have := ho2.lt k hf
      omega
  generalize w1.setCell ⟨q, 1, none⟩ v1 = W2 at *
  exact ⟨⟨b2, h.hp.kept c1 (fun k hf e => e.elim (fun e => h.dq (e ▸ hf)) (fun e => h.dp k e hf)), ho.blocks (fun k hk => k1 k (vq k hk).1), h.of_.blocks (fun k hk => k0 k (h.of_.lt k hk) (h.fq k hk) (fun e => h.pf e hk rfl)), h.mp.blocks (k0 b h.mp.lt (Ne.symm h.qb) (fun e => h.pb b e rfl)), h.dq, fun k hk => (vq k hk).2, h.df, h.db⟩, c1.mono (fun k _ e => e.elim (fun e => .inl e) (fun e => .inr (.inr (.inr (.inl e)))))⟩
/-- Its row of events has turned in place. -/
theorem QV.stored (h : QV w q ph b vp vf F PL FR Has ks M last now c) (xs : List EvP.Ev) (ho : OwnE 60 w1 vp xs) (hg : w.grownBy w1 vp.ownBlock) : QV w1 q ph b vp vf F xs FR Has ks M last now c ∧ Chg (QF q b vp vf F) w w1 := by
  have k0 : ∀ k, k < w.heap.size → vp.ownBlock ≠ some k → w1.heap[k]? = w.heap[k]? := fun k hl hv => hg.block k hl (fun e => hv e.symm)
  have c1 : Chg (fun k => vp.ownBlock = some k) w w1 := (Chg.refl _ w).grown hg (fun k e _ => e)
  exact ⟨⟨(k0 q h.ql (fun e => h.pq q e rfl)).trans h.blk, h.hp.kept c1 (fun k hf e => h.dp k e hf), ho, h.of_.blocks (fun k hk => k0 k (h.of_.lt k hk) (fun e => h.pf e hk rfl)), h.mp.blocks (k0 b h.mp.lt (fun e => h.pb b e rfl)), h.dq, h.dp, h.df, h.db⟩, c1.mono (fun k _ e => .inr (.inr (.inr (.inl e))))⟩
/-- Its map has turned. -/
theorem QV.mapped {c' : Nat} {M' : Int → Option Int} (h : QV w q ph b vp vf F PL FR Has ks M last now c) (hm : MapI Try.prog 3 3 w1 b c' M') (hg : w.grownBy w1 (some b)) : QV w1 q ph b vp vf F PL FR Has ks M' last now c' ∧ Chg (QF q b vp vf F) w w1 := by
  have k0 : ∀ k, k < w.heap.size → k ≠ b → w1.heap[k]? = w.heap[k]? := fun k hl hv => hg.block k hl (fun e => hv (by injection e))
  have c1 : Chg (fun k => k = b) w w1 := (Chg.refl _ w).grown hg (fun k e _ => by injection e with e; exact e.symm)
  exact ⟨⟨(k0 q h.ql h.qb).trans h.blk, h.hp.kept c1 (fun k hf e => h.db (e ▸ hf)), h.op.blocks (fun k hk => k0 k (h.op.lt k hk) (h.pb k hk)), h.of_.blocks (fun k hk => k0 k (h.of_.lt k hk) (h.fb k hk)), hm, h.dq, h.dp, h.df, h.db⟩, c1.mono (fun k _ e => .inr (.inl e))⟩
end
/-- A queue with these events, identifiers and present. -/
def QIs (w : World) (G : Nat → Prop) (q : Nat) (E : List EvP.Ev) (last now : Int) : Prop :=
  ∃ ph b vp vf F PL FR Has ks M c, QV w q ph b vp vf F PL FR Has ks M last now c ∧ Inv E last now PL FR Has ks M ∧ (c : Int) ≤ last ∧ (∀ k, QF q b vp vf F k → G k) ∧ (∀ k, G k → k < w.heap.size)
theorem rank_or (t i : Int) (ht : 0 ≤ t ∧ t ≤ 1073741824) (hi : 0 ≤ i ∧ i < 4294967296) : Go.bits .or .i64 (t * 4294967296) i = t * 4294967296 + i :=
  bits_join .i64 63 (by decide) (fun n h0 h1 => by rw [IntKind.wrap_i64]; omega) 32 _ _ (by omega) (by omega) (by omega) hi.1 (by omega) (by omega)
end Go.Proofs.Ytpliaagfhjnnaaa.Ev

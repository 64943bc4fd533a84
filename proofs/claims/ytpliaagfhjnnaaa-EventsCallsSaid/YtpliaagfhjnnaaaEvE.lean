import Derived.Test.YtpliaagfhjnnaaaEvD
namespace Go.Proofs.Ytpliaagfhjnnaaa.Ev
open Go.RowKit Go.Proofs.YtpliaagfhjnnaaaW.PrintWords Go.Proofs.Ytpliaagfhjnnaaa.Sep Go.Proofs.Ytpliaagfhjnnaaa.HeapP Go.Proofs.Ytpliaagfhjnnaaa.Heap Go.Proofs.Ytpliaagfhjnnaaa.EvP
set_option linter.unusedVariables false

def QPost (w : World) (G : Nat → Prop) (q : Nat) (E : List EvP.Ev) (last now : Int) (w' : World) : Prop := QIs w' (Gr G w w') q E last now ∧ Chg G w w'
theorem QIs.new {w w1 : World} {G F F1 : Nat → Prop} {q ph b c' : Nat} {vp vf vp' v1 : Value} {PL' : List EvP.Ev} {FR' : List Int} {Has' : List Bool} {ks' : List Int} {M' : Int → Option Int} {E : List EvP.Ev} {last now : Int}
    (hG : ∀ k, QF q b vp vf F k → G k) (hl : ∀ k, G k → k < w.heap.size) (hv : QV w1 q ph b vp' v1 F1 PL' FR' Has' ks' M' last now c') (hi : Inv E last now PL' FR' Has' ks' M') (hc : (c' : Int) ≤ last) (hch : Chg (QF q b vp vf F) w w1)
    (hp : vp'.ownBlock = vp.ownBlock ∨ ∃ d, vp'.ownBlock = some d ∧ w.heap.size ≤ d) (hf : v1.ownBlock = vf.ownBlock ∨ ∃ d, v1.ownBlock = some d ∧ w.heap.size ≤ d) (hF : ∀ k, F1 k → F k ∨ w.heap.size ≤ k) : QPost w G q E last now w1 := by
  refine ⟨⟨ph, b, vp', v1, F1, PL', FR', Has', ks', M', c', hv, hi, hc, fun k hk => ?_, fun k hk => ?_⟩, hch.mono (fun k _ hk => hG k hk)⟩
  · have hlt := hv.lt k hk
    have new : w.heap.size ≤ k → Gr G w w1 k := fun h => .inr ⟨h, hlt⟩
    rcases hk with e | e | e | e | e
    · exact .inl (hG k (.inl e))
    · exact .inl (hG k (.inr (.inl e)))
    · rcases hF k e with e | e
      · exact .inl (hG k (.inr (.inr (.inl e))))
      · exact new e
    · rcases hp with h | ⟨d, h, hd⟩
      · exact .inl (hG k (.inr (.inr (.inr (.inl (h ▸ e))))))
      · rw [e] at h; injection h with h; exact new (by omega)
    · rcases hf with h | ⟨d, h, hd⟩
      · exact .inl (hG k (.inr (.inr (.inr (.inr (h ▸ e))))))
      · rw [e] at h; injection h with h; exact new (by omega)
  · rcases hk with q | q
    · exact Nat.lt_of_lt_of_le (hl k q) hch.size
    · exact q.2
theorem QPost.refl {w : World} {G : Nat → Prop} {q : Nat} {E : List EvP.Ev} {last now : Int} (h : QIs w G q E last now) : QPost w G q E last now w := by
  refine ⟨?_, Chg.refl _ _⟩
  obtain ⟨ph, b, vp, vf, F, PL, FR, Has, ks, M, c, hv, hi, hc, hG, hl⟩ := h
  exact ⟨ph, b, vp, vf, F, PL, FR, Has, ks, M, c, hv, hi, hc, fun k hk => .inl (hG k hk), fun k hk => hk.elim (fun q => hl k q) (fun q => q.2)⟩
theorem wf_of {x : Int} (h1 : 0 ≤ x) (h2 : x < 4294967296) : (Lit.int .i64 x).wf = true := by
  simp only [Lit.wf, Bool.and_eq_true, decide_eq_true_eq]
  exact ⟨Int.le_trans (by decide) h1, Int.le_trans (Int.le_of_lt h2) (by decide)⟩
theorem Gr.back {F : Nat → Prop} {w w1 : World} (k : Nat) (h : Gr F w w1 k) : F k ∨ w.heap.size ≤ k := by
  rcases h with h | h
  · exact .inl h
  · exact .inr h.1
theorem QF.grow {w w1 : World} {q b : Nat} {vp vf : Value} {F : Nat → Prop} (k : Nat) (hk : k < w.heap.size) (h : QF q b vp vf (Gr F w w1) k) : QF q b vp vf F k := by
  rcases h with e | e | e | e | e
  · exact .inl e
  · exact .inr (.inl e)
  · rcases e with e | e
    · exact .inr (.inr (.inl e))
    · omega
  · exact .inr (.inr (.inr (.inl e)))
  · exact .inr (.inr (.inr (.inr e)))
def evObj (x : EvP.Ev) : Obj := .cells #[.int .i64 x.id, .int .i64 x.time, .int .i64 x.data] 60
def NextPost (w : World) (G : Nat → Prop) (q : Nat) (E : List EvP.Ev) (last : Int) (e : Ending) (w' : World) : Prop :=
  ∃ x, MinE E x ∧ e = .returned (.tuple #[.int .i64 x.time, .int .i64 x.data, .bool true]) ∧ QPost w G q (drop E x.id) last x.time w'
theorem next_none {w : World} {G : Nat → Prop} {q : Nat} {last now : Int} (h : QIs w G q [] last now) : Calls Try.prog 12 #[.pointer (some ⟨q, 0, none⟩)] w fun e w' => e = .returned (.tuple #[.int .i64 0, .int .i64 0, .bool false]) ∧ w = w' := by
  obtain ⟨ph, b, vp, vf, F, PL, FR, Has, ks, M, c, hv, hi, _⟩ := h
  have f0 := blk_at hv.blk 0 _ rfl
  have HP := Aside0.mk (And.intro hv.hp (show Has.count true = 0 from hi.cnt))
  clear hv hi
  go_enter Try.func12, Try.ntmps12
  go_wp2_with (go_at_call 25; (with_reducible refine (pop_none HP.out.1 HP.out.2).mono ?_); rintro e w1 ⟨rfl, h1⟩; obtain rfl := h1.symm)
  go_ret3
  exact ⟨rfl, rfl⟩
theorem peek_none {w : World} {G : Nat → Prop} {q : Nat} {last now : Int} (h : QIs w G q [] last now) : Calls Try.prog 19 #[.pointer (some ⟨q, 0, none⟩)] w fun e w' => e = .returned (.tuple #[.int .i64 0, .bool false]) ∧ w = w' := by
  obtain ⟨ph, b, vp, vf, F, PL, FR, Has, ks, M, c, hv, hi, _⟩ := h
  have f0 := blk_at hv.blk 0 _ rfl
  have HP := Aside0.mk (And.intro hv.hp (show Has.count true = 0 from hi.cnt))
  clear hv hi
  go_enter Try.func19, Try.ntmps19
  go_wp2_with (go_at_call 25; (with_reducible refine (pop_none HP.out.1 HP.out.2).mono ?_); rintro e w1 ⟨rfl, h1⟩; obtain rfl := h1.symm)
  go_ret2
  exact ⟨rfl, rfl⟩
set_option maxHeartbeats 2000000 in
set_option maxRecDepth 100000 in
theorem next_some {w : World} {G : Nat → Prop} {q : Nat} {E : List EvP.Ev} {last now : Int} (h : QIs w G q E last now) (hE : 0 < E.length) (hlast : last < 4294967296) : Calls Try.prog 12 #[.pointer (some ⟨q, 0, none⟩)] w fun e w' => NextPost w G q E last e w' := by
  obtain ⟨ph, b, vp, vf, F, PL, FR, Has, ks, M, c, hv, hi, hc, hG, hGl⟩ := h
  have f0 := blk_at hv.blk 0 _ rfl
  have H := Aside0.mk hv
  have I := Aside0.mk hi
  have GG := Aside0.mk (And.intro hc (And.intro hG hGl))
  have EE := Aside0.mk (And.intro hE hlast)
  clear hv hi hc hG hGl hE hlast
  go_enter Try.func12, Try.ntmps12
  have FA : Aside0 (∀ i, gb Has i = true → i < PL.length ∧ (Lit.int .i64 (pe PL i).id).wf = true ∧ FR.length ≤ 70000) := ⟨fun i hb => by
    have h1 := I.out.on i hb
    have h2 := I.out.ids _ h1.2.1
    have h3 := I.out.fl
    have h4 := I.out.pm
    exact ⟨h1.1, wf_of (by omega) (by have := EE.out.2; omega), by omega⟩⟩
  go_upto_region 7 with (first | (go_at_call 25; (with_reducible refine (pop_some H.out.hp (by rw [I.out.cnt]; exact EE.out.1)).mono ?_); rintro e w1 hq; obtain ⟨i, hL, rfl, hp⟩ := hq; have Q1 := Aside0.mk (And.intro hL (H.out.heapPost hp)); have A1 := Aside0.mk (FA.out i hL.2.1); clear hL hp) | (go_at_call 26; (with_reducible refine (forget_calls Q1.out.2.1 i A1.out.1 A1.out.2.1 A1.out.2.2).mono ?_); rintro e w2 ⟨rfl, v1, hv2, hc2, hat2⟩; have Q2 := Aside0.mk (And.intro hv2 (And.intro hc2 hat2)); clear hv2 hc2 hat2))
  obtain ⟨x, hx⟩ : ∃ x, pe PL i = x := ⟨_, rfl⟩
  have hv3 := Q2.out.1.alloc (evObj (pe PL i))
  have ch3 : Chg (QF q b vp vf F) w (w2.alloc (evObj (pe PL i))) := (Q1.out.2.2.trans Q2.out.2.1 QF.grow).alloc _
  have bk := heap_alloc_new w2 (evObj (pe PL i))
  have hx2 := hx
  simp only [evObj] at hv3 ch3 bk
  obtain ⟨b7, hb7⟩ : ∃ n, w2.heap.size = n := ⟨_, rfl⟩
  rw [hb7] at bk ⊢
  rw [hx] at hv3 ch3 bk ⊢
  generalize w2.alloc (.cells #[.int .i64 x.id, .int .i64 x.time, .int .i64 x.data] 60) = w3 at hv3 ch3 bk ⊢
  have g1 := blk_at bk 1 _ rfl
  have g2 := blk_at bk 2 _ rfl
  have f5 := blk_at hv3.blk 5 _ rfl
  have z5 := blk_free hv3.blk 5
  have ne : b7 ≠ q := fun e => by have h2 := hv3.blk; rw [e] at bk; rw [bk] at h2; cases h2
  have ne' := ne.symm
  have S3 := hv3.setNow x.time
  have V3 := Aside0.mk (And.intro S3.1 (And.intro (ch3.trans S3.2 (fun k hk hf => ?_)) hx))
  · clear hv3 ch3 bk S3 hx hx2 hb7 f0
    go_wp2_with fail
    go_quiet (fail)
    go_wp2
    go_ret3
    refine ⟨x, by have := I.out.min Q1.out.1; rw [V3.out.2.2] at this; exact this, rfl, ?_⟩
    have hR := I.out.remove Q1.out.1.2.1 x.time (.inr ⟨by rw [V3.out.2.2], (I.out.min Q1.out.1).2⟩) EE.out.2
    rw [V3.out.2.2] at hR
    refine QIs.new (vp := vp) (vf := vf) (F := F) GG.out.2.1 GG.out.2.2 (V3.out.1.drewN _) (by exact hR) GG.out.1 (V3.out.2.1.drewN _) (.inl rfl) ?_ Gr.back
    rcases Q2.out.2.2 with e | ⟨d, e, hd⟩
    · exact .inl e
    · exact .inr ⟨d, e, by have := Q1.out.2.2.size; omega⟩
  · have hsz := Q1.out.2.2.size
    rcases hf with e | e | e | e | e
    · exact .inl e
    · exact .inr (.inl e)
    · rcases e with e | e
      · exact .inr (.inr (.inl e))
      · omega
    · exact .inr (.inr (.inr (.inl e)))
    · rcases Q2.out.2.2 with h | ⟨d, h, hd⟩
      · exact .inr (.inr (.inr (.inr (h ▸ e))))
      · rw [e] at h; injection h with h; omega
end Go.Proofs.Ytpliaagfhjnnaaa.Ev

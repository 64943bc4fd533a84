import Derived.Test.YtpliaagfhjnnaaaEvF
import Derived.Deep.RegionLaw
import Derived.Deep.AppendLies
namespace Go.Proofs.Ytpliaagfhjnnaaa.Ev
open Go.RowKit Go.Proofs.YtpliaagfhjnnaaaW.PrintWords Go.Proofs.Ytpliaagfhjnnaaa.Sep Go.Proofs.Ytpliaagfhjnnaaa.HeapP Go.Proofs.Ytpliaagfhjnnaaa.Heap Go.Proofs.Ytpliaagfhjnnaaa.EvP
set_option linter.unusedVariables false
set_option linter.unusedSimpArgs false

def addErr (now t : Int) (n : Nat) : Int := if t < 0 then 1 else if 1073741824 < t then 1 else if t < now then 7 else if (65536 : Int) ≤ (n : Int) then 6 else 0
set_option maxHeartbeats 1000000 in
set_option maxRecDepth 100000 in
theorem add_bad {w : World} {G : Nat → Prop} {q : Nat} {E : List EvP.Ev} {last now : Int} (h : QIs w G q E last now) (t d : Int) (hb : addErr now t E.length ≠ 0) : Calls Try.prog 11 #[.pointer (some ⟨q, 0, none⟩), .int .i64 t, .int .i64 d] w fun e w' => e = .returned (.tuple #[.int .i64 0, .int .i64 (addErr now t E.length)]) ∧ w = w' := by
  obtain ⟨ph, b, vp, vf, F, PL, FR, Has, ks, M, c, hv, hi, hc, hG, hGl⟩ := h
  have f0 := blk_at hv.blk 0 _ rfl
  have f5 := blk_at hv.blk 5 _ rfl
  have HL := Aside0.mk (And.intro hv.hp hi.cnt)
  obtain ⟨r, hr⟩ : ∃ r, addErr now t E.length = r := ⟨_, rfl⟩
  rw [hr] at hb ⊢
  obtain ⟨N, hN⟩ : ∃ N : Int, (E.length : Int) = N := ⟨_, rfl⟩
  unfold addErr at hr
  rw [hN] at hr
  have HN := Aside0.mk hN
  clear hv hi hG hGl hc hN
  by_cases c1 : t < 0
  · rw [if_pos c1] at hr
    subst hr
    clear hb
    go_enter Try.func11, Try.ntmps11
    go_wp2
    go_ret2
    exact ⟨rfl, rfl⟩
  · rw [if_neg c1] at hr
    by_cases c2 : 1073741824 < t
    · rw [if_pos c2] at hr
      subst hr
      clear hb
      go_enter Try.func11, Try.ntmps11
      go_wp2
      go_ret2
      exact ⟨rfl, rfl⟩
    · rw [if_neg c2] at hr
      by_cases c3 : t < now
      · rw [if_pos c3] at hr
        subst hr
        clear hb
        go_enter Try.func11, Try.ntmps11
        go_wp2
        go_ret2
        exact ⟨rfl, rfl⟩
      · rw [if_neg c3] at hr
        by_cases c4 : (65536 : Int) ≤ N
        · rw [if_pos c4] at hr
          subst hr
          clear hb
          go_enter Try.func11, Try.ntmps11
          go_wp2_with (go_at_call 22; (with_reducible refine (len_calls HL.out.1).mono ?_); rintro e w1 ⟨rfl, h1⟩; obtain rfl := h1.symm; rw [HL.out.2, HN.out])
          go_ret2
          exact ⟨rfl, rfl⟩
        · rw [if_neg c4] at hr
          exact absurd hr.symm hb
theorem QV.growPlaces {W w6 : World} {q ph b c : Nat} {vp vf v1 : Value} {F : Nat → Prop} {PL : List EvP.Ev} {FR : List Int} {Has : List Bool} {ks : List Int} {M : Int → Option Int} {last now : Int} {o : Obj} (h : QV W q ph b vp vf F PL FR Has ks M last now c) (hown : w6.ownsRow 0 60 3 v1 (PL.length + 1) (evc PL ++ [.int .i64 0, .int .i64 0, .int .i64 0])) (hg : (W.alloc o).grownBy w6 vp.ownBlock) (hat : v1.ownBlock = vp.ownBlock ∨ v1.ownBlock = some (W.alloc o).heap.size) :
    ∃ g6 c6, v1 = .slice (some ⟨g6, 0, none⟩) (PL.length + 1) c6 ∧ QV (w6.setCell ⟨q, 1, none⟩ v1) q ph b v1 vf F (PL ++ [EvP.z]) FR Has ks M last now c ∧ Chg (QF q b vp vf F) W (w6.setCell ⟨q, 1, none⟩ v1) ∧ w6.heap[q]? = some (.cells #[.pointer (some ⟨ph, 0, none⟩), vp, vf, .map (some b), .int .i64 last, .int .i64 now] 58 (0, 0)) := by
  have hown2 : OwnE 60 w6 v1 (PL ++ [EvP.z]) := by
    unfold OwnE
    rw [List.length_append, evc_append]
    exact hown
  have hl : (PL ++ [EvP.z]).length = PL.length + 1 := by simp
  obtain ⟨g6, c6, rfl, _⟩ := hown2.form (by rw [hl]; omega)
  have h1 := h.alloc o
  have P6 := h1.setPlaces (PL ++ [EvP.z]) hown2 hg (hat.elim .inl (fun e => .inr ⟨_, e, Nat.le_refl _⟩))
  have k1 := ((Chg.refl (QF q b vp vf F) W).alloc o).trans P6.2 (fun _ _ h => h)
  have q6 := (hg.block q h1.ql (fun e => h1.pq q e.symm rfl)).trans h1.blk
  rw [hl] at P6 k1 ⊢
  exact ⟨g6, c6, rfl, P6.1, k1, q6⟩
theorem QF.back {w0 : World} {q b : Nat} {vp vf vp2 vf2 : Value} {F : Nat → Prop} (hp : vp2.ownBlock = vp.ownBlock ∨ ∃ d, vp2.ownBlock = some d ∧ w0.heap.size ≤ d) (hf : vf2.ownBlock = vf.ownBlock ∨ ∃ d, vf2.ownBlock = some d ∧ w0.heap.size ≤ d) (k : Nat) (hk : k < w0.heap.size) (h : QF q b vp2 vf2 F k) : QF q b vp vf F k := by
  rcases h with e | e | e | e | e
  · exact .inl e
  · exact .inr (.inl e)
  · exact .inr (.inr (.inl e))
  · rcases hp with h | ⟨d, h, hd⟩
    · exact .inr (.inr (.inr (.inl (h ▸ e))))
    · rw [e] at h; injection h with h; omega
  · rcases hf with h | ⟨d, h, hd⟩
    · exact .inr (.inr (.inr (.inr (h ▸ e))))
    · rw [e] at h; injection h with h; omega
theorem grown3 (w : World) (g i j k : Nat) (x y z : Value) : w.grownBy (((w.setCell ⟨g, i, none⟩ x).setCell ⟨g, j, none⟩ y).setCell ⟨g, k, none⟩ z) (some g) :=
  ⟨rfl, rfl, rfl, by simp, fun n _ hne => by
    have h : n ≠ g := fun e => hne (by rw [e])
    exact ((blk_other ⟨g, k, none⟩ z h).trans (blk_other ⟨g, j, none⟩ y h)).trans (blk_other ⟨g, i, none⟩ x h)⟩
def Five (w : World) (q ph g n cp a : Nat) (x : EvP.Ev) : Prop := w.cell? ⟨q, 0, none⟩ = some (.pointer (some ⟨ph, 0, none⟩)) ∧ w.cell? ⟨q, 1, none⟩ = some (.slice (some ⟨g, 0, none⟩) n cp) ∧ w.cell? ⟨g, a * 3, none⟩ = some (.int .i64 x.id) ∧ w.cell? ⟨g, a * 3 + 1, none⟩ = some (.int .i64 x.time) ∧ w.cell? ⟨g, a * 3 + 2, none⟩ = some (.int .i64 x.data)
theorem QV.five {w : World} {q ph b c g n cp a : Nat} {vf : Value} {F : Nat → Prop} {PL : List EvP.Ev} {FR : List Int} {Has : List Bool} {ks : List Int} {M : Int → Option Int} {last now : Int} {x : EvP.Ev} (h : QV w q ph b (.slice (some ⟨g, 0, none⟩) n cp) vf F PL FR Has ks M last now c) (ha : a < PL.length) (hx : pe PL a = x) : Five w q ph g n cp a x := by
  obtain ⟨c0, c1, c2⟩ := h.op.cells a ha
  subst hx
  exact ⟨blk_at h.blk 0 _ rfl, blk_at h.blk 1 _ rfl, c0, c1, c2⟩
def AddPost (w : World) (G : Nat → Prop) (q : Nat) (E : List EvP.Ev) (last now t d : Int) (e : Ending) (w' : World) : Prop :=
  e = .returned (.tuple #[.int .i64 (last + 1), .int .i64 0]) ∧ QPost w G q (E ++ [⟨last + 1, t, d⟩]) (last + 1) now w'
def zE : Value := .agg #[.int .i64 0, .int .i64 0, .int .i64 0]
theorem infoEvent : (Try.prog.info? 60).map (fun i => (i.zero, i.size, i.bytes)) = some (some zE, 3, 24) := by kernel_rfl
set_option maxHeartbeats 4000000 in
set_option maxRecDepth 100000 in
theorem add_good {w : World} {G : Nat → Prop} {q : Nat} {E : List EvP.Ev} {last now : Int} (h : QIs w G q E last now) (t d : Int) (hb : addErr now t E.length = 0) (hlast : last < 4294967295) : Calls Try.prog 11 #[.pointer (some ⟨q, 0, none⟩), .int .i64 t, .int .i64 d] w fun e w' => AddPost w G q E last now t d e w' := by
  suffices hs : ∀ w0, w0 = w → Calls Try.prog 11 #[.pointer (some ⟨q, 0, none⟩), .int .i64 t, .int .i64 d] w fun e w' => AddPost w0 G q E last now t d e w' from hs w rfl
  intro w0 hw
  obtain ⟨c1, c2, c3, c4⟩ : ¬ t < 0 ∧ ¬ 1073741824 < t ∧ ¬ t < now ∧ ¬ (65536 : Int) ≤ (E.length : Int) := by
    unfold addErr at hb
    by_cases c1 : t < 0
    · simp [c1] at hb
    · by_cases c2 : 1073741824 < t
      · simp [c1, c2] at hb
      · by_cases c3 : t < now
        · simp [c1, c2, c3] at hb
        · by_cases c4 : (65536 : Int) ≤ (E.length : Int)
          · simp [c1, c2, c3, c4] at hb
          · exact ⟨c1, c2, c3, c4⟩
  obtain ⟨ph, b, vp, vf, F, PL, FR, Has, ks, M, c, hv, hi, hc, hG, hGl⟩ := h
  obtain ⟨A, cf, rfl⟩ := hv.of_.slice
  obtain ⟨Ap, cp, rfl⟩ := hv.op.slice
  have f0 := blk_at hv.blk 0 _ rfl
  have f5 := blk_at hv.blk 5 _ rfl
  have f2 := blk_at hv.blk 2 _ rfl
  have BB := Aside0.mk (And.intro (show now ≤ t ∧ t ≤ 1073741824 by omega) (And.intro (show E.length < 65536 by omega) hlast))
  have GG := Aside0.mk (And.intro hc (And.intro hG (show ∀ k, G k → k < w0.heap.size from hw ▸ hGl)))
  have WW := Aside0.mk (And.intro hw (show Chg (QF q b (.slice Ap PL.length cp) (.slice A FR.length cf) F) w0 w from by rw [hw]; exact Chg.refl _ _))
  clear hw
  have HL := Aside0.mk (And.intro hv.hp hi.cnt)
  have H := Aside0.mk hv
  obtain ⟨N, hN⟩ : ∃ N : Int, (E.length : Int) = N := ⟨_, rfl⟩
  rw [hN] at c4
  have HN := Aside0.mk hN
  clear hb hlast hc hG hGl hN
  by_cases hFR : FR = []
  case' pos =>
    subst hFR
    have I := Aside0.mk hi
    have HH := Aside0.mk hv
    clear hv hi
    simp only [List.length_nil] at f2
    obtain ⟨i0, hi0, hzz⟩ := Option.map_eq_some_iff.1 infoInt
    simp only [Prod.mk.injEq] at hzz
    obtain ⟨hz0, hz1, hz2⟩ := hzz
    go_enter Try.func11, Try.ntmps11
    go_upto_region 10 with (go_at_call 22; (with_reducible refine (len_calls HL.out.1).mono ?_); rintro e w1 ⟨rfl, h1⟩; obtain rfl := h1.symm; rw [HL.out.2, HN.out])
    have f1 := blk_at HH.out.blk 1 _ rfl
    have HO : OwnI 3 w (.slice A 0 cf) [] := HH.out.of_
    have HV0 := Aside0.mk ((HH.out.drewN 1).alloc (.cells #[.int .i64 (PL.length : Int)] 3))
    have f2a := blk_at (w := (w.alloc (.cells #[.int .i64 (PL.length : Int)] 3)).drew) HV0.out.blk 2 _ rfl
    have f2b := blk_at (w := (w.alloc (.cells #[.int .i64 (PL.length : Int)] 3))) HV0.out.blk 2 _ rfl
    simp only [List.length_nil] at f2a f2b
    go_region_law (refine step_append_lies _ rfl (.tmp 43) (.tmp 49) 29 rfl 0 3 i0 (.int .i64 0) 1 8 Try.underlying29 hi0 hz0 hz1 hz2 rfl (by decide) (.slice A 0 cf) 0 [] (by simp [Act.eval, Act.put]) (OwnI.alloc (HO.drewN 1) _) ⟨w.heap.size, 0, none⟩ 1 1 [.int .i64 (PL.length : Int)] (by simp [Act.eval, Act.put]) rfl (World.news_of_block (heap_alloc_new w.drew _)) (by intro u hu; simp only [List.mem_singleton] at hu; subst hu; rfl) (by decide) (by decide) (by decide) (Nat.zero_le _) _ rfl ?_; intro g4 k4 w4 hown hg hor hgl; have P4 := Aside0.mk (HV0.out.setFree (v1 := .slice (some ⟨g4, 0, none⟩) (0 + 1) k4) [(PL.length : Int)] hown hg (hor.elim (fun e => .inl e.symm) (fun e => .inr ⟨g4, rfl, e ▸ Nat.le_refl _⟩))); have H4 := Aside0.mk (And.intro hor hgl); have q4 : w4.heap[q]? = _ := (hg.block q HV0.out.ql (fun e => HV0.out.fq q e.symm rfl)).trans HV0.out.blk; have m0 := blk_at q4 2 _ rfl; have m1 := blk_free q4 2; clear hown hg hor hgl q4)
    all_goals (
      have hv5 := P4.out.1
      have ch5 := (((Chg.refl (QF q b (.slice Ap PL.length cp) (.slice A 0 cf) F) w).drewN 1).alloc (.cells #[.int .i64 (PL.length : Int)] 3)).trans P4.out.2 (fun _ _ h => h)
      simp only [Nat.zero_add] at hv5 ch5
      generalize w4.setCell ⟨q, 2, none⟩ (.slice (some ⟨g4, 0, none⟩) 1 k4) = W5 at hv5 ch5 ⊢
      have f1b := blk_at hv5.blk 1 _ rfl
      have H5 := Aside0.mk (And.intro hv5 (And.intro ch5 H4.out.1))
      clear hv5 ch5 P4 H4 m0 m1 f1 f2 f2a f2b HV0 HO hi0 hz0 hz1 hz2
      obtain ⟨i1, hi1, hzz⟩ := Option.map_eq_some_iff.1 infoEvent
      simp only [Prod.mk.injEq] at hzz
      obtain ⟨hz0, hz1, hz2⟩ := hzz
      go_upto_region 12 with (at_builtin; refine wpList_append_own_at _ rfl (.tmp 57) (.tmp 59) 56 rfl 0 60 i1 zE 3 24 Try.underlying56 hi1 hz0 hz1 hz2 rfl (by decide) (.slice Ap PL.length cp) PL.length (evc PL) (by simp [Act.eval]) (OwnE.blocks H5.out.1.op (w1 := W5.alloc (.cells #[.int .i64 0, .int .i64 0, .int .i64 0] 60)) (fun k hk => Below.heap_alloc _ _ _ (H5.out.1.op.lt k hk))) ⟨W5.heap.size, 0, none⟩ 1 1 [.int .i64 0, .int .i64 0, .int .i64 0] (by simp [Act.eval]) rfl (World.news_of_block (heap_alloc_new W5 _)) (by decide) (by have := I.out.pm; simp only [maxLen]; omega) (by have := I.out.pm; omega) (Nat.zero_le _) ?_; intro v1 w6 hown hg _ hat; have Z := H5.out.1.growPlaces hown hg hat; obtain ⟨g6, k6, rfl, h6, k6, q6⟩ := Z; have m0 := blk_at q6 1 _ rfl; have m1 := blk_free q6 1; have P6 := Aside0.mk (And.intro h6 (And.intro k6 hat)); clear hown hg hat q6 h6 k6)
      have hv7 := P6.out.1
      have ch7 := H5.out.2.1.trans P6.out.2.1 (fun k hk h => by
        have hsz := WW.out.1
        rcases h with e | e | e | e | e
        · exact .inl e
        · exact .inr (.inl e)
        · exact .inr (.inr (.inl e))
        · exact .inr (.inr (.inr (.inl e)))
        · rcases H5.out.2.2 with h2 | h2
          · exact .inr (.inr (.inr (.inr (h2.trans e))))
          · exact absurd hk (by have : some g4 = some k := e; injection this with this; rw [← this, h2]; simp))
      obtain ⟨w7, hw7⟩ : ∃ w7, w6.setCell ⟨q, 1, none⟩ (.slice (some ⟨g6, 0, none⟩) (PL.length + 1) k6) = w7 := ⟨_, rfl⟩
      rw [hw7] at hv7 ch7 ⊢
      have hpp := P6.out.2.2
      have hff := H5.out.2.2
      have hsz := H5.out.2.1.size
      have hw := WW.out.1
      have V : ∃ (g6 k6 g4 k4 : Nat) (PL7 : List EvP.Ev) (F0 : List Int) (a n : Nat), Aside0 (QV w7 q ph b (.slice (some ⟨g6, 0, none⟩) PL7.length k6) (.slice (some ⟨g4, 0, none⟩) (n + 1) k4) F PL7 (F0 ++ [(a : Int)]) Has ks M last now c ∧ Chg (QF q b (.slice Ap PL.length cp) (.slice A ([] : List Int).length cf) F) w0 w7 ∧ Inv E last now PL7 (F0 ++ [(a : Int)]) Has ks M ∧ ((.slice (some ⟨g6, 0, none⟩) PL7.length k6 : Value).ownBlock = (.slice Ap PL.length cp : Value).ownBlock ∨ ∃ d, (.slice (some ⟨g6, 0, none⟩) PL7.length k6 : Value).ownBlock = some d ∧ w0.heap.size ≤ d) ∧ ((.slice (some ⟨g4, 0, none⟩) (n + 1) k4 : Value).ownBlock = (.slice A ([] : List Int).length cf : Value).ownBlock ∨ ∃ d, (.slice (some ⟨g4, 0, none⟩) (n + 1) k4 : Value).ownBlock = some d ∧ w0.heap.size ≤ d) ∧ F0.length = n) := ⟨g6, k6, g4, k4, PL ++ [EvP.z], [], PL.length, 0, ⟨by rw [List.length_append]; exact hv7, by rw [hw]; exact ch7, I.out.grow BB.out.2.1, hpp.elim .inl (fun e => .inr ⟨_, e, by rw [hw]; simp; omega⟩), hff.elim (fun e => .inl e.symm) (fun e => .inr ⟨g4, rfl, by rw [hw, e]; simp⟩), rfl⟩⟩
      clear hv7 ch7 hpp hff hsz hw hw7 P6 H5 m0 m1 f0 f5 f1b)
  case' neg =>
    obtain ⟨F0, x, hFx⟩ : ∃ F0 x, FR = F0 ++ [x] := (by obtain ⟨l, y, h⟩ := (List.eq_nil_or_concat FR).resolve_left hFR; exact ⟨l, y, by rw [h]; simp⟩)
    obtain ⟨a, rfl, hal, hab⟩ := hi.fr x (by rw [hFx]; simp)
    obtain ⟨n, hn⟩ : ∃ n, F0.length = n := ⟨_, rfl⟩
    have hl : FR.length = n + 1 := by rw [hFx]; simp [hn]
    obtain ⟨g4, k4, e4, _⟩ := hv.of_.form (by omega)
    obtain ⟨g6, k6, e6, _⟩ := hv.op.form (by omega)
    have hv2 := hv
    rw [e4, e6] at hv2
    rw [e4, e6, hl] at f2
    have V0 := Aside0.mk (And.intro hn (And.intro hl (And.intro hFx (And.intro hv2 (And.intro hi (And.intro e4 e6))))))
    have dn : (((n + 1 : Nat) : Int) == 0) = false := beq_eq_false_iff_ne.2 (by omega)
    clear hv hv2 hi hFR hFx hal hab hn hl e4 e6
    go_enter Try.func11, Try.ntmps11
    go_upto_region 12 with (go_at_call 22; (with_reducible refine (len_calls HL.out.1).mono ?_); rintro e w1 ⟨rfl, h1⟩; obtain rfl := h1.symm; rw [HL.out.2, HN.out])
    obtain ⟨w7, hw7⟩ : ∃ w7, w7 = w := ⟨_, rfl⟩
    subst hw7
    have V : ∃ (g6 k6 g4 k4 : Nat) (PL7 : List EvP.Ev) (F0 : List Int) (a n : Nat), Aside0 (QV w7 q ph b (.slice (some ⟨g6, 0, none⟩) PL7.length k6) (.slice (some ⟨g4, 0, none⟩) (n + 1) k4) F PL7 (F0 ++ [(a : Int)]) Has ks M last now c ∧ Chg (QF q b (.slice Ap PL.length cp) (.slice A FR.length cf) F) w0 w7 ∧ Inv E last now PL7 (F0 ++ [(a : Int)]) Has ks M ∧ ((.slice (some ⟨g6, 0, none⟩) PL7.length k6 : Value).ownBlock = (.slice Ap PL.length cp : Value).ownBlock ∨ ∃ d, (.slice (some ⟨g6, 0, none⟩) PL7.length k6 : Value).ownBlock = some d ∧ w0.heap.size ≤ d) ∧ ((.slice (some ⟨g4, 0, none⟩) (n + 1) k4 : Value).ownBlock = (.slice A FR.length cf : Value).ownBlock ∨ ∃ d, (.slice (some ⟨g4, 0, none⟩) (n + 1) k4 : Value).ownBlock = some d ∧ w0.heap.size ≤ d) ∧ F0.length = n) := ⟨g6, k6, g4, k4, PL, F0, a, n, ⟨by rw [← V0.out.2.1, ← V0.out.2.2.1]; exact V0.out.2.2.2.1, WW.out.2, by rw [← V0.out.2.2.1]; exact V0.out.2.2.2.2.1, .inl (congrArg Value.ownBlock V0.out.2.2.2.2.2.2).symm, .inl (congrArg Value.ownBlock V0.out.2.2.2.2.2.1).symm, V0.out.1⟩⟩
    clear V0 f0 f5 f2 dn
  all_goals (
    obtain ⟨g6, k6, g4, k4, PL7, F0, a, n, V⟩ := V
    clear c1 c2 c3 c4 h1
    have hv := V.out.1
    have hi := V.out.2.2.1
    have hn := V.out.2.2.2.2.2
    have hfl := hi.fl
    have hpm := hi.pm
    simp only [List.length_append, List.length_singleton] at hfl
    have cl := hv.of_.cell n (by simp [hn])
    rw [show (F0 ++ [(a : Int)]).getD n 0 = (a : Int) by rw [← hn]; simp] at cl
    have f2 := blk_at hv.blk 2 _ rfl
    have z2 := blk_free hv.blk 2
    have d2 : (n : Int) < 70000 := by omega
    have d3 : n ≤ k4 := by have := OwnI.cap hv.of_; omega
    have ew : IntKind.i64.wrap (n : Int) = (n : Int) := IntWalk.i64_in _ (by omega)
    clear hv hi hn hfl hpm
    go_wp2_with fail
    go_quiet (fail)
    go_wp2_with fail
    go_region
    clear f2 z2 cl d2 ew
    have P1 := V.out.1.setFree (w1 := w7.drewN (nq + 1)) (v1 := .slice (some ⟨g4, 0, none⟩) n k4) F0 (by
      have h1 := OwnI.cut (m := n) (V.out.1.of_.drewN (nq + 1)) (by omega)
      rwa [show (F0 ++ [(a : Int)]).take n = F0 by rw [← V.out.2.2.2.2.2]; simp] at h1) ⟨rfl, rfl, rfl, Nat.le_refl _, fun _ _ _ => rfl⟩ (.inl rfl)
    generalize World.setCell (w7.drewN (nq + 1)) _ _ = w8 at P1 ⊢
    have hv8 := P1.1
    have ch8 := V.out.2.1.trans P1.2 (QF.back V.out.2.2.2.1 V.out.2.2.2.2.1)
    have f4 := blk_at hv8.blk 4 _ rfl
    have z4 := blk_free hv8.blk 4
    obtain ⟨L, hL⟩ : ∃ L, last + 1 = L := ⟨_, rfl⟩
    have hwL : wrap64 (last + 1) = L := by have := BB.out.2.2; have := V.out.2.2.1.last0; unfold wrap64; omega
    have P2 := hv8.setLast L
    have V8 := Aside0.mk (And.intro P2.1 (And.intro (ch8.trans P2.2 (QF.back V.out.2.2.2.1 V.out.2.2.2.2.1)) hL))
    have KA := V.out.2.2.1.fr (a : Int) (by simp)
    have hal : a < PL7.length := by obtain ⟨a2, e, h, _⟩ := KA; omega
    clear P1 hv8 ch8 P2 KA hL
    go_wp2_with fail
    clear f4 z4 hwL
    generalize World.setCell w8 _ _ = w9 at V8 ⊢
    have f1 := blk_at V8.out.1.blk 1 _ rfl
    have f4 := blk_at V8.out.1.blk 4 _ rfl
    obtain ⟨q0, q1, q2⟩ := V8.out.1.op.cells a hal
    have y0 := OwnE.free V8.out.1.op (a * 3)
    have y1 := OwnE.free V8.out.1.op (a * 3 + 1)
    have y2 := OwnE.free V8.out.1.op (a * 3 + 2)
    have d4 : (a : Int) < (PL7.length : Int) := by omega
    have AL := Aside0.mk hal
    clear hal
    go_region
    clear f1 f4 q0 q1 q2 y0 y1 y2
    have P3 := V8.out.1.stored (PL7.set a ⟨L, t, d⟩) (OwnE.store V8.out.1.op a AL.out ⟨L, t, d⟩) (grown3 _ _ _ _ _ _ _ _)
    simp only at P3
    have P4 := Aside0.mk (And.intro P3.1.drew (V8.out.2.1.trans P3.2 (QF.back V.out.2.2.2.1 V.out.2.2.2.2.1)).drew)
    clear P3
    generalize World.drew (World.setCell (World.setCell (World.setCell _ _ _) _ _) _ _) = w10 at P4 ⊢
    have hL := V8.out.2.2
    have hi := V.out.2.2.1
    have hwf : (Lit.int .i64 L).wf = true := wf_of (by have := hi.last0; omega) (by have := BB.out.2.2; omega)
    have hwa : (Lit.int .i64 (a : Int)).wf = true := wf_of (by omega) (by have := hi.pm; have := AL.out; omega)
    obtain ⟨wd, hrun, hM, hg⟩ := P4.out.1.drew.mp.update Try.underlying3 Try.underlying3 Try.underlying55 (by have := GG.out.1; have := BB.out.2.2; omega) L (a : Int) hwf hwa
    have P5 := P4.out.1.drew.mapped hM hg
    have P6 := Aside0.mk (And.intro P5.1 (P4.out.2.drew.trans P5.2 (QF.back V.out.2.2.2.1 V.out.2.2.2.2.1)))
    have f3 := blk_at P4.out.1.blk 3 _ rfl
    have f4 := blk_at P4.out.1.blk 4 _ rfl
    clear hL hi hwf hwa hM hg P5
    go_wp2_with fail
    go_region
    clear f3 f4 hrun
    have hL := V8.out.2.2
    have hi := V.out.2.2.1
    have RC0 := fun W => rank_calls ⟨L, t, d⟩ W ⟨by have := BB.out.1; have := hi.now0; show 0 ≤ t; omega, BB.out.1.2⟩ ⟨by have := hi.last0; show 0 ≤ L; omega, by have := BB.out.2.2; show L < 4294967296; omega⟩
    obtain ⟨R, hR⟩ : ∃ R, EvP.rank ⟨L, t, d⟩ = R := ⟨_, rfl⟩
    rw [hR] at RC0
    simp only at RC0
    have RC := Aside0.mk (And.intro RC0 hR)
    have S0 : Five wd q ph g6 PL7.length k6 a ⟨L, t, d⟩ := P6.out.1.five (by rw [List.length_set]; exact AL.out) (pe_set_same _ _ _ AL.out)
    have VA := Aside0.mk (fun (W : World) (h : W = wd.drew.alloc (.cells #[.int .i64 L, .int .i64 t, .int .i64 d] 60)) => (show QV W q ph b (.slice (some ⟨g6, 0, none⟩) PL7.length k6) (.slice (some ⟨g4, 0, none⟩) n k4) F (PL7.set a ⟨L, t, d⟩) F0 Has ks (fun x => if x = L then some (a : Int) else M x) L now (c + 1) ∧ Five W q ph g6 PL7.length k6 a ⟨L, t, d⟩ from by
      subst h
      have h1 := P6.out.1.drew.alloc (.cells #[.int .i64 L, .int .i64 t, .int .i64 d] 60)
      exact ⟨h1, h1.five (by rw [List.length_set]; exact AL.out) (pe_set_same _ _ _ AL.out)⟩))
    have VB := Aside0.mk (fun (W W2 : World) (h : QV W q ph b (.slice (some ⟨g6, 0, none⟩) PL7.length k6) (.slice (some ⟨g4, 0, none⟩) n k4) F (PL7.set a ⟨L, t, d⟩) F0 Has ks (fun x => if x = L then some (a : Int) else M x) L now (c + 1)) (hp : SetPost W F ph (Has.set a true) (ks.set a R) W2) => (show Five W2 q ph g6 PL7.length k6 a ⟨L, t, d⟩ from (h.heapPost hp).1.five (by rw [List.length_set]; exact AL.out) (pe_set_same _ _ _ AL.out)))
    have AH := Aside0.mk (show a < Has.length by have := hi.hl; have := hi.pm; have := AL.out; omega)
    simp only [Five] at S0
    clear RC0 hR hi hL
    go_wp2_with fail
    obtain ⟨s0, s1, s2, s3, s4⟩ := S0
    go_region_held3 (fun w' => w'.cell? ⟨q, 0, none⟩ = some (.pointer (some ⟨ph, 0, none⟩)) ∧ w'.cell? ⟨q, 1, none⟩ = some (.slice (some ⟨g6, 0, none⟩) PL7.length k6) ∧ w'.cell? ⟨g6, a * 3, none⟩ = some (.int .i64 L) ∧ w'.cell? ⟨g6, a * 3 + 1, none⟩ = some (.int .i64 t) ∧ w'.cell? ⟨g6, a * 3 + 2, none⟩ = some (.int .i64 d)) (first | exact S13.out | exact S12.out | exact ⟨s0, s1, s2, s3, s4⟩ | go_keep) (first | (go_at_call 24; (with_reducible refine (RC.out.1 _).mono ?_); rintro e w12 ⟨rfl, h12⟩; have V12 := Aside0.mk (VA.out w12 h12); have E12 := Aside0.mk h12; have S12 := Aside0.mk (VA.out w12 h12).2; clear h12) | (go_at_call 23; (with_reducible refine (set_yes V12.out.1.hp a R AH.out).mono ?_); rintro e w13 ⟨rfl, hp13⟩; have V13 := Aside0.mk hp13; have S13 := Aside0.mk (VB.out w12 w13 V12.out.1 hp13); clear hp13))
    clear s0 s1 s2 s3 s4
    have V14 := Aside0.mk (V12.out.1.heapPost V13.out)
    have f4 := blk_at V14.out.1.blk 4 _ rfl
    go_wp2
    go_ret2
    have hL := V8.out.2.2
    have hR := RC.out.2
    obtain ⟨hv, hch⟩ := V14.out
    have h12 := P6.out.2.drew.alloc (.cells #[.int .i64 L, .int .i64 t, .int .i64 d] 60)
    rw [← E12.out] at h12
    have hInv := V.out.2.2.1.add t d BB.out.1
    rw [hL, hR] at hInv
    refine ⟨by rw [hL]; rfl, ?_⟩
    rw [hL]
    exact QIs.new GG.out.2.1 GG.out.2.2 hv hInv (by have := GG.out.1; omega) (h12.trans hch (QF.back V.out.2.2.2.1 V.out.2.2.2.2.1)) V.out.2.2.2.1 V.out.2.2.2.2.1 (fun k hk => (Gr.back k hk).elim .inl (fun h => .inr (Nat.le_trans h12.size h))))
end Go.Proofs.Ytpliaagfhjnnaaa.Ev

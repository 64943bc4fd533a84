import Derived.Test.YtpliaagfhjnnaaaEvR
import Derived.Deep.RegionLaw
namespace Go.Proofs.Ytpliaagfhjnnaaa.Ev
open Go.RowKit Go.Proofs.YtpliaagfhjnnaaaW.PrintWords Go.Proofs.Ytpliaagfhjnnaaa.Sep Go.Proofs.Ytpliaagfhjnnaaa.HeapP Go.Proofs.Ytpliaagfhjnnaaa.Heap Go.Proofs.Ytpliaagfhjnnaaa.EvP
set_option linter.unusedVariables false
set_option linter.unusedSimpArgs false

theorem QRV.setE {W w4 : World} {r : Nat} {vE v1 : Value} {E : List EvP.Ev} {added clock : Int} (h : QRV W r vE E added clock) (xs : List EvP.Ev) (ho : OwnE 64 w4 v1 xs) (hg : W.grownBy w4 vE.ownBlock) (hat : v1.ownBlock = vE.ownBlock ∨ ∃ d, v1.ownBlock = some d ∧ W.heap.size ≤ d) : QRV (w4.setCell ⟨r, 0, none⟩ v1) r v1 xs added clock ∧ Chg (RF r vE) W (w4.setCell ⟨r, 0, none⟩ v1) ∧ w4.heap[r]? = some (.cells #[vE, .int .i64 added, .int .i64 clock] 45 (0, 0)) := by
  have b1 : w4.heap[r]? = some (.cells #[vE, .int .i64 added, .int .i64 clock] 45 (0, 0)) := (hg.block r h.rl (fun e => h.er r e.symm rfl)).trans h.blk
  have vr : ∀ k, v1.ownBlock = some k → k ≠ r := fun k hk => by
    rcases hat with e | ⟨d, e, hd⟩
    · exact h.er k (e ▸ hk)
    · rw [hk] at e
      injection e with e
      have := h.rl
      omega
  exact ⟨⟨Sep.blk_set b1 0 v1, ho.blocks (fun k hk => blk_other _ _ (vr k hk))⟩, ((Chg.refl (RF r vE) W).grown hg (fun k e _ => .inr e)).setCell ⟨r, 0, none⟩ (fun _ => .inl rfl) _, b1⟩
theorem QRV.setA {W : World} {r : Nat} {vE : Value} {E : List EvP.Ev} {added clock : Int} (h : QRV W r vE E added clock) (x : Int) : QRV (W.setCell ⟨r, 1, none⟩ (.int .i64 x)) r vE E x clock ∧ Chg (RF r vE) W (W.setCell ⟨r, 1, none⟩ (.int .i64 x)) :=
  ⟨⟨Sep.blk_set h.blk 1 _, h.oe.blocks (fun k hk => blk_other _ _ (h.er k hk))⟩, (Chg.refl _ W).setCell ⟨r, 1, none⟩ (fun _ => .inl rfl) _⟩
theorem QRV.setC {W : World} {r : Nat} {vE : Value} {E : List EvP.Ev} {added clock : Int} (h : QRV W r vE E added clock) (x : Int) : QRV (W.setCell ⟨r, 2, none⟩ (.int .i64 x)) r vE E added x ∧ Chg (RF r vE) W (W.setCell ⟨r, 2, none⟩ (.int .i64 x)) :=
  ⟨⟨Sep.blk_set h.blk 2 _, h.oe.blocks (fun k hk => blk_other _ _ (h.er k hk))⟩, (Chg.refl _ W).setCell ⟨r, 2, none⟩ (fun _ => .inl rfl) _⟩
theorem QRV.alloc {W : World} {r : Nat} {vE : Value} {E : List EvP.Ev} {added clock : Int} (h : QRV W r vE E added clock) (o : Obj) : QRV (W.alloc o) r vE E added clock := h.kept (F := fun _ => False) ((Chg.refl _ _).alloc o) (fun _ _ h => h)
theorem QRV.drewN {W : World} {r : Nat} {vE : Value} {E : List EvP.Ev} {added clock : Int} (h : QRV W r vE E added clock) (n : Nat) : QRV (W.drewN n) r vE E added clock := h.kept (F := fun _ => False) ((Chg.refl _ _).drewN n) (fun _ _ h => h)
theorem QRV.grownE {W w4 : World} {r : Nat} {vE v1 : Value} {E : List EvP.Ev} {added clock : Int} {x : EvP.Ev} (h : QRV W r vE E added clock) (hown : w4.ownsRow 0 64 3 v1 (E.length + 1) (evc E ++ [.int .i64 x.id, .int .i64 x.time, .int .i64 x.data])) (hg : W.grownBy w4 vE.ownBlock) (hat : v1.ownBlock = vE.ownBlock ∨ v1.ownBlock = some W.heap.size) :
    ∃ g c, v1 = .slice (some ⟨g, 0, none⟩) (E.length + 1) c ∧ QRV (w4.setCell ⟨r, 0, none⟩ v1) r v1 (E ++ [x]) added clock ∧ Chg (RF r vE) W (w4.setCell ⟨r, 0, none⟩ v1) ∧ w4.heap[r]? = some (.cells #[vE, .int .i64 added, .int .i64 clock] 45 (0, 0)) := by
  have hown2 : OwnE 64 w4 v1 (E ++ [x]) := by
    unfold OwnE
    rw [List.length_append, evc_append]
    exact hown
  have hl : (E ++ [x]).length = E.length + 1 := by simp
  obtain ⟨g, c, rfl, _⟩ := hown2.form (by rw [hl]; omega)
  have P := h.setE (E ++ [x]) hown2 hg (hat.elim .inl (fun e => .inr ⟨_, e, Nat.le_refl _⟩))
  rw [hl] at P ⊢
  exact ⟨g, c, rfl, P⟩
theorem radd_bad {w : World} {G : Nat → Prop} {r : Nat} {E : List EvP.Ev} {added clock : Int} (h : RQ w G r E added clock) (t d : Int) (hb : addErr clock t E.length ≠ 0) : Calls Try.prog 16 #[.pointer (some ⟨r, 0, none⟩), .int .i64 t, .int .i64 d] w fun e w' => e = .returned (.tuple #[.int .i64 0, .int .i64 (addErr clock t E.length)]) ∧ w = w' := by
  obtain ⟨vE, hv, hG, hGl⟩ := h
  obtain ⟨A, c, rfl⟩ := hv.oe.slice
  have f0 := blk_at hv.blk 0 _ rfl
  have f2 := blk_at hv.blk 2 _ rfl
  obtain ⟨er, hr⟩ : ∃ er, addErr clock t E.length = er := ⟨_, rfl⟩
  rw [hr] at hb ⊢
  obtain ⟨N, hN⟩ : ∃ N, E.length = N := ⟨_, rfl⟩
  unfold addErr at hr
  rw [hN] at hr f0
  clear hv hG hGl hN
  by_cases c1 : t < 0
  · rw [if_pos c1] at hr
    subst hr
    clear hb
    go_enter Try.func16, Try.ntmps16
    go_wp2
    go_ret2
    exact ⟨rfl, rfl⟩
  · rw [if_neg c1] at hr
    by_cases c2 : 1073741824 < t
    · rw [if_pos c2] at hr
      subst hr
      clear hb
      go_enter Try.func16, Try.ntmps16
      go_wp2
      go_ret2
      exact ⟨rfl, rfl⟩
    · rw [if_neg c2] at hr
      by_cases c3 : t < clock
      · rw [if_pos c3] at hr
        subst hr
        clear hb
        go_enter Try.func16, Try.ntmps16
        go_wp2
        go_ret2
        exact ⟨rfl, rfl⟩
      · rw [if_neg c3] at hr
        by_cases c4 : (65536 : Int) ≤ (N : Int)
        · rw [if_pos c4] at hr
          subst hr
          clear hb
          go_enter Try.func16, Try.ntmps16
          go_wp2
          go_ret2
          exact ⟨rfl, rfl⟩
        · rw [if_neg c4] at hr
          exact absurd hr.symm hb
set_option maxHeartbeats 4000000 in
set_option maxRecDepth 100000 in
theorem radd_good {w : World} {G : Nat → Prop} {r : Nat} {E : List EvP.Ev} {added clock : Int} (h : RQ w G r E added clock) (t d : Int) (hb : addErr clock t E.length = 0) (ha0 : 0 ≤ added) (hlast : added < 4294967295) : Calls Try.prog 16 #[.pointer (some ⟨r, 0, none⟩), .int .i64 t, .int .i64 d] w fun e w' => e = .returned (.tuple #[.int .i64 (added + 1), .int .i64 0]) ∧ RPst w G r (E ++ [⟨added + 1, t, d⟩]) (added + 1) clock w' := by
  obtain ⟨c1, c2, c3, c4⟩ : ¬ t < 0 ∧ ¬ 1073741824 < t ∧ ¬ t < clock ∧ ¬ (65536 : Int) ≤ (E.length : Int) := by
    unfold addErr at hb
    by_cases c1 : t < 0
    · simp [c1] at hb
    · by_cases c2 : 1073741824 < t
      · simp [c1, c2] at hb
      · by_cases c3 : t < clock
        · simp [c1, c2, c3] at hb
        · by_cases c4 : (65536 : Int) ≤ (E.length : Int)
          · simp [c1, c2, c3, c4] at hb
          · exact ⟨c1, c2, c3, c4⟩
  obtain ⟨vE, hv, hG, hGl⟩ := h
  obtain ⟨A, c, rfl⟩ := hv.oe.slice
  have f0 := blk_at hv.blk 0 _ rfl
  have f1 := blk_at hv.blk 1 _ rfl
  have f2 := blk_at hv.blk 2 _ rfl
  have z1 := blk_free hv.blk 1
  obtain ⟨N, hN⟩ : ∃ N, E.length = N := ⟨_, rfl⟩
  obtain ⟨L, hL⟩ : ∃ L, added + 1 = L := ⟨_, rfl⟩
  have hwL : wrap64 (added + 1) = L := by unfold wrap64; omega
  rw [hN] at f0 c4
  have GG := Aside0.mk (And.intro hG (And.intro hGl (And.intro hN (show N < 65536 by omega))))
  have H := Aside0.mk hv
  have S1 := Aside0.mk (hv.setA L)
  rw [hL]
  clear hv hG hGl hN hb ha0 hlast hL
  obtain ⟨i0, hi0, hzz⟩ := Option.map_eq_some_iff.1 infoREvent
  simp only [Prod.mk.injEq] at hzz
  obtain ⟨hz0, hz1, hz2⟩ := hzz
  go_enter Try.func16, Try.ntmps16
  go_wp2_with fail
  clear f0 f1 f2 z1 hwL
  generalize World.setCell w _ _ = w1 at S1 ⊢
  have V0 := Aside0.mk ((S1.out.1.drewN 1).alloc (.cells #[.int .i64 L, .int .i64 t, .int .i64 d] 64))
  have f0 := blk_at S1.out.1.blk 0 _ rfl
  have f1 := blk_at S1.out.1.blk 1 _ rfl
  have f0a := blk_at (w := (w1.alloc (.cells #[.int .i64 L, .int .i64 t, .int .i64 d] 64)).drew) V0.out.blk 0 _ rfl
  have f0b := blk_at (w := (w1.alloc (.cells #[.int .i64 L, .int .i64 t, .int .i64 d] 64))) V0.out.blk 0 _ rfl
  go_region_law (refine step_append_any rfl (.tmp 40) (.tmp 48) 43 rfl 0 64 i0 zE 3 24 Try.underlying43 hi0 hz0 hz1 hz2 rfl (by decide) (.slice A E.length c) E.length (evc E) (by simp [Act.eval, Act.put]) V0.out.oe ⟨w1.heap.size, 0, none⟩ 1 1 [.int .i64 L, .int .i64 t, .int .i64 d] (by simp [Act.eval, Act.put]) rfl (World.news_of_block (heap_alloc_new w1.drew _)) (by intro u hu; simp only [List.mem_cons, List.not_mem_nil, or_false] at hu; rcases hu with rfl | rfl | rfl <;> rfl) (by have := GG.out.2.2; simp only [maxLen]; omega) (by have := GG.out.2.2; omega) (Nat.zero_le _) ?_; intro v1 w4 hown hg hat; have Z := V0.out.grownE (x := ⟨L, t, d⟩) hown hg hat; obtain ⟨g4, k4, rfl, h4, ch4, q4⟩ := Z; have m0 := blk_at q4 0 _ rfl; have m1 := blk_free q4 0; have P4 := Aside0.mk (And.intro h4 (And.intro ch4 hat)); clear hown hg hat q4 h4 ch4)
  all_goals (
    clear f0 f1 f0a f0b m0 m1 hi0 hz0 hz1 hz2
    generalize World.setCell w4 _ _ = w5 at P4 ⊢
    have f1 := blk_at P4.out.1.blk 1 _ rfl
    go_wp2
    go_ret2
    refine ⟨rfl, RQ.new GG.out.1 GG.out.2.1 P4.out.1 (((S1.out.2.drewN 1).alloc (.cells #[.int .i64 L, .int .i64 t, .int .i64 d] 64)).trans P4.out.2.1 (fun _ _ h => h)) ?_⟩
    rcases P4.out.2.2 with e | e
    · exact .inl e
    · exact .inr ⟨_, e, by have := S1.out.2.size; simp; omega⟩)
theorem evc_take_at (E : List EvP.Ev) (i j : Nat) (u : Value) (h : (evc (E.take i))[j]? = some u) : (evc E)[j]? = some u := by
  have e : evc E = evc (E.take i) ++ evc (E.drop i) := by rw [← evc_append, List.take_append_drop]
  rw [e, List.getElem?_append_left (List.getElem?_eq_some_iff.1 h).1]
  exact h
theorem evc_drop_at (E : List EvP.Ev) (i j : Nat) (u : Value) (hi : i ≤ E.length) (h : (evc (E.drop i))[j]? = some u) : (evc E)[i * 3 + j]? = some u := by
  have e : evc E = evc (E.take i) ++ evc (E.drop i) := by rw [← evc_append, List.take_append_drop]
  have hl : (evc (E.take i)).length = i * 3 := by rw [evc_length, List.length_take, Nat.min_eq_left hi]
  rw [e, List.getElem?_append_right (by omega), hl, Nat.add_sub_cancel_left]
  exact h
theorem evc_one (E : List EvP.Ev) : ∀ u ∈ evc E, u.oneCell' = true := by
  intro u hu
  simp only [evc, List.mem_flatMap, List.mem_cons, List.not_mem_nil, or_false] at hu
  obtain ⟨x, _, rfl | rfl | rfl⟩ := hu <;> rfl
theorem add_off (g a j : Nat) : (⟨g, a, none⟩ : Addr).add j = ⟨g, a + j, none⟩ := by
  unfold Addr.add
  split <;> simp_all
set_option maxHeartbeats 4000000 in
set_option maxRecDepth 100000 in
theorem drop_calls {w : World} {r : Nat} {vE : Value} {E : List EvP.Ev} {added clock : Int} (h : QRV w r vE E added clock) (i : Nat) (hi : i < E.length) (hlen : E.length ≤ 65536) : Calls Try.prog 29 #[.pointer (some ⟨r, 0, none⟩), .int .i64 (i : Int)] w fun e w' => e = .returned (.tuple #[]) ∧ ∃ v1, QRV w' r v1 (E.take i ++ E.drop (i + 1)) added clock ∧ Chg (RF r vE) w w' ∧ (v1.ownBlock = vE.ownBlock ∨ ∃ d, v1.ownBlock = some d ∧ w.heap.size ≤ d) := by
  obtain ⟨g, c, rfl, _⟩ := h.oe.form (by omega)
  obtain ⟨N, hN⟩ : ∃ N, E.length = N := ⟨_, rfl⟩
  have f0 := blk_at h.blk 0 _ rfl
  rw [hN] at f0
  have H := Aside0.mk (And.intro h (And.intro hN (And.intro hi hlen)))
  have d1 : (i : Int) < (N : Int) := by omega
  have b1 : (N : Int) ≤ 65536 := by omega
  clear h hN hi hlen
  go_enter Try.func29, Try.ntmps29
  go_wp2_with fail
  have ew : IntKind.i64.wrap ((i : Int) + 1) = (i : Int) + 1 := IntWalk.i64_in _ (by omega)
  have K0 := Aside0.mk ((H.out.1.drewN 1).alloc (.cells #[] 64))
  have f0a := blk_at (w := (w.alloc (.cells #[] 64)).drew) K0.out.blk 0 _ rfl
  have f0b := blk_at (w := (w.alloc (.cells #[] 64))) K0.out.blk 0 _ rfl
  have hcap : N ≤ c := by
    have h9 := H.out.1.oe
    rcases h9.2 with ⟨h', _⟩ | ⟨g', cap', cur, h', _, _, hn, _⟩
    · cases h'
    · injection h' with _ _ h3
      have := H.out.2.1
      omega
  have e2 : E.length = N := H.out.2.1
  rw [e2] at f0a f0b
  clear e2
  obtain ⟨i0, hi0, hzz⟩ := Option.map_eq_some_iff.1 infoREvent
  simp only [Prod.mk.injEq] at hzz
  obtain ⟨hz0, hz1, hz2⟩ := hzz
  have d3 : i ≤ c := by omega
  have d4 : i + 1 ≤ N := by omega
  have d5 : i + 1 ≤ c := by omega
  have EM : Aside0 ((w.drew.alloc (.cells #[] 64)).ownsRow 0 64 3 (.slice (some ⟨w.heap.size, 0, none⟩) 0 0) 0 []) := ⟨⟨rfl, .inr ⟨w.heap.size, 0, #[], rfl, Nat.zero_le _, heap_alloc_new w.drew _, Nat.le_refl _, Nat.zero_le _, rfl, rfl⟩⟩⟩
  have LE := Aside0.mk (show (evc (E.take i)).length = i * 3 ∧ (evc (E.drop (i + 1))).length = (N - (i + 1)) * 3 from ⟨by rw [evc_length, List.length_take]; have := H.out.2; rw [Nat.min_eq_left (by omega)], by rw [evc_length, List.length_drop, H.out.2.1]⟩)
  have N1 : Aside0 (∀ j u, (evc (E.take i))[j]? = some u → (w.drew.alloc (.cells #[] 64)).cell? ((⟨g, 0, none⟩ : Addr).add j) = some u) := ⟨fun j u hu => World.ownsRow.cells K0.out.oe (g := g) rfl j u (evc_take_at E i j u hu)⟩
  have hgr : g < w.heap.size := H.out.1.lt g (.inr rfl)
  have hrw : r < w.heap.size := H.out.1.rl
  have hgne : g ≠ r := H.out.1.er g rfl
  have FA : Aside0 (∀ (v1 : Value) (w4 : World), w4.ownsRow 0 64 3 v1 (0 + i) ([] ++ evc (E.take i)) → (w.drew.alloc (.cells #[] 64)).grownBy w4 (some w.heap.size) → (v1.ownBlock = some w.heap.size ∨ v1.ownBlock = some (w.drew.alloc (.cells #[] 64)).heap.size) → ∃ A1 c1, v1 = .slice A1 i c1 ∧ w4.heap[r]? = some (.cells #[.slice (some ⟨g, 0, none⟩) N c, .int .i64 added, .int .i64 clock] 45 (0, 0)) ∧ w4.ownsRow 0 64 3 v1 i (evc (E.take i)) ∧ (∃ d, v1.ownBlock = some d ∧ w.heap.size ≤ d) ∧ Chg (fun _ => False) w w4) := ⟨fun v1 w4 hown hg hat => by
    have ho : w4.ownsRow 0 64 3 v1 i (evc (E.take i)) := by simpa using hown
    obtain ⟨A1, c1, rfl⟩ := own_slice ho
    have hch : Chg (fun _ => False) w w4 := (((Chg.refl (fun _ => False) w).drewN 1).alloc _).grown hg (fun k e hk => by injection e with e; omega)
    refine ⟨A1, c1, rfl, ?_, ho, ?_, hch⟩
    · have := (hch.block r hrw (fun h => h)).trans H.out.1.blk
      rw [H.out.2.1] at this
      exact this
    · rcases hat with e | e
      · exact ⟨_, e, Nat.le_refl _⟩
      · exact ⟨_, e, by simp⟩⟩
  have N2 : Aside0 (∀ (w4 : World), Chg (fun _ => False) w w4 → ∀ j u, (evc (E.drop (i + 1)))[j]? = some u → w4.cell? ((⟨g, (i + 1) * 3, none⟩ : Addr).add j) = some u) := ⟨fun w4 hch j u hu => by
    have h1 := World.ownsRow.cells H.out.1.oe (g := g) rfl ((i + 1) * 3 + j) u (evc_drop_at E (i + 1) j u (by have := H.out.2; omega) hu)
    rw [add_plain] at h1
    rw [add_off]
    rw [← h1]
    exact World.cell?_of_block (hch.block g hgr (fun h => h))⟩
  have FB : Aside0 (∀ (v1 : Value) (w4 : World) (v2 : Value) (w6 : World), ((∃ d, v1.ownBlock = some d ∧ w.heap.size ≤ d) ∧ Chg (fun _ => False) w w4) → w6.ownsRow 0 64 3 v2 (i + (N - (i + 1))) (evc (E.take i) ++ evc (E.drop (i + 1))) → w4.grownBy w6 v1.ownBlock → (v2.ownBlock = v1.ownBlock ∨ v2.ownBlock = some w4.heap.size) → ∃ A2 c2, v2 = .slice A2 (i + (N - (i + 1))) c2 ∧ w6.heap[r]? = some (.cells #[.slice (some ⟨g, 0, none⟩) E.length c, .int .i64 added, .int .i64 clock] 45 (0, 0)) ∧ QRV (w6.setCell ⟨r, 0, none⟩ v2) r v2 (E.take i ++ E.drop (i + 1)) added clock ∧ Chg (RF r (.slice (some ⟨g, 0, none⟩) E.length c)) w (w6.setCell ⟨r, 0, none⟩ v2) ∧ ∃ d, v2.ownBlock = some d ∧ w.heap.size ≤ d) := ⟨fun v1 w4 v2 w6 hv hown hg hat => by
    obtain ⟨⟨d, hd, hd2⟩, hch⟩ := hv
    obtain ⟨A2, c2, rfl⟩ := own_slice hown
    have hch6 : Chg (fun _ => False) w w6 := hch.grown hg (fun k e hk => by rw [hd] at e; injection e with e; omega)
    have hno : ∃ d, (Value.slice A2 (i + (N - (i + 1))) c2).ownBlock = some d ∧ w.heap.size ≤ d := by
      rcases hat with e | e
      · exact ⟨d, e.trans hd, hd2⟩
      · exact ⟨_, e, hch.size⟩
    have hl : (E.take i ++ E.drop (i + 1)).length = i + (N - (i + 1)) := by
      rw [List.length_append, List.length_take, List.length_drop, H.out.2.1]
      have := H.out.2
      rw [Nat.min_eq_left (by omega)]
    have ho : OwnE 64 w6 (Value.slice A2 (i + (N - (i + 1))) c2) (E.take i ++ E.drop (i + 1)) := by
      unfold OwnE
      rw [hl, evc_append]
      exact hown
    have hgw : w.grownBy w6 (Value.slice (some ⟨g, 0, none⟩) E.length c).ownBlock := ⟨hch6.os, hch6.tape, hch6.output, hch6.size, fun k hk _ => hch6.block k hk (fun h => h)⟩
    have P := H.out.1.setE _ ho hgw (.inr hno)
    exact ⟨A2, c2, rfl, P.2.2, P.1, P.2.1, hno⟩⟩
  clear hgr hrw hgne
  have dz : (i : Int) ≤ (i : Int) + 1 := by omega
  have dy : 0 ≤ (i : Int) + 1 := by omega
  have dx : (i : Int) + 1 ≤ (N : Int) := by omega
  by_cases hc : c = i + 1
  · subst hc
    have hz : N - (i + 1) = 0 := by omega
    have FB0 := FB.out
    have LE0 := LE.out.2
    rw [hz] at FB0 LE0
    have FB := Aside0.mk FB0
    have LE2 := Aside0.mk LE0
    clear FB0 LE0 hz
    go_region_law (first | (refine step_append_any rfl (.tmp 5) (.tmp 11) 43 rfl 0 64 i0 zE 3 24 Try.underlying43 hi0 hz0 hz1 hz2 rfl (by decide) (.slice (some ⟨w.heap.size, 0, none⟩) 0 0) 0 [] (by simp [Act.eval, Act.put]) EM.out ⟨g, 0, none⟩ i (i + 1) (evc (E.take i)) (by simp [Act.eval, Act.put]) (LE.out.1) (N1.out) (evc_one _) (by have := H.out.2.2; simp only [maxLen]; omega) (by have := H.out.2.2; omega) (Nat.zero_le _) ?_; intro v1 w4 hown hg hat; have Z := FA.out v1 w4 hown hg hat; obtain ⟨A1, c1, rfl, q4, P4, G4⟩ := Z; have f04 := blk_at q4 0 _ rfl; have P4a := Aside0.mk P4; have G4a := Aside0.mk G4; clear hown hg hat P4 G4 q4) | (refine step_append_any rfl (.tmp 12) (.tmp 19) 43 rfl 0 64 i0 zE 3 24 Try.underlying43 hi0 hz0 hz1 hz2 rfl (by decide) (.slice A1 i c1) i (evc (E.take i)) (by simp [Act.eval, Act.put]) P4a.out ⟨g, 0, none⟩ 0 0 (evc (E.drop (i + 1))) (by simp [Act.eval, Act.put]) LE2.out ((fun j u hu => by have hz : E.drop (i + 1) = [] := List.drop_of_length_le (by have := H.out.2; omega); rw [hz] at hu; cases hu)) (evc_one _) (by have := H.out.2.2; simp only [maxLen]; omega) (by have := H.out.2.2; omega) (Nat.zero_le _) ?_; intro v2 w6 hown hg hat; have Z := FB.out _ w4 v2 w6 G4a.out hown hg hat; obtain ⟨A2, c2, rfl, q6, P6⟩ := Z; have m0 := blk_at q6 0 _ rfl; have m1 := blk_free q6 0; have P6a := Aside0.mk P6; clear hown hg hat P6 q6))
    all_goals (
      go_end0
      exact ⟨rfl, _, P6a.out.1, P6a.out.2.1, .inr P6a.out.2.2⟩)
  · have hc2 : ¬ (i + 1 = c) := fun e => hc e.symm
    go_region_law (first | (refine step_append_any rfl (.tmp 5) (.tmp 11) 43 rfl 0 64 i0 zE 3 24 Try.underlying43 hi0 hz0 hz1 hz2 rfl (by decide) (.slice (some ⟨w.heap.size, 0, none⟩) 0 0) 0 [] (by simp [Act.eval, Act.put]) EM.out ⟨g, 0, none⟩ i c (evc (E.take i)) (by simp [Act.eval, Act.put]) (LE.out.1) (N1.out) (evc_one _) (by have := H.out.2.2; simp only [maxLen]; omega) (by have := H.out.2.2; omega) (Nat.zero_le _) ?_; intro v1 w4 hown hg hat; have Z := FA.out v1 w4 hown hg hat; obtain ⟨A1, c1, rfl, q4, P4, G4⟩ := Z; have f04 := blk_at q4 0 _ rfl; have P4a := Aside0.mk P4; have G4a := Aside0.mk G4; clear hown hg hat P4 G4 q4) | (refine step_append_any rfl (.tmp 12) (.tmp 19) 43 rfl 0 64 i0 zE 3 24 Try.underlying43 hi0 hz0 hz1 hz2 rfl (by decide) (.slice A1 i c1) i (evc (E.take i)) (by simp [Act.eval, Act.put]) P4a.out ⟨g, (i + 1) * 3, none⟩ (N - (i + 1)) (c - (i + 1)) (evc (E.drop (i + 1))) (by simp [Act.eval, Act.put]) LE.out.2 (N2.out w4 G4a.out.2) (evc_one _) (by have := H.out.2.2; simp only [maxLen]; omega) (by have := H.out.2.2; omega) (Nat.zero_le _) ?_; intro v2 w6 hown hg hat; have Z := FB.out _ w4 v2 w6 G4a.out hown hg hat; obtain ⟨A2, c2, rfl, q6, P6⟩ := Z; have m0 := blk_at q6 0 _ rfl; have m1 := blk_free q6 0; have P6a := Aside0.mk P6; clear hown hg hat P6 q6))
    all_goals (
      go_end0
      exact ⟨rfl, _, P6a.out.1, P6a.out.2.1, .inr P6a.out.2.2⟩)
end Go.Proofs.Ytpliaagfhjnnaaa.Ev

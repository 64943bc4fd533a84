import Derived.Test.YtpliaagfhjnnaaaEvS
import Derived.Test.YtpliaagfhjnnaaaEvU
namespace Go.Proofs.Ytpliaagfhjnnaaa.Ev
open Go.RowKit Go.Proofs.YtpliaagfhjnnaaaW.PrintWords Go.Proofs.Ytpliaagfhjnnaaa.Sep Go.Proofs.Ytpliaagfhjnnaaa.HeapP Go.Proofs.Ytpliaagfhjnnaaa.Heap Go.Proofs.Ytpliaagfhjnnaaa.EvP
set_option linter.unusedVariables false
set_option linter.unusedSimpArgs false

set_option maxHeartbeats 2000000 in
set_option maxRecDepth 100000 in
theorem rnext_none {w : World} {G : Nat → Prop} {r : Nat} {added clock : Int} (h : RQ w G r [] added clock) : Calls Try.prog 17 #[.pointer (some ⟨r, 0, none⟩)] w fun e w' => e = .returned (.tuple #[.int .i64 0, .int .i64 0, .bool false]) ∧ ∃ n, w' = w.drewN n := by
  obtain ⟨vE, hv, hG, hl⟩ := h
  have H := Aside0.mk hv
  clear hv hG hl
  go_enter Try.func17, Try.ntmps17
  go_wp2_with (go_at_call 28; (with_reducible refine (first_calls H.out (by decide)).mono ?_); rintro e w1 ⟨b, rfl, hb, hn⟩; have hb1 : b = -1 := (hb.elim (fun q => q.1) (fun ⟨m, _, q, _⟩ => absurd q (by simp))); subst hb1; have N1 := Aside0.mk hn; clear hb hn)
  go_ret3
  exact ⟨rfl, N1.out⟩
set_option maxHeartbeats 4000000 in
set_option maxRecDepth 100000 in
theorem rnext_some {w : World} {G : Nat → Prop} {r : Nat} {E : List EvP.Ev} {added clock last : Int} (h : RQ w G r E added clock) (hs : E.Pairwise (fun a b => a.id < b.id)) (hi : ∀ e ∈ E, 1 ≤ e.id ∧ e.id ≤ last) (hl : last < 4294967296) (hE : 0 < E.length) (hlen : E.length ≤ 65536) : Calls Try.prog 17 #[.pointer (some ⟨r, 0, none⟩)] w fun e w' => ∃ x, MinE E x ∧ e = .returned (.tuple #[.int .i64 x.time, .int .i64 x.data, .bool true]) ∧ RPst w G r (EvP.drop E x.id) added x.time w' := by
  obtain ⟨vE, hv, hG, hGl⟩ := h
  obtain ⟨g, c, rfl, _⟩ := hv.oe.form hE
  have f0 := blk_at hv.blk 0 _ rfl
  have H := Aside0.mk hv
  have GG := Aside0.mk (And.intro hG hGl)
  have B := Aside0.mk (fun (b : Int) (hb : BestE E E.length b) => (best_min hs hi hl hb).resolve_left (fun q => by rw [q.2] at hE; exact absurd hE (by simp)))
  have LN := Aside0.mk (And.intro hlen hs)
  clear hv hG hGl hs hi hl hE hlen
  go_enter Try.func17, Try.ntmps17
  go_upto_region 2 with (go_at_call 28; (with_reducible refine (first_calls H.out LN.out.1).mono ?_); rintro e w1 ⟨b, rfl, hb, n, rfl⟩; have B1 := Aside0.mk (B.out b hb); clear hb)
  obtain ⟨m, rfl, hm, hx⟩ := B1.out
  obtain ⟨⟨id, t, d⟩, hpx⟩ : ∃ x, pe E m = x := ⟨_, rfl⟩
  have Hn := Aside0.mk (And.intro (H.out.drewN n) ((Chg.refl (RF r (.slice (some ⟨g, 0, none⟩) E.length c)) w).drewN n))
  clear f0
  generalize w.drewN n = wn at Hn ⊢
  have f0 := blk_at Hn.out.1.blk 0 _ rfl
  obtain ⟨ci, ct, cd⟩ := Hn.out.1.oe.cells m hm
  rw [hpx] at ci ct cd hx
  simp only at ci ct cd
  have d1 : (m : Int) < (E.length : Int) := by omega
  have d2 : ¬ ((m : Int) < 0) := by omega
  have HX := Aside0.mk (And.intro hx (And.intro hm hpx))
  clear hm hpx hx
  go_upto_region 5 with (fail)
  clear f0 ci ct cd
  have bk := heap_alloc_new wn (.cells #[.int .i64 id, .int .i64 t, .int .i64 d] 64)
  have K1 := Hn.out.1.alloc (.cells #[.int .i64 id, .int .i64 t, .int .i64 d] 64)
  have C1 := Hn.out.2.alloc (.cells #[.int .i64 id, .int .i64 t, .int .i64 d] 64)
  obtain ⟨b6, hb6⟩ : ∃ b6, wn.heap.size = b6 := ⟨_, rfl⟩
  have hw6 : w.heap.size ≤ b6 := by have := Hn.out.2.size; omega
  rw [hb6] at bk ⊢
  generalize wn.alloc (.cells #[.int .i64 id, .int .i64 t, .int .i64 d] 64) = wb at bk K1 C1 ⊢
  have V1 := Aside0.mk (And.intro K1 (And.intro C1 (And.intro bk hw6)))
  have hrb : b6 ≠ r := fun e => by rw [e] at bk; have h2 := K1.blk; rw [h2] at bk; cases bk
  have hgb : b6 ≠ g := fun e => by have := H.out.lt g (.inr rfl); omega
  clear bk K1 C1 hb6 hw6
  go_upto_region 6 with (go_at_call 29; (with_reducible refine (drop_calls V1.out.1 m HX.out.2.1 LN.out.1).mono ?_); rintro e w3 ⟨rfl, v1, hv3, hc3, hat3⟩; have V3 := Aside0.mk (And.intro hv3 (And.intro hc3 hat3)); clear hv3 hc3 hat3)
  have bk3 : w3.heap[b6]? = _ := (V3.out.2.1.block b6 (Array.getElem?_eq_some_iff.1 V1.out.2.2.1).1 (fun q => q.elim hrb (fun q => hgb (by injection q with q; exact q.symm)))).trans V1.out.2.2.1
  have g1 := blk_at bk3 1 _ rfl
  have g2 := blk_at bk3 2 _ rfl
  have f2 := blk_at V3.out.1.blk 2 _ rfl
  have z2 := blk_free V3.out.1.blk 2
  have S3 := Aside0.mk (V3.out.1.setC t)
  clear bk3
  go_wp2_with fail
  go_quiet (fail)
  go_wp2
  go_ret3
  have e1 := drop_at LN.out.2 HX.out.2.1
  have e3 := S3.out.1
  rw [e1, HX.out.2.2] at e3
  refine ⟨⟨id, t, d⟩, HX.out.1, rfl, RQ.new GG.out.1 GG.out.2 (e3.drewN _) (((V1.out.2.1.trans V3.out.2.1 (fun _ _ h => h)).trans S3.out.2 (fun k hk h => ?_)).drewN _) ?_⟩
  · rcases h with h | h
    · exact .inl h
    · rcases V3.out.2.2 with q | ⟨dd, q, hd⟩
      · exact .inr (q.symm.trans h)
      · rw [h] at q
        injection q with q
        have := V1.out.2.1.size
        omega
  · rcases V3.out.2.2 with q | ⟨dd, q, hd⟩
    · exact .inl q
    · exact .inr ⟨dd, q, by have := V1.out.2.1.size; omega⟩
end Go.Proofs.Ytpliaagfhjnnaaa.Ev

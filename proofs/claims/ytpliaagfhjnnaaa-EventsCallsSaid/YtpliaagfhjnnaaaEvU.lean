import Derived.Test.YtpliaagfhjnnaaaEvR
namespace Go.Proofs.Ytpliaagfhjnnaaa.Ev
open Go.RowKit Go.Proofs.YtpliaagfhjnnaaaW.PrintWords Go.Proofs.Ytpliaagfhjnnaaa.Sep Go.Proofs.Ytpliaagfhjnnaaa.HeapP Go.Proofs.Ytpliaagfhjnnaaa.Heap Go.Proofs.Ytpliaagfhjnnaaa.EvP
set_option linter.unusedVariables false
set_option linter.unusedSimpArgs false

theorem best_min {E : List EvP.Ev} {last : Int} (hs : E.Pairwise (fun a b => a.id < b.id)) (hi : ∀ e ∈ E, 1 ≤ e.id ∧ e.id ≤ last) (hl : last < 4294967296) {b : Int} (h : BestE E E.length b) : (b = -1 ∧ E = []) ∨ ∃ m : Nat, b = (m : Int) ∧ m < E.length ∧ MinE E (pe E m) := by
  rcases h with ⟨h1, h2⟩ | ⟨m, h1, h2, h3, h4⟩
  · exact .inl ⟨h1, List.eq_nil_of_length_eq_zero h2⟩
  · refine .inr ⟨m, h1, h2, pe_mem h2, fun e he => ?_⟩
    obtain ⟨k, hk, e1⟩ := List.getElem_of_mem he
    have hpk : pe E k = e := by rw [pe_get hk]; exact e1
    have hk2 := h4 k hk
    have i1 := hi e he
    have i2 := hi _ (pe_mem h2)
    rw [hpk] at hk2
    unfold EvP.rank
    rcases Nat.lt_trichotomy k m with c | c | c
    · have := h3 k c
      rw [hpk] at this
      omega
    · subst c
      rw [hpk]
      exact Int.le_refl _
    · have h5 : (pe E m).id < (pe E k).id := by
        rw [pe_get h2, pe_get hk]
        exact List.pairwise_iff_getElem.1 hs m k h2 hk c
      rw [hpk] at h5
      omega
set_option maxHeartbeats 2000000 in
set_option maxRecDepth 100000 in
theorem rpeek_none {w : World} {G : Nat → Prop} {r : Nat} {added clock : Int} (h : RQ w G r [] added clock) : Calls Try.prog 20 #[.pointer (some ⟨r, 0, none⟩)] w fun e w' => e = .returned (.tuple #[.int .i64 0, .bool false]) ∧ ∃ n, w' = w.drewN n := by
  obtain ⟨vE, hv, hG, hl⟩ := h
  have H := Aside0.mk hv
  clear hv hG hl
  go_enter Try.func20, Try.ntmps20
  go_wp2_with (go_at_call 28; (with_reducible refine (first_calls H.out (by decide)).mono ?_); rintro e w1 ⟨b, rfl, hb, hn⟩; have hb1 : b = -1 := (hb.elim (fun q => q.1) (fun ⟨m, _, q, _⟩ => absurd q (by simp))); subst hb1; have N1 := Aside0.mk hn; clear hb hn)
  go_ret2
  exact ⟨rfl, N1.out⟩
set_option maxHeartbeats 2000000 in
set_option maxRecDepth 100000 in
theorem rpeek_some {w : World} {G : Nat → Prop} {r : Nat} {E : List EvP.Ev} {added clock last : Int} (h : RQ w G r E added clock) (hs : E.Pairwise (fun a b => a.id < b.id)) (hi : ∀ e ∈ E, 1 ≤ e.id ∧ e.id ≤ last) (hl : last < 4294967296) (hE : 0 < E.length) (hlen : E.length ≤ 65536) : Calls Try.prog 20 #[.pointer (some ⟨r, 0, none⟩)] w fun e w' => ∃ x, MinE E x ∧ e = .returned (.tuple #[.int .i64 x.time, .bool true]) ∧ ∃ n, w' = w.drewN n := by
  obtain ⟨vE, hv, hG, hGl⟩ := h
  obtain ⟨g, c, rfl, _⟩ := hv.oe.form hE
  have f0 := blk_at hv.blk 0 _ rfl
  have H := Aside0.mk hv
  have B := Aside0.mk (fun (b : Int) (hb : BestE E E.length b) => (best_min hs hi hl hb).resolve_left (fun q => by rw [q.2] at hE; exact absurd hE (by simp)))
  have LN := Aside0.mk hlen
  clear hv hG hGl hs hi hl hE hlen
  go_enter Try.func20, Try.ntmps20
  go_upto_region 2 with (go_at_call 28; (with_reducible refine (first_calls H.out LN.out).mono ?_); rintro e w1 ⟨b, rfl, hb, n, rfl⟩; have B1 := Aside0.mk (B.out b hb); clear hb)
  obtain ⟨m, rfl, hm, hx⟩ := B1.out
  obtain ⟨x, hpx⟩ : ∃ x, pe E m = x := ⟨_, rfl⟩
  have ct := (H.out.oe.cells m hm).2.1
  rw [hpx] at ct hx
  have d1 : (m : Int) < (E.length : Int) := by omega
  have d2 : ¬ ((m : Int) < 0) := by omega
  have HX := Aside0.mk hx
  clear hm hpx hx
  go_wp2
  go_ret2
  exact ⟨x, HX.out, rfl, n, rfl⟩
end Go.Proofs.Ytpliaagfhjnnaaa.Ev

import Derived.Test.YtpliaagfhjnnaaaEvS
namespace Go.Proofs.Ytpliaagfhjnnaaa.Ev
open Go.RowKit Go.Proofs.YtpliaagfhjnnaaaW.PrintWords Go.Proofs.Ytpliaagfhjnnaaa.Sep Go.Proofs.Ytpliaagfhjnnaaa.HeapP Go.Proofs.Ytpliaagfhjnnaaa.Heap Go.Proofs.Ytpliaagfhjnnaaa.EvP
set_option linter.unusedVariables false
set_option linter.unusedSimpArgs false

def RCanc (w : World) (G : Nat → Prop) (r : Nat) (E : List EvP.Ev) (added clock id : Int) (e : Ending) (w' : World) : Prop :=
  ((∀ x ∈ E, x.id ≠ id) ∧ e = .returned (.int .i64 8) ∧ w' = w) ∨ ((∃ x ∈ E, x.id = id) ∧ e = .returned (.int .i64 0) ∧ RPst w G r (EvP.drop E id) added clock w')
set_option maxHeartbeats 4000000 in
set_option maxRecDepth 100000 in
theorem rcancel_calls {w : World} {G : Nat → Prop} {r : Nat} {E : List EvP.Ev} {added clock : Int} (h : RQ w G r E added clock) (hs : E.Pairwise (fun a b => a.id < b.id)) (hlen : E.length ≤ 65536) (id : Int) : Calls Try.prog 18 #[.pointer (some ⟨r, 0, none⟩), .int .i64 id] w fun e w' => RCanc w G r E added clock id e w' := by
  obtain ⟨vE, hv, hG, hGl⟩ := h
  obtain ⟨A, c, rfl⟩ := hv.oe.slice
  have f0 := blk_at hv.blk 0 _ rfl
  have H := Aside0.mk hv
  have GG := Aside0.mk (And.intro hG (And.intro hGl (And.intro hs hlen)))
  obtain ⟨N, hN⟩ : ∃ N, E.length = N := ⟨_, rfl⟩
  rw [hN] at f0
  have HN := Aside0.mk hN
  have b1 : (N : Int) ≤ 65536 := by omega
  clear hv hG hGl hs hlen hN
  go_enter Try.func18, Try.ntmps18
  go_wp2
  go_loopg [5] N (fun g v wr => ∃ i : Nat, v = .int .i64 (i : Int) ∧ N - i ≤ g ∧ i ≤ N ∧ Aside0 (∀ k, k < i → (pe E k).id ≠ id) ∧ wr = w)
  case atStart => exact ⟨0, rfl, by omega, by omega, ⟨fun k hk => absurd hk (by omega)⟩, rfl⟩
  case round =>
    obtain ⟨i, rfl, hg, hi, hn, rfl⟩ := hrel
    by_cases hlt : i < N
    · obtain ⟨ga, ca, ea, _⟩ := H.out.oe.form (by have := HN.out; omega)
      injection ea with ea _ _
      subst ea
      have ci := (H.out.oe.cells i (by have := HN.out; omega)).1
      obtain ⟨x, hx⟩ : ∃ x, (pe E i).id = x := ⟨_, rfl⟩
      rw [hx] at ci
      have HX := Aside0.mk (And.intro hx (And.intro hg hlt))
      have d1 : (i : Int) < (N : Int) := by omega
      clear hg hi hlt hx
      by_cases hxid : x = id
      · subst hxid
        go_wp2_with (go_at_call 29; (with_reducible refine (drop_calls H.out i (by have := HN.out; have := HX.out; omega) GG.out.2.2.2).mono ?_); rintro e w3 ⟨rfl, v1, hv3, hc3, hat3⟩; have V3 := Aside0.mk (And.intro hv3 (And.intro hc3 hat3)); clear hv3 hc3 hat3)
        go_ret
        have hil : i < E.length := by have := HN.out; have := HX.out; omega
        have e1 := drop_at GG.out.2.2.1 hil
        have e3 := V3.out.1
        rw [e1, HX.out.1] at e3
        exact .inr ⟨⟨_, pe_mem hil, HX.out.1⟩, rfl, RQ.new GG.out.1 GG.out.2.1 e3 V3.out.2.1 V3.out.2.2⟩
      · have d2 : (x == id) = false := beq_eq_false_iff_ne.2 hxid
        have HNE := Aside0.mk hxid
        clear hxid
        go_wp2
        go_roundg (N - (i + 1))
        case measure => have := HX.out; omega
        case rel =>
          refine ⟨i + 1, by go_num, by omega, by have := HX.out; omega, ⟨fun k hk => ?_⟩, rfl⟩
          by_cases c : k = i
          · subst c
            rw [HX.out.1]
            exact HNE.out
          · exact hn.out k (by omega)
    · obtain rfl : i = N := by omega
      clear hg hi hlt
      go_wp2
      go_ret
      refine .inl ⟨fun x hx => ?_, rfl, rfl⟩
      obtain ⟨k, hk, e⟩ := List.getElem_of_mem hx
      have := hn.out k (by have := HN.out; omega)
      rw [pe_get hk, e] at this
      exact this
end Go.Proofs.Ytpliaagfhjnnaaa.Ev

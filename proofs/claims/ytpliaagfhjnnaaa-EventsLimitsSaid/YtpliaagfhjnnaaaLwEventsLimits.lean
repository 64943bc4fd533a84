/- The walk of the law EventsLimits. -/
import Derived.Test.YtpliaagfhjnnaaaEvH
namespace Go.Proofs.Ytpliaagfhjnnaaa.Ev
open Go.RowKit Go.Proofs.YtpliaagfhjnnaaaW.PrintWords Go.Proofs.Ytpliaagfhjnnaaa.Sep Go.Proofs.Ytpliaagfhjnnaaa.HeapP Go.Proofs.Ytpliaagfhjnnaaa.Heap Go.Proofs.Ytpliaagfhjnnaaa.EvP
set_option linter.unusedVariables false

theorem addErr_ok {now t : Int} {n : Nat} (h0 : 0 ≤ now) (h1 : now ≤ t) (h2 : t ≤ 1073741824) (h3 : n < 65536) : addErr now t n = 0 := by
  unfold addErr
  rw [if_neg (by omega), if_neg (by omega), if_neg (by omega), if_neg (by omega)]
theorem addErr_arg {now t : Int} {n : Nat} (h : t < 0 ∨ 1073741824 < t) : addErr now t n = 1 := by
  unfold addErr
  by_cases c : t < 0
  · rw [if_pos c]
  · rw [if_neg c, if_pos (by omega)]
theorem addErr_full {now t : Int} {n : Nat} (h0 : 0 ≤ now) (h1 : now ≤ t) (h2 : t ≤ 1073741824) (h3 : 65536 ≤ n) : addErr now t n = 6 := by
  unfold addErr
  rw [if_neg (by omega), if_neg (by omega), if_neg (by omega), if_pos (by omega)]
def waypointlaw51_EventsLimits.f (_ a1 : Int) : Option Bool := if 0 ≤ a1 ∧ a1 ≤ 255 then some true else none
set_option maxHeartbeats 8000000 in
set_option maxRecDepth 100000 in
theorem waypointlaw51_EventsLimits.calls (a0 a1 : Int) (r : Bool) (w : World) (h : waypointlaw51_EventsLimits.f a0 a1 = some r) : Calls Try.prog 5 #[.int .i64 a0, .int .u8 a1] w fun e w' => e = .returned (.bool r) ∧ Below w.heap.size w w' := by
  unfold waypointlaw51_EventsLimits.f at h
  split at h
  case isFalse => cases h
  rename_i hb
  obtain rfl : true = r := by simpa using h
  clear h
  obtain ⟨b0, b1⟩ := hb
  have hA : ∃ (er : Int) (W : World → World → Prop), True := ⟨0, fun _ _ => True, trivial⟩
  clear hA
  obtain ⟨m, hm⟩ : ∃ m, a1 % 32 = m := ⟨_, rfl⟩
  have hm2 : a1.tmod 32 = m := by rw [Int.tmod_eq_emod_of_nonneg b0]; exact hm
  have hm3 : m = 0 ∨ m ≠ 0 := by omega
  have hcase : (0 ≤ a0 ∧ a0 ≤ 1073741824) ∨ (a0 < 0) ∨ (0 ≤ a0 ∧ 1073741824 < a0) := by omega
  clear hm
  go_enter Try.func5, Try.ntmps5
  go_upto_region 4 with (first | (go_at_call 9; (with_reducible refine (awake_calls _).mono ?_); rintro e w1 ⟨rfl, h1⟩; have H0 := Aside0.mk h1; clear h1) | (go_at_call 10; (with_reducible refine (q_new H0.out).mono ?_); rintro e w2 ⟨p, rfl, h2⟩; have H1 := Aside0.mk h2; clear h2))
  rcases hcase with ⟨t0, t1⟩ | t0 | ⟨t0, t1⟩
  case' inl => have QA := Aside0.mk (show Calls Try.prog 11 #[.pointer (some ⟨p, 0, none⟩), .int .i64 a0, .int .i64 1] w2 fun e w' => e = .returned (.tuple #[.int .i64 1, .int .i64 0]) ∧ Below w.heap.size w w' from (q_add_ok H1.out a0 1 1 _ rfl rfl (addErr_ok (by decide) t0 t1 (by decide)) (by decide)).mono fun e w1 he => ⟨he.1, he.2.1.below⟩)
  case' inr.inl => have QA := Aside0.mk (show Calls Try.prog 11 #[.pointer (some ⟨p, 0, none⟩), .int .i64 a0, .int .i64 1] w2 fun e w' => e = .returned (.tuple #[.int .i64 0, .int .i64 1]) ∧ Below w.heap.size w w' from (q_add_no H1.out a0 1 1 (addErr_arg (.inl t0)) (by decide)).mono fun e w1 he => ⟨he.1, he.2 ▸ H1.out.below⟩)
  case' inr.inr => have QA := Aside0.mk (show Calls Try.prog 11 #[.pointer (some ⟨p, 0, none⟩), .int .i64 a0, .int .i64 1] w2 fun e w' => e = .returned (.tuple #[.int .i64 0, .int .i64 1]) ∧ Below w.heap.size w w' from (q_add_no H1.out a0 1 1 (addErr_arg (.inr t1)) (by decide)).mono fun e w1 he => ⟨he.1, he.2 ▸ H1.out.below⟩)
  all_goals (
    rcases hm3 with hm0 | hm0
    case' inr =>
      go_wp2_with (go_at_call 11; (with_reducible refine QA.out.mono ?_); rintro e w3 ⟨rfl, h3⟩; have H3 := Aside0.mk h3; clear h3)
      go_ret
      exact ⟨rfl, H3.out⟩
    subst hm0
    go_wp2_with (first | (go_at_call 11; (with_reducible refine QA.out.mono ?_); rintro e w3 ⟨rfl, h3⟩; have H3 := Aside0.mk h3; clear h3) | (go_at_call 10; (with_reducible refine (q_new H3.out).mono ?_); rintro e w4 ⟨q, rfl, h4⟩; have H4 := Aside0.mk h4; clear h4))
    go_loopg [45] 65536 (fun g v wr => ∃ (i : Nat) (E : List EvP.Ev), v = .int .i64 (i : Int) ∧ 65536 - i ≤ g ∧ i ≤ 65536 ∧ Aside0 (QS w wr (fun _ => False) q E (i : Int) 0 ∧ E.length = i ∧ (5 ≤ i → ∃ x ∈ E, x.id = 5)))
    case atStart => exact ⟨0, [], rfl, by omega, by omega, ⟨H4.out, rfl, fun h => absurd h (by decide)⟩⟩
    case round =>
      obtain ⟨i, E, rfl, hg, hi, R⟩ := hrel
      by_cases hlt : i < 65536
      · have GG := Aside0.mk (And.intro hg (And.intro hi hlt))
        have d1 : (i : Int) < 65536 := by omega
        obtain ⟨k, hk⟩ : ∃ k, (i : Int) % 7 = k := ⟨_, rfl⟩
        have e2 : (i : Int).tmod 7 = k := by rw [Int.tmod_eq_emod_of_nonneg (by omega)]; exact hk
        have A1 := Aside0.mk (show addErr 0 k E.length = 0 from addErr_ok (by decide) (by omega) (by omega) (by rw [R.out.2.1]; exact hlt))
        clear hg hi hlt hk
        go_wp2_with (go_at_call 11; (with_reducible refine (q_add_ok R.out.1 k (i : Int) ((i + 1 : Nat) : Int) _ (by omega) rfl A1.out (by have := GG.out; omega)).mono ?_); rintro e w5 ⟨rfl, h5, _⟩; have H5 := Aside0.mk h5; clear h5)
        go_roundg (65536 - (i + 1))
        case measure => have := GG.out; omega
        case rel =>
          refine ⟨i + 1, _, by go_num, by omega, by have := GG.out; omega, ⟨H5.out, by rw [List.length_append, R.out.2.1]; rfl, fun h => ?_⟩⟩
          by_cases h4 : i = 4
          · exact ⟨_, List.mem_append_right _ (List.mem_singleton.2 rfl), by subst h4; rfl⟩
          · obtain ⟨x, hx, e⟩ := R.out.2.2 (by omega)
            exact ⟨x, List.mem_append_left _ hx, e⟩
      · obtain rfl : i = 65536 := by omega
        clear hg hi hlt
        have hl : (E.length : Int) = 65536 := by rw [R.out.2.1]; rfl
        have HL := Aside0.mk hl
        have A1 := Aside0.mk (show addErr 0 1 E.length = 6 from addErr_full (by decide) (by decide) (by decide) (by rw [R.out.2.1]; exact Nat.le_refl _))
        have hx := R.out.2.2 (by decide)
        have HX := Aside0.mk hx
        have A2 := Aside0.mk (show addErr 0 1 (EvP.drop E 5).length = 0 from addErr_ok (by decide) (by decide) (by decide) (by
          obtain ⟨x, hx, e⟩ := hx
          have h1 := drop_len R.out.1.facts.1 hx
          rw [e] at h1
          have := R.out.2.1
          omega))
        clear hl hx
        go_wp2_with (first | (go_at_call 11; (with_reducible refine (q_add_ok H6.out 1 1 65537 _ rfl rfl A2.out (by decide)).mono ?_); rintro e w7 ⟨rfl, h7, _⟩; have H7 := Aside0.mk h7; clear h7) | (go_at_call 11; (with_reducible refine (q_add_no R.out.1 1 1 6 A1.out (by decide)).mono ?_); rintro e w5 ⟨rfl, h5⟩; obtain rfl := h5.symm) | (go_at_call 13; (with_reducible refine (q_len R.out.1).mono ?_); rintro e w5 ⟨rfl, h5⟩; obtain rfl := h5.symm; rw [HL.out]) | (go_at_call 14; (with_reducible refine (q_cancel_yes R.out.1 5 (by decide) HX.out rfl (by decide)).mono ?_); rintro e w6 ⟨rfl, h6, _⟩; have H6 := Aside0.mk h6; clear h6))
        go_ret
        exact ⟨rfl, H7.out.below⟩)
end Go.Proofs.Ytpliaagfhjnnaaa.Ev

/- The walk of the law EventsSorted. -/
import Derived.Test.YtpliaagfhjnnaaaEvI
namespace Go.Proofs.Ytpliaagfhjnnaaa.Ev
open Go.RowKit Go.Proofs.YtpliaagfhjnnaaaW.PrintWords Go.Proofs.Ytpliaagfhjnnaaa.Sep Go.Proofs.Ytpliaagfhjnnaaa.HeapP Go.Proofs.Ytpliaagfhjnnaaa.Heap Go.Proofs.Ytpliaagfhjnnaaa.EvP
set_option linter.unusedVariables false
set_option linter.unusedSimpArgs false

def timesOk (l : List Int) : Bool := l.all fun x => decide (0 ≤ x) && decide (x ≤ 65535)
theorem timesOk_at {l : List Int} (h : timesOk l = true) (i : Nat) : 0 ≤ l.getD i 0 ∧ l.getD i 0 ≤ 65535 := by
  simp only [timesOk, List.all_eq_true, Bool.and_eq_true, decide_eq_true_eq] at h
  rcases Nat.lt_or_ge i l.length with hi | hi
  · exact h (l.getD i 0) (by simp [List.getD_eq_getElem?_getD, List.getElem?_eq_getElem hi])
  · simp [List.getD_eq_getElem?_getD, List.getElem?_eq_none hi]
def waypointlaw51_EventsSorted.f (l : List Int) : Option Bool := if timesOk l = true then some true else none
set_option maxHeartbeats 8000000 in
set_option maxRecDepth 100000 in
theorem waypointlaw51_EventsSorted.calls (A0 : Option Addr) (c0 : Nat) (l0 : List Int) (r : Bool) (w : World) (hr0 : Kd.C (Kd.int .u16) w A0 l0.length l0) (hc0 : l0.length ≤ c0) (h : waypointlaw51_EventsSorted.f l0 = some r) : Calls Try.prog 6 #[.slice A0 l0.length c0] w fun e w' => e = .returned (.bool r) ∧ Below w.heap.size w w' := by
  unfold waypointlaw51_EventsSorted.f at h
  split at h
  case isFalse => cases h
  rename_i hok
  obtain rfl : true = r := by simpa using h
  clear h
  obtain ⟨ad, hA⟩ := arg_ints hr0
  have AA := Aside0.mk hA
  have AO := Aside0.mk (timesOk_at hok)
  clear hr0 hA hok
  by_cases h1 : 300 < l0.length
  · have d1 : 300 < (l0.length : Int) := by omega
    clear hc0
    go_enter Try.func6, Try.ntmps6
    go_wp2_with (go_at_call 9; (with_reducible refine (awake_calls _).mono ?_); rintro e w1 ⟨rfl, h1⟩; have H1 := Aside0.mk h1; clear h1)
    go_ret
    exact ⟨rfl, H1.out⟩
  · have d1 : ¬ (300 < (l0.length : Int)) := by omega
    have d2 : decide (300 < (l0.length : Int)) = false := decide_eq_false d1
    obtain ⟨N, hN⟩ : ∃ N, l0.length = N := ⟨_, rfl⟩
    have HN := Aside0.mk (And.intro hN (show N ≤ 300 by omega))
    rw [hN] at d1 d2 ⊢
    have b1 : (N : Int) ≤ 300 := by omega
    have hmk := fun W => Go.run_make_row' (P := Try.prog) 34 4 (.bool false) 1 Try.underlying34 infoBool rfl .i64 .i64 N (by omega) (by omega) W
    have MK := Aside0.mk hmk
    clear hc0 h1 hN hmk
    go_enter Try.func6, Try.ntmps6
    go_wp2_with (first | (go_at_call 9; (with_reducible refine (awake_calls _).mono ?_); rintro e w1 ⟨rfl, h1⟩; have H1 := Aside0.mk h1; clear h1) | (go_at_call 10; (with_reducible refine (q_new H1.out).mono ?_); rintro e w2 ⟨q, rfl, h2⟩; have H2 := Aside0.mk h2; clear h2))
    go_loopg [24] N (fun g v wr => ∃ j : Nat, v = .int .i64 (j : Int) ∧ N - j ≤ g ∧ j ≤ N ∧ Aside0 (QS w wr (fun _ => False) q (evs l0 j) (j : Int) 0))
    case atStart => exact ⟨0, rfl, by omega, by omega, ⟨H2.out⟩⟩
    case round =>
      obtain ⟨j, rfl, hg, hj, R⟩ := hrel
      by_cases hlt : j < N
      · have GG := Aside0.mk (And.intro hg hlt)
        obtain ⟨rfl, hcell⟩ := (AA.out.resolve_left (by have := HN.out.1; omega))
        have cm := hcell j (by have := HN.out.1; omega) wr R.out.below
        have hx0 := AO.out j
        obtain ⟨x, hx⟩ : ∃ x, l0.getD j 0 = x := ⟨_, rfl⟩
        rw [hx] at cm hx0
        have HX := Aside0.mk hx
        obtain ⟨x0, x1⟩ := hx0
        have ew : IntKind.i64.wrap x = x := IntWalk.i64_in _ (by omega)
        have d3 : (j : Int) < (N : Int) := by omega
        have b2 : (j : Int) ≤ 300 := by omega
        have A1 := Aside0.mk (show addErr 0 x (evs l0 j).length = 0 from addErr_ok2 (by decide) x0 (by omega) (by rw [evs_length]; omega))
        clear hg hj hlt hx hcell
        go_wp2_with (go_at_call 11; (with_reducible refine (q_add_ok R.out x (j : Int) ((j : Int) + 1) _ rfl rfl A1.out (by omega)).mono ?_); rintro e w3 ⟨rfl, h3, _⟩; have H3 := Aside0.mk h3; clear h3)
        go_roundg (N - (j + 1))
        case measure => have := GG.out; omega
        case rel =>
          refine ⟨j + 1, by go_num, by omega, by have := GG.out; omega, ⟨?_⟩⟩
          have h4 := H3.out
          rw [← HX.out] at h4
          rw [evs_succ]
          exact h4
      · obtain rfl : j = N := by omega
        clear hg hj hlt
        have hmk := MK.out
        have S0 : SortQ w q wr.heap.size j l0 (j : Int) (wr.alloc (.cells (madeCells #[.bool false] j) 4)) 0 (evs l0 j) (List.replicate j false) 0 (-1) := by
          refine ⟨R.out.beside _ ((Chg.refl _ _).alloc _) (fun k e => ⟨by rw [e]; simp, .inl (by omega)⟩), fun e he => ?_, by rw [evs_length]; rfl, by simp, own_falses wr j (by have := HN.out.2; omega), R.out.below.size, .inl rfl⟩
          obtain ⟨k, hk, e1⟩ := mem_evs he
          refine ⟨k, hk, e1, ?_⟩
          simp [gb, List.getD_eq_getElem?_getD, List.getElem?_replicate, hk]
        have SS := Aside0.mk S0.drew
        obtain ⟨gs, hgs⟩ : ∃ gs, wr.heap.size = gs := ⟨_, rfl⟩
        rw [hgs] at SS
        clear S0
        go_wp2_with fail
        go_region
        go_wp2_with fail
        generalize World.drew (wr.alloc (.cells (madeCells #[.bool false] j) 4)) = wa at SS ⊢
        clear hgs hmk R
        go_loopg [51, 8] j (fun g v u wr => ∃ (m : Nat) (E : List EvP.Ev) (seen : List Bool) (now la : Int), v = .int .i64 (m : Int) ∧ u = .int .i64 la ∧ j - m ≤ g ∧ m ≤ j ∧ Aside0 (SortQ w q gs j l0 (j : Int) wr m E seen now la))
        case atStart => exact ⟨0, _, _, _, _, rfl, rfl, by omega, by omega, SS⟩
        case round =>
          obtain ⟨m, E, seen, now, la, rfl, rfl, hg, hm, R⟩ := hrel
          by_cases hlt : m < j
          · have GG := Aside0.mk (And.intro hg (And.intro hm hlt))
            have d3 : (m : Int) < (j : Int) := by omega
            clear hg hm hlt
            go_upto_region 17 with (go_at_call 12; (with_reducible refine (q_next_some R.out.ho (by have := R.out.el; have := GG.out; omega) (by omega)).mono ?_); rintro e w3 ⟨x, hx, rfl, h3, hc3⟩; have H3 := Aside0.mk (And.intro hx (And.intro h3 hc3)); clear hx h3 hc3)
            obtain ⟨rfl, hcell⟩ := AA.out.resolve_left (by have := HN.out.1; have := GG.out; omega)
            obtain ⟨k, hk, hxk, hsk⟩ := R.out.form x H3.out.1.1
            have h3b := H3.out.2.1
            have hB3 : Below w.heap.size w w3 := h3b.below
            have ck := hcell k (by have := HN.out.1; omega) w3 hB3
            have hX0 := AO.out k
            obtain ⟨X, hX⟩ : ∃ X, l0.getD k 0 = X := ⟨_, rfl⟩
            rw [hX] at ck hX0
            obtain ⟨x0, x1⟩ := hX0
            have ew : IntKind.i64.wrap X = X := IntWalk.i64_in _ (by omega)
            have ht : x.time = X := by rw [hxk]; exact hX
            have hd : x.data = (k : Int) := by rw [hxk]; rfl
            rw [ht] at h3b
            rw [ht, hd]
            have se3 : OwnB 4 w3 (.slice (some ⟨gs, 0, none⟩) j j) seen := R.out.se.blocks (fun k hk => H3.out.2.2.block k (by rw [ob hk]; exact R.out.gs_lt) (fun q => q.2 (ob hk)))
            have cs := se3.cell k (by have := R.out.sl; omega)
            have fs := se3.free k
            rw [show seen.getD k false = false from hsk] at cs
            have d4 : (k : Int) < (j : Int) := by omega
            have d5 : ¬ ((j : Int) ≤ (k : Int)) := by omega
            have d6 : decide ((j : Int) ≤ (k : Int)) = false := decide_eq_false d5
            have d9 : decide (j ≤ k) = false := decide_eq_false (by omega)
            have hx2 := H3.out.1
            have h32 := h3b
            have hc3 := H3.out.2.2
            rw [hxk] at hx2 h32
            have S1 := Aside0.mk (fun n => R.out.step hx2 hk (h32.drewN n) (hc3.drewN n))
            have N3 := Aside0.mk h3b
            have HX := Aside0.mk hX
            rcases R.out.la_ with hla | ⟨i0, hla, il0, hmin⟩
            · subst hla
              clear hcell hB3 se3 hX h3b hx2 h32 hc3 hxk hsk ht hd H3
              go_wp2_with (go_at_call 15; (with_reducible refine (q_now N3.out).mono ?_); rintro e w5 ⟨rfl, h5⟩; obtain rfl := h5.symm)
              go_quiet (fail)
              go_wp2
              go_roundg (j - (m + 1))
              case measure => have := GG.out; omega
              case rel => exact ⟨m + 1, _, _, _, (k : Int), by go_num, rfl, by omega, by have := GG.out; omega, ⟨S1.out _⟩⟩
            · subst hla
              have c0 := hcell i0 (by have := HN.out.1; omega) w3 hB3
              obtain ⟨Y, hY⟩ : ∃ Y, l0.getD i0 0 = Y := ⟨_, rfl⟩
              rw [hY] at c0
              have hn := hmin x H3.out.1.1
              rw [hxk] at hn
              simp only [EvP.rank, evAt] at hn
              rw [hX, hY] at hn
              have d7 : (i0 : Int) < (j : Int) := by omega
              have d8 : decide (X < Y) = false := decide_eq_false (by omega)
              clear hcell hB3 se3 hX h3b hx2 h32 hc3 hxk hsk ht hd H3 hmin hY il0
              by_cases hxy : Y = X
              · subst hxy
                have e1 : decide ((k : Int) < (i0 : Int)) = false := decide_eq_false (by omega)
                have e2 : decide (k < i0) = false := decide_eq_false (by omega)
                clear hn
                go_wp2_with (go_at_call 15; (with_reducible refine (q_now N3.out).mono ?_); rintro e w5 ⟨rfl, h5⟩; obtain rfl := h5.symm)
                go_quiet (fail)
                go_wp2
                go_roundg (j - (m + 1))
                case measure => have := GG.out; omega
                case rel => exact ⟨m + 1, _, _, _, (k : Int), by go_num, rfl, by omega, by have := GG.out; omega, ⟨S1.out _⟩⟩
              · have e1 : (Y == X) = false := beq_eq_false_iff_ne.2 hxy
                clear hn hxy
                go_wp2_with (go_at_call 15; (with_reducible refine (q_now N3.out).mono ?_); rintro e w5 ⟨rfl, h5⟩; obtain rfl := h5.symm)
                go_quiet (fail)
                go_wp2
                go_roundg (j - (m + 1))
                case measure => have := GG.out; omega
                case rel => exact ⟨m + 1, _, _, _, (k : Int), by go_num, rfl, by omega, by have := GG.out; omega, ⟨S1.out _⟩⟩
          · obtain rfl : m = j := by omega
            clear hg hm hlt
            have hE : E = [] := List.eq_nil_of_length_eq_zero (by have := R.out.el; omega)
            subst hE
            have QE := Aside0.mk R.out.ho
            clear R
            go_wp2_with (first | (go_at_call 12; (with_reducible refine (q_next_none QE.out).mono ?_); rintro e w3 ⟨rfl, h3⟩; obtain rfl := h3.symm) | (go_at_call 13; (with_reducible refine (q_len QE.out).mono ?_); rintro e w3 ⟨rfl, h3⟩; obtain rfl := h3.symm))
            go_ret
            exact ⟨rfl, QE.out.below⟩
end Go.Proofs.Ytpliaagfhjnnaaa.Ev

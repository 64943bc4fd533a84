/- The walk of the law HeapChanged. -/
import Derived.Test.YtpgnefojifiopaaLwHeapCalls
namespace Go.Proofs.Ytpgnefojifiopaa.Heap
open Go.RowKit Go.Proofs.YtpgnefojifiopaaW.PrintWords Go.Proofs.Ytpgnefojifiopaa.Sep Go.Proofs.Ytpgnefojifiopaa.HeapP
set_option linter.unusedVariables false

def waypointlaw03_HeapChanged.f (_ : List Int) (_ : List S37) (_ : List Int) : Option Bool := some true
theorem arg_pairs {w : World} {A : Option Addr} {l : List S37} (h : Kd.C k37 w A l.length l) : ∃ ad : Addr, l.length = 0 ∨ (A = some ad ∧ ∀ i, i < l.length → ∀ w', Below w.heap.size w w' → w'.cell? (ad.add (i * 2)) = some (.int .i64 (l.getD i z37).f0) ∧ w'.cell? ⟨(ad.add (i * 2)).block, (ad.add (i * 2)).off + 1, none⟩ = some (.int .i64 (l.getD i z37).f1)) := by
  rcases Nat.eq_zero_or_pos l.length with h0 | h0
  · exact ⟨⟨0, 0, none⟩, .inl h0⟩
  · obtain ⟨ad, rfl, _⟩ := at_T37 h 0 (by omega) (by omega)
    refine ⟨ad, .inr ⟨rfl, fun i hi w' hb => ?_⟩⟩
    obtain ⟨ad2, e, c0, c1⟩ := at_T37 h (i : Int) (by omega) (by omega)
    injection e with e
    subst e
    have e2 : rd_T37 l (i : Int) = l.getD i z37 := by simp [rd_T37]
    rw [e2, Int.toNat_natCast] at c0 c1
    exact ⟨pw_cell_below hb c0, pw_cell_below hb c1⟩
set_option maxHeartbeats 16000000 in
set_option maxRecDepth 100000 in
theorem waypointlaw03_HeapChanged.calls (A0 : Option Addr) (c0 : Nat) (l0 : List Int) (A1 : Option Addr) (c1 : Nat) (l1 : List S37) (A2 : Option Addr) (c2 : Nat) (l2 : List Int) (r : Bool) (w : World) (hr0 : Kd.C (Kd.int .i64) w A0 l0.length l0) (hc0 : l0.length ≤ c0) (hr1 : Kd.C k37 w A1 l1.length l1) (hc1 : l1.length ≤ c1) (hr2 : Kd.C (Kd.int .u8) w A2 l2.length l2) (hc2 : l2.length ≤ c2) (h : waypointlaw03_HeapChanged.f l0 l1 l2 = some r) : Calls Try.prog 4 #[.slice A0 l0.length c0, .slice A1 l1.length c1, .slice A2 l2.length c2] w fun e w' => e = .returned (.bool r) ∧ Below w.heap.size w w' := by
  obtain rfl : true = r := by simpa [waypointlaw03_HeapChanged.f] using h
  obtain ⟨ad0, hA0⟩ := arg_ints hr0
  obtain ⟨ad1, hA1⟩ := arg_pairs hr1
  obtain ⟨ad2, hA2⟩ := arg_ints hr2
  have AA0 := Aside0.mk hA0
  have AA1 := Aside0.mk hA1
  have AA2 := Aside0.mk hA2
  obtain ⟨N, hN⟩ : ∃ N, l0.length = N := ⟨_, rfl⟩
  obtain ⟨M, hM⟩ : ∃ M, l1.length = M := ⟨_, rfl⟩
  obtain ⟨L, hL⟩ : ∃ L, l2.length = L := ⟨_, rfl⟩
  have HL := Aside0.mk (And.intro hN (And.intro hM hL))
  rw [hN, hM, hL]
  clear hr0 hr1 hr2 hA0 hA1 hA2 hc0 hc1 hc2 h hN hM hL
  by_cases g0 : 100 < N
  · have d0 : 100 < (N : Int) := by omega
    clear g0
    go_enter Try.func4, Try.ntmps4
    go_wp2_with (go_at_call 8; (with_reducible refine (awake_calls _).mono ?_); rintro e w1 ⟨rfl, h1⟩; have H1 := Aside0.mk h1; clear h1)
    go_ret
    exact ⟨rfl, H1.out⟩
  have d0 : ¬ (100 < (N : Int)) := by omega
  have e0 : decide (100 < (N : Int)) = false := decide_eq_false d0
  by_cases g1 : N = 0
  · subst g1
    clear g0
    go_enter Try.func4, Try.ntmps4
    go_wp2_with (go_at_call 8; (with_reducible refine (awake_calls _).mono ?_); rintro e w1 ⟨rfl, h1⟩; have H1 := Aside0.mk h1; clear h1)
    go_ret
    exact ⟨rfl, H1.out⟩
  have d1 : ((N : Int) == 0) = false := beq_eq_false_iff_ne.2 (by omega)
  by_cases g2 : 200 < M
  · have d2 : 200 < (M : Int) := by omega
    clear g0 g1 g2
    go_enter Try.func4, Try.ntmps4
    go_wp2_with (go_at_call 8; (with_reducible refine (awake_calls _).mono ?_); rintro e w1 ⟨rfl, h1⟩; have H1 := Aside0.mk h1; clear h1)
    go_ret
    exact ⟨rfl, H1.out⟩
  have d2 : ¬ (200 < (M : Int)) := by omega
  have e2 : decide (200 < (M : Int)) = false := decide_eq_false d2
  by_cases g3 : 100 < L
  · have d3 : 100 < (L : Int) := by omega
    clear g0 g1 g2 g3
    go_enter Try.func4, Try.ntmps4
    go_wp2_with (go_at_call 8; (with_reducible refine (awake_calls _).mono ?_); rintro e w1 ⟨rfl, h1⟩; have H1 := Aside0.mk h1; clear h1)
    go_ret
    exact ⟨rfl, H1.out⟩
  have d3 : ¬ (100 < (L : Int)) := by omega
  have e3 : decide (100 < (L : Int)) = false := decide_eq_false d3
  have b0 : (N : Int) ≤ 100 := by omega
  have b1 : (M : Int) ≤ 200 := by omega
  have b2 : (L : Int) ≤ 100 := by omega
  have NN := Aside0.mk (show N ≤ 65536 by omega)
  clear g0 g1 g2 g3
  go_enter Try.func4, Try.ntmps4
  go_wp2_with (first | (go_at_call 8; (with_reducible refine (awake_calls _).mono ?_); rintro e w1 ⟨rfl, h1⟩; have H1 := Aside0.mk h1; clear h1) | (go_at_call 9; (with_reducible refine (t_new H1.out (N : Int) N rfl NN.out).mono ?_); rintro e w2 ⟨p, rfl, h2⟩; have H2 := Aside0.mk h2; clear h2) | (go_at_call 12; (with_reducible refine (t_rnew H2.out (N : Int) N rfl NN.out).mono ?_); rintro e w3 ⟨q, rfl, h3⟩; have H3 := Aside0.mk h3; clear h3))
  go_loopg [59] N (fun g v wr => ∃ (j : Nat) (Has : List Bool) (ks : List Int), v = .int .i64 (j : Int) ∧ N - j ≤ g ∧ j ≤ N ∧ Aside0 (TwoS w wr (fun _ => False) p q Has ks Has ks))
  case atStart => exact ⟨0, _, _, rfl, by omega, by omega, H3⟩
  case round =>
    obtain ⟨j, Has, ks, rfl, hg, hj, R⟩ := hrel
    by_cases hlt : j < N
    · have GG := Aside0.mk (And.intro hg (And.intro hj hlt))
      have z3 : (j : Int) < (N : Int) := by omega
      obtain ⟨rfl, hcell⟩ := AA0.out.resolve_left (by have := HL.out; omega)
      have cj := hcell j (by have := HL.out; omega) wr R.out.below
      obtain ⟨x, hx⟩ : ∃ x, l0.getD j 0 = x := ⟨_, rfl⟩
      rw [hx] at cj
      clear hg hj hlt hcell hx
      go_wp2_with (first | (go_at_call 10; (with_reducible refine (t_set R.out (j : Int) x).mono ?_); rintro e w5 ⟨rfl, h5, hc5⟩; have T5 := Aside0.mk h5; clear h5 hc5) | (go_at_call 13; (with_reducible refine (t_rset T5.out (j : Int) x).mono ?_); rintro e w6 ⟨rfl, h6, hc6⟩; have T6 := Aside0.mk h6; clear h6 hc6))
      go_roundg (N - (j + 1))
      case measure => have := GG.out; omega
      case rel => exact ⟨j + 1, _, _, by go_num, by omega, by have := GG.out; omega, T6⟩
    · obtain rfl : j = N := by omega
      clear hg hj hlt H3
      go_wp2_with fail
      go_loopg [75] M (fun g v wr => ∃ (m : Nat) (Has : List Bool) (ks : List Int), v = .int .i64 (m : Int) ∧ M - m ≤ g ∧ m ≤ M ∧ Aside0 (TwoS w wr (fun _ => False) p q Has ks Has ks))
      case atStart => exact ⟨0, _, _, rfl, by omega, by omega, R⟩
      case round =>
        clear R Has ks
        obtain ⟨m, Has, ks, rfl, hg, hm, R⟩ := hrel
        by_cases hlt : m < M
        · have GG := Aside0.mk (And.intro hg (And.intro hm hlt))
          have z3 : (m : Int) < (M : Int) := by omega
          obtain ⟨rfl, hcell⟩ := AA1.out.resolve_left (by have := HL.out; omega)
          obtain ⟨c0', c1'⟩ := hcell m (by have := HL.out; omega) wr R.out.below
          obtain ⟨I, hI⟩ : ∃ x, (l1.getD m z37).f0 = x := ⟨_, rfl⟩
          obtain ⟨key, hkey⟩ : ∃ x, (l1.getD m z37).f1 = x := ⟨_, rfl⟩
          rw [hI] at c0'
          rw [hkey] at c1'
          clear hg hm hlt hcell hI hkey
          go_upto_region 18 with (fail)
          obtain ⟨b, hb⟩ : ∃ b, wr.heap.size = b := ⟨_, rfl⟩
          have bk : (wr.alloc (.cells #[.int .i64 I, .int .i64 key] 37)).heap[b]? = some (.cells #[.int .i64 I, .int .i64 key] 37 (0, 0)) := by rw [← hb]; exact heap_alloc_new wr _
          have T0 := Aside0.mk (R.out.beside b (by omega) ((Chg.refl _ _).alloc (.cells #[.int .i64 I, .int .i64 key] 37)) (by simp; omega))
          rw [hb]
          generalize wr.alloc (.cells #[.int .i64 I, .int .i64 key] 37) = wa at bk T0 ⊢
          have f0 := blk_at bk 0 _ rfl
          have f1 := blk_at bk 1 _ rfl
          clear bk hb c0' c1' R
          go_region_held3 (fun w' => w'.cell? ⟨b, 0, none⟩ = some (.int .i64 I) ∧ w'.cell? ⟨b, 1, none⟩ = some (.int .i64 key)) (first | go_keep | exact ⟨g1, g2⟩) (first | (go_at_call 10; (with_reducible refine (t_set T0.out.drew I key).mono ?_); rintro e w5 ⟨rfl, h5, hc5⟩; have g1 := hc5.cellAt (a := ⟨b, 0, none⟩) f0 (fun q => q.2 rfl); have g2 := hc5.cellAt (a := ⟨b, 1, none⟩) f1 (fun q => q.2 rfl); have T5 := Aside0.mk h5; clear h5 hc5) | (go_at_call 13; (with_reducible refine (t_rset T5.out I key).mono ?_); rintro e w6 ⟨rfl, h6, hc6⟩; have q1 := hc6.cellAt (a := ⟨b, 0, none⟩) g1 (fun q => q.2 rfl); have q2 := hc6.cellAt (a := ⟨b, 1, none⟩) g2 (fun q => q.2 rfl); have T6 := Aside0.mk h6; clear h6 hc6 g1 g2; have g1 := q1; have g2 := q2; clear q1 q2))
          go_wp2
          go_roundg (M - (m + 1))
          case measure => have := GG.out; omega
          case rel => exact ⟨m + 1, _, _, by go_num, by omega, by have := GG.out; omega, ⟨T6.out.alone⟩⟩
        · obtain rfl : m = M := by omega
          clear hg hm hlt
          go_wp2_with fail
          go_loopg [95] L (fun g v wr => ∃ (i : Nat) (Has : List Bool) (ks : List Int), v = .int .i64 (i : Int) ∧ L - i ≤ g ∧ i ≤ L ∧ Aside0 (TwoS w wr (fun _ => False) p q Has ks Has ks))
          case atStart => exact ⟨0, _, _, rfl, by omega, by omega, R⟩
          case round =>
            clear R Has ks
            obtain ⟨i, Has, ks, rfl, hg, hi, R⟩ := hrel
            by_cases hlt : i < L
            · have GG := Aside0.mk (And.intro hg (And.intro hi hlt))
              have z3 : (i : Int) < (L : Int) := by omega
              obtain ⟨rfl, hcell⟩ := AA2.out.resolve_left (by have := HL.out; omega)
              have ci := hcell i (by have := HL.out; omega) wr R.out.below
              obtain ⟨x, hx⟩ : ∃ x, l2.getD i 0 = x := ⟨_, rfl⟩
              rw [hx] at ci
              clear hg hi hlt hcell hx
              go_wp2_with (first | (go_at_call 14; (with_reducible refine (t_rem R.out _).mono ?_); rintro e w5 ⟨rfl, h5, hc5⟩; have T5 := Aside0.mk h5; clear h5 hc5) | (go_at_call 15; (with_reducible refine (t_rrem T5.out _).mono ?_); rintro e w6 ⟨rfl, h6, hc6⟩; have T6 := Aside0.mk h6; clear h6 hc6))
              go_roundg (L - (i + 1))
              case measure => have := GG.out; omega
              case rel => exact ⟨i + 1, _, _, by go_num, by omega, by have := GG.out; omega, T6⟩
            · obtain rfl : i = L := by omega
              clear hg hi hlt
              go_wp2_with fail
              go_loopg [112] (j + 1) (fun g v wr => ∃ (k : Nat) (Has : List Bool) (ks : List Int), v = .int .i64 (k : Int) ∧ j + 1 - k ≤ g ∧ k ≤ j + 1 ∧ Aside0 (TwoS w wr (fun _ => False) p q Has ks Has ks))
              case atStart => exact ⟨0, _, _, rfl, by omega, by omega, R⟩
              case round =>
                clear R Has ks
                obtain ⟨k, Has, ks, rfl, hg, hk, R⟩ := hrel
                by_cases hlt : k < j + 1
                · have GG := Aside0.mk (And.intro hg (And.intro hk hlt))
                  have z3 : (k : Int) < (j : Int) + 1 := by omega
                  clear hg hk hlt
                  go_wp2_with (first | (go_at_call 11; (with_reducible refine (t_pop R.out).mono ?_); rintro e w5 ⟨x, y, bb, H', hs, rfl, h5, hc5⟩; have T5 := Aside0.mk h5; have S5 := Aside0.mk hs; clear h5 hc5 hs) | (go_at_call 16; (with_reducible refine (t_rpop T5.out).mono ?_); rintro e w6 ⟨x2, y2, b2, H2', hs2, rfl, h6, hc6⟩; have hq := S5.out.same hs2; obtain ⟨rfl, rfl, rfl, rfl⟩ := hq; have T6 := Aside0.mk h6; clear h6 hc6 hs2))
                  go_roundg (j + 1 - (k + 1))
                  case measure => have := GG.out; omega
                  case rel => exact ⟨k + 1, _, _, by go_num, by omega, by have := GG.out; omega, T6⟩
                · have hke : k = j + 1 := by omega
                  subst hke
                  have z3 : ¬ ((j : Int) + 1 < (j : Int) + 1) := by omega
                  clear hg hk hlt
                  go_wp2
                  go_ret
                  exact ⟨rfl, R.out.below⟩
end Go.Proofs.Ytpgnefojifiopaa.Heap

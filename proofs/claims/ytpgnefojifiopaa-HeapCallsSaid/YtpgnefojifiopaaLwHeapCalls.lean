/- The walk of the law HeapCalls. -/
import Derived.Test.YtpgnefojifiopaaHeapT
import Derived.Test.YtpgnefojifiopaaKinds
import Derived.Deep.Cut
import Derived.Deep.RegionHeld3
namespace Go.Proofs.Ytpgnefojifiopaa.Heap
open Go.RowKit Go.Proofs.YtpgnefojifiopaaW.PrintWords Go.Proofs.Ytpgnefojifiopaa.Sep Go.Proofs.Ytpgnefojifiopaa.HeapP
set_option linter.unusedVariables false

def actsOk (l : List S44) : Bool := l.all fun x => decide (0 ≤ x.f0) && decide (x.f0 ≤ 255)
def waypointlaw03_HeapCalls.f (a0 : Int) (l1 : List S44) : Option Bool := if (decide (0 ≤ a0) && decide (a0 ≤ 255) && actsOk l1) = true then some true else none
theorem _root_.Go.Proofs.Ytpgnefojifiopaa.Sep.Chg.cellAt {F : Nat → Prop} {w w1 : World} (h : Chg F w w1) {a : Addr} {v : Value} (hc : w.cell? a = some v) (hn : ¬ F a.block) : w1.cell? a = some v :=
  (World.cell?_of_block (w := w) (h.block a.block (World.block_lt_of_cell? w a hc) hn)).trans hc
theorem arg_acts {w : World} {A : Option Addr} {l : List S44} (h : Kd.C k44 w A l.length l) : ∃ ad : Addr, l.length = 0 ∨ (A = some ad ∧ ∀ i, i < l.length → ∀ w', Below w.heap.size w w' → w'.cell? (ad.add (i * 3)) = some (.int .u8 (l.getD i z44).f0) ∧ w'.cell? ⟨(ad.add (i * 3)).block, (ad.add (i * 3)).off + 1, none⟩ = some (.int .i64 (l.getD i z44).f1) ∧ w'.cell? ⟨(ad.add (i * 3)).block, (ad.add (i * 3)).off + 2, none⟩ = some (.int .i64 (l.getD i z44).f2)) := by
  rcases Nat.eq_zero_or_pos l.length with h0 | h0
  · exact ⟨⟨0, 0, none⟩, .inl h0⟩
  · obtain ⟨ad, rfl, _⟩ := at_T44 h 0 (by omega) (by omega)
    refine ⟨ad, .inr ⟨rfl, fun i hi w' hb => ?_⟩⟩
    obtain ⟨ad2, e, c0, c1, c2⟩ := at_T44 h (i : Int) (by omega) (by omega)
    injection e with e
    subst e
    have e2 : rd_T44 l (i : Int) = l.getD i z44 := by simp [rd_T44]
    rw [e2, Int.toNat_natCast] at c0 c1 c2
    exact ⟨pw_cell_below hb c0, pw_cell_below hb c1, pw_cell_below hb c2⟩
theorem actsOk_at {l : List S44} (h : actsOk l = true) (i : Nat) (hi : i < l.length) : 0 ≤ (l.getD i z44).f0 ∧ (l.getD i z44).f0 ≤ 255 := by
  simp only [actsOk, List.all_eq_true, Bool.and_eq_true, decide_eq_true_eq] at h
  have := h (l.getD i z44) (by simp [List.getD_eq_getElem?_getD, List.getElem?_eq_getElem hi])
  exact this
set_option maxHeartbeats 16000000 in
set_option maxRecDepth 100000 in
theorem waypointlaw03_HeapCalls.calls (a0 : Int) (A1 : Option Addr) (c1 : Nat) (l1 : List S44) (r : Bool) (w : World) (hr1 : Kd.C k44 w A1 l1.length l1) (hc1 : l1.length ≤ c1) (h : waypointlaw03_HeapCalls.f a0 l1 = some r) : Calls Try.prog 6 #[.int .u8 a0, .slice A1 l1.length c1] w fun e w' => e = .returned (.bool r) ∧ Below w.heap.size w w' := by
  unfold waypointlaw03_HeapCalls.f at h
  split at h
  case isFalse => cases h
  rename_i hok
  obtain rfl : true = r := by simpa using h
  simp only [Bool.and_eq_true, decide_eq_true_eq] at hok
  obtain ⟨⟨ha0, ha1⟩, hacts⟩ := hok
  clear h
  obtain ⟨ad, hA⟩ := arg_acts hr1
  have AA := Aside0.mk hA
  have AO := Aside0.mk hacts
  obtain ⟨n, hn⟩ : ∃ n : Nat, a0 % 40 = (n : Int) := ⟨(a0 % 40).toNat, by omega⟩
  have hn2 : a0.tmod 40 = (n : Int) := by rw [Int.tmod_eq_emod_of_nonneg (by omega)]; exact hn
  have hn3 : (n : Int) ≤ 40 := by omega
  have NN := Aside0.mk (show n ≤ 65536 by omega)
  clear hr1 hA hacts hc1
  obtain ⟨L, hL⟩ : ∃ L, l1.length = L := ⟨_, rfl⟩
  have HL := Aside0.mk hL
  rw [hL]
  by_cases hbig : 300 < L
  · have d1 : 300 < (L : Int) := by omega
    clear hbig hL
    go_enter Try.func6, Try.ntmps6
    go_wp2_with (first | (go_at_call 8; (with_reducible refine (awake_calls _).mono ?_); rintro e w1 ⟨rfl, h1⟩; have H1 := Aside0.mk h1; clear h1) | (go_at_call 9; (with_reducible refine (t_new H1.out (n : Int) n rfl NN.out).mono ?_); rintro e w2 ⟨p, rfl, h2⟩; have H2 := Aside0.mk h2; clear h2) | (go_at_call 12; (with_reducible refine (t_rnew H2.out (n : Int) n rfl NN.out).mono ?_); rintro e w3 ⟨q, rfl, h3⟩; have H3 := Aside0.mk h3; clear h3))
    go_ret
    exact ⟨rfl, H3.out.below⟩
  · have d1 : ¬ (300 < (L : Int)) := by omega
    have d2 : decide (300 < (L : Int)) = false := decide_eq_false d1
    have b1 : (L : Int) ≤ 300 := by omega
    clear hbig hL
    go_enter Try.func6, Try.ntmps6
    go_wp2_with (first | (go_at_call 8; (with_reducible refine (awake_calls _).mono ?_); rintro e w1 ⟨rfl, h1⟩; have H1 := Aside0.mk h1; clear h1) | (go_at_call 9; (with_reducible refine (t_new H1.out (n : Int) n rfl NN.out).mono ?_); rintro e w2 ⟨p, rfl, h2⟩; have H2 := Aside0.mk h2; clear h2) | (go_at_call 12; (with_reducible refine (t_rnew H2.out (n : Int) n rfl NN.out).mono ?_); rintro e w3 ⟨q, rfl, h3⟩; have H3 := Aside0.mk h3; clear h3))
    clear hn hn2
    go_loopg [54] L (fun g v wr => ∃ (j : Nat) (Has : List Bool) (ks : List Int), v = .int .i64 (j : Int) ∧ L - j ≤ g ∧ j ≤ L ∧ Aside0 (TwoS w wr (fun _ => False) p q Has ks Has ks ∧ Has.length = n))
    case atStart => exact ⟨0, _, _, rfl, by omega, by omega, ⟨H3.out, by simp⟩⟩
    case round =>
      obtain ⟨j, Has, ks, rfl, hg, hj, R⟩ := hrel
      by_cases hlt : j < L
      · have GG := Aside0.mk (And.intro hg (And.intro hj hlt))
        have d3 : (j : Int) < (L : Int) := by omega
        obtain ⟨rfl, hcell⟩ := AA.out.resolve_left (by have := HL.out; omega)
        obtain ⟨c0, c1', c2⟩ := hcell j (by have := HL.out; omega) wr R.out.1.below
        have hk := actsOk_at AO.out j (by have := HL.out; omega)
        obtain ⟨kd, hkd⟩ : ∃ x, (l1.getD j z44).f0 = x := ⟨_, rfl⟩
        obtain ⟨I, hI⟩ : ∃ x, (l1.getD j z44).f1 = x := ⟨_, rfl⟩
        obtain ⟨key, hkey⟩ : ∃ x, (l1.getD j z44).f2 = x := ⟨_, rfl⟩
        rw [hkd] at c0 hk
        rw [hI] at c1'
        rw [hkey] at c2
        obtain ⟨k0, k1⟩ := hk
        clear hg hj hlt hcell hkd hI hkey
        go_upto_block 2 with (fail)
        obtain ⟨b, hb⟩ : ∃ b, wr.heap.size = b := ⟨_, rfl⟩
        have bk : (wr.alloc (.cells #[.int .u8 kd, .int .i64 I, .int .i64 key] 44)).heap[b]? = some (.cells #[.int .u8 kd, .int .i64 I, .int .i64 key] 44 (0, 0)) := by rw [← hb]; exact heap_alloc_new wr _
        have T0 := Aside0.mk (R.out.1.beside b (by omega) ((Chg.refl _ _).alloc (.cells #[.int .u8 kd, .int .i64 I, .int .i64 key] 44)) (by simp; omega))
        rw [hb]
        generalize wr.alloc (.cells #[.int .u8 kd, .int .i64 I, .int .i64 key] 44) = wa at bk T0 ⊢
        have f0 := blk_at bk 0 _ rfl
        have f1 := blk_at bk 1 _ rfl
        have f2 := blk_at bk 2 _ rfl
        have hH := R.out.2
        have RH := Aside0.mk hH
        clear bk hb c0 c1' c2 R hH
        have e0 : kd % 4 = 0 ∨ kd % 4 = 1 ∨ kd % 4 = 2 ∨ kd % 4 = 3 := by omega
        rcases e0 with e1 | e1 | e1 | e1
        · have e2 : kd.tmod 4 = 0 := by rw [Int.tmod_eq_emod_of_nonneg k0]; exact e1
          go_wp2_with fail
          go_region_held3 (fun w' => w'.cell? ⟨b, 1, none⟩ = some (.int .i64 I) ∧ w'.cell? ⟨b, 2, none⟩ = some (.int .i64 key)) (first | go_keep | exact ⟨g1, g2⟩) (first | (go_at_call 10; (with_reducible refine (t_set T0.out.drew I key).mono ?_); rintro e w5 ⟨rfl, h5, hc5⟩; have g1 := hc5.cellAt (a := ⟨b, 1, none⟩) f1 (fun q => q.2 rfl); have g2 := hc5.cellAt (a := ⟨b, 2, none⟩) f2 (fun q => q.2 rfl); have T5 := Aside0.mk h5; clear h5 hc5) | (go_at_call 13; (with_reducible refine (t_rset T5.out I key).mono ?_); rintro e w6 ⟨rfl, h6, hc6⟩; have q1 := hc6.cellAt (a := ⟨b, 1, none⟩) g1 (fun q => q.2 rfl); have q2 := hc6.cellAt (a := ⟨b, 2, none⟩) g2 (fun q => q.2 rfl); have T6 := Aside0.mk h6; clear h6 hc6 g1 g2; have g1 := q1; have g2 := q2; clear q1 q2))
          go_wp2_with (first | (go_at_call 18; (with_reducible refine (t_key T6.out I).mono ?_); rintro e w9 ⟨rfl, rfl⟩) | (go_at_call 19; (with_reducible refine (t_rkey T6.out I).mono ?_); rintro e w9 ⟨rfl, rfl⟩) | (go_at_call 17; (with_reducible refine (t_len T6.out).mono ?_); rintro e w9 ⟨rfl, rfl⟩) | (go_at_call 20; (with_reducible refine (t_rlen T6.out).mono ?_); rintro e w9 ⟨rfl, rfl⟩))
          go_roundg (L - (j + 1))
          case measure => have := GG.out; omega
          case rel => exact ⟨j + 1, _, _, by go_num, by omega, by have := GG.out; omega, ⟨T6.out.alone, (setH_len _ _).trans RH.out⟩⟩
        · have e2 : kd.tmod 4 = 1 := by rw [Int.tmod_eq_emod_of_nonneg k0]; exact e1
          go_wp2_with fail
          go_region_held3 (fun w' => w'.cell? ⟨b, 1, none⟩ = some (.int .i64 I) ∧ w'.cell? ⟨b, 2, none⟩ = some (.int .i64 key)) (first | go_keep | exact ⟨g1, g2⟩) (first | (go_at_call 10; (with_reducible refine (t_set T0.out.drew I key).mono ?_); rintro e w5 ⟨rfl, h5, hc5⟩; have g1 := hc5.cellAt (a := ⟨b, 1, none⟩) f1 (fun q => q.2 rfl); have g2 := hc5.cellAt (a := ⟨b, 2, none⟩) f2 (fun q => q.2 rfl); have T5 := Aside0.mk h5; clear h5 hc5) | (go_at_call 13; (with_reducible refine (t_rset T5.out I key).mono ?_); rintro e w6 ⟨rfl, h6, hc6⟩; have q1 := hc6.cellAt (a := ⟨b, 1, none⟩) g1 (fun q => q.2 rfl); have q2 := hc6.cellAt (a := ⟨b, 2, none⟩) g2 (fun q => q.2 rfl); have T6 := Aside0.mk h6; clear h6 hc6 g1 g2; have g1 := q1; have g2 := q2; clear q1 q2))
          go_wp2_with (first | (go_at_call 18; (with_reducible refine (t_key T6.out I).mono ?_); rintro e w9 ⟨rfl, rfl⟩) | (go_at_call 19; (with_reducible refine (t_rkey T6.out I).mono ?_); rintro e w9 ⟨rfl, rfl⟩) | (go_at_call 17; (with_reducible refine (t_len T6.out).mono ?_); rintro e w9 ⟨rfl, rfl⟩) | (go_at_call 20; (with_reducible refine (t_rlen T6.out).mono ?_); rintro e w9 ⟨rfl, rfl⟩))
          go_roundg (L - (j + 1))
          case measure => have := GG.out; omega
          case rel => exact ⟨j + 1, _, _, by go_num, by omega, by have := GG.out; omega, ⟨T6.out.alone, (setH_len _ _).trans RH.out⟩⟩
        · have e2 : kd.tmod 4 = 2 := by rw [Int.tmod_eq_emod_of_nonneg k0]; exact e1
          go_wp2_with (first | (go_at_call 11; (with_reducible refine (t_pop T0.out).mono ?_); rintro e w5 ⟨x, y, bb, H', hs, rfl, h5, hc5⟩; have g1 := hc5.cellAt (a := ⟨b, 1, none⟩) f1 (fun q => q.2 rfl); have T5 := Aside0.mk h5; have S5 := Aside0.mk hs; clear h5 hc5 hs) | (go_at_call 16; (with_reducible refine (t_rpop T5.out).mono ?_); rintro e w6 ⟨x2, y2, b2, H2', hs2, rfl, h6, hc6⟩; have q1 := hc6.cellAt (a := ⟨b, 1, none⟩) g1 (fun q => q.2 rfl); clear g1; have g1 := q1; clear q1; have hq := S5.out.same hs2; obtain ⟨rfl, rfl, rfl, rfl⟩ := hq; have T6 := Aside0.mk h6; clear h6 hc6 hs2) | (go_at_call 18; (with_reducible refine (t_key T6.out I).mono ?_); rintro e w9 ⟨rfl, rfl⟩) | (go_at_call 19; (with_reducible refine (t_rkey T6.out I).mono ?_); rintro e w9 ⟨rfl, rfl⟩) | (go_at_call 17; (with_reducible refine (t_len T6.out).mono ?_); rintro e w9 ⟨rfl, rfl⟩) | (go_at_call 20; (with_reducible refine (t_rlen T6.out).mono ?_); rintro e w9 ⟨rfl, rfl⟩))
          go_roundg (L - (j + 1))
          case measure => have := GG.out; omega
          case rel => exact ⟨j + 1, _, _, by go_num, by omega, by have := GG.out; omega, ⟨T6.out.alone, S5.out.len.trans RH.out⟩⟩
        · have e2 : kd.tmod 4 = 3 := by rw [Int.tmod_eq_emod_of_nonneg k0]; exact e1
          go_wp2_with fail
          go_region_held3 (fun w' => w'.cell? ⟨b, 1, none⟩ = some (.int .i64 I) ∧ w'.cell? ⟨b, 2, none⟩ = some (.int .i64 key)) (first | go_keep | exact ⟨g1, g2⟩) (first | (go_at_call 14; (with_reducible refine (t_rem T0.out.drew I).mono ?_); rintro e w5 ⟨rfl, h5, hc5⟩; have g1 := hc5.cellAt (a := ⟨b, 1, none⟩) f1 (fun q => q.2 rfl); have g2 := hc5.cellAt (a := ⟨b, 2, none⟩) f2 (fun q => q.2 rfl); have T5 := Aside0.mk h5; clear h5 hc5) | (go_at_call 15; (with_reducible refine (t_rrem T5.out I).mono ?_); rintro e w6 ⟨rfl, h6, hc6⟩; have q1 := hc6.cellAt (a := ⟨b, 1, none⟩) g1 (fun q => q.2 rfl); have q2 := hc6.cellAt (a := ⟨b, 2, none⟩) g2 (fun q => q.2 rfl); have T6 := Aside0.mk h6; clear h6 hc6 g1 g2; have g1 := q1; have g2 := q2; clear q1 q2))
          go_wp2_with (first | (go_at_call 18; (with_reducible refine (t_key T6.out I).mono ?_); rintro e w9 ⟨rfl, rfl⟩) | (go_at_call 19; (with_reducible refine (t_rkey T6.out I).mono ?_); rintro e w9 ⟨rfl, rfl⟩) | (go_at_call 17; (with_reducible refine (t_len T6.out).mono ?_); rintro e w9 ⟨rfl, rfl⟩) | (go_at_call 20; (with_reducible refine (t_rlen T6.out).mono ?_); rintro e w9 ⟨rfl, rfl⟩))
          go_roundg (L - (j + 1))
          case measure => have := GG.out; omega
          case rel => exact ⟨j + 1, _, _, by go_num, by omega, by have := GG.out; omega, ⟨T6.out.alone, (remH_len _ _).trans RH.out⟩⟩
      · obtain rfl : j = L := by omega
        clear hg hj hlt
        have hl := R.out.2
        have T1 := Aside0.mk R.out.1
        have hB := Aside0.mk R.out.1.below
        clear hl R
        go_wp2_with fail
        go_loopg [21] (n + 2) (fun g v wq => ∃ i : Int, v = .int .i64 i ∧ -1 ≤ i ∧ i ≤ (n : Int) + 1 ∧ ((n : Int) + 1 - i).toNat ≤ g ∧ wq = wr)
        case atStart => exact ⟨-1, rfl, by omega, by omega, by omega, rfl⟩
        case round =>
          obtain ⟨i, rfl, hi0, hi1, hig, rfl⟩ := hrel
          by_cases hle : i ≤ (n : Int)
          · have II := Aside0.mk (And.intro hi0 (And.intro hig hle))
            have b9 : i ≤ 40 := by omega
            clear hig
            go_wp2_with (first | (go_at_call 18; (with_reducible refine (t_key T1.out i).mono ?_); rintro e w9 ⟨rfl, rfl⟩) | (go_at_call 19; (with_reducible refine (t_rkey T1.out i).mono ?_); rintro e w9 ⟨rfl, rfl⟩))
            go_roundg ((n : Int) + 1 - (i + 1)).toNat
            case measure => have := II.out; omega
            case rel => exact ⟨i + 1, by go_num, by omega, by omega, Nat.le_refl _, rfl⟩
          · have hgt : ¬ (i ≤ (n : Int)) := hle
            clear hig
            go_wp2
            go_ret
            exact ⟨rfl, hB.out⟩
end Go.Proofs.Ytpgnefojifiopaa.Heap

/- The walk of the law EventsCancelled. -/
import Derived.Test.YtpliaagfhjnnaaaEvK
namespace Go.Proofs.Ytpliaagfhjnnaaa.Ev
open Go.RowKit Go.Proofs.YtpliaagfhjnnaaaW.PrintWords Go.Proofs.Ytpliaagfhjnnaaa.Sep Go.Proofs.Ytpliaagfhjnnaaa.HeapP Go.Proofs.Ytpliaagfhjnnaaa.Heap Go.Proofs.Ytpliaagfhjnnaaa.EvP
set_option linter.unusedVariables false
set_option linter.unusedSimpArgs false

def bytesOkC (l : List Int) : Bool := l.all fun x => decide (0 ≤ x) && decide (x ≤ 255)
theorem bytesOkC_at {l : List Int} (h : bytesOkC l = true) (i : Nat) : 0 ≤ l.getD i 0 ∧ l.getD i 0 ≤ 255 := by
  simp only [bytesOkC, List.all_eq_true, Bool.and_eq_true, decide_eq_true_eq] at h
  rcases Nat.lt_or_ge i l.length with hi | hi
  · exact h (l.getD i 0) (by simp [List.getD_eq_getElem?_getD, List.getElem?_eq_getElem hi])
  · simp [List.getD_eq_getElem?_getD, List.getElem?_eq_none hi]
def kept (out : List Bool) (e : EvP.Ev) : Bool := !gb out e.data.toNat
def keptFrom (out : List Bool) (i : Nat) (e : EvP.Ev) : Bool := decide ((i : Int) ≤ e.data) || !gb out e.data.toNat
def keepE (l : List Int) (out : List Bool) (i N : Nat) : List EvP.Ev := (evs l N).filter (keptFrom out i)
theorem keepE_zero (l : List Int) (out : List Bool) (N : Nat) : keepE l out 0 N = evs l N := by
  unfold keepE
  rw [List.filter_eq_self]
  intro e he
  obtain ⟨k, hk, rfl⟩ := mem_evs he
  simp [keptFrom, evAt]
theorem keptFrom_at (l : List Int) (out : List Bool) (i k : Nat) : keptFrom out i (evAt l k) = true ↔ (i ≤ k ∨ gb out k = false) := by
  have h : keptFrom out i (evAt l k) = (decide ((i : Int) ≤ (k : Int)) || !gb out k) := rfl
  rw [h, Bool.or_eq_true, decide_eq_true_eq, Bool.not_eq_true']
  constructor
  · intro h
    rcases h with h | h
    · exact .inl (by omega)
    · exact .inr h
  · intro h
    rcases h with h | h
    · exact .inl (by omega)
    · exact .inr h
theorem kept_at (l : List Int) (out : List Bool) (k : Nat) : kept out (evAt l k) = true ↔ gb out k = false := by
  have h : kept out (evAt l k) = !gb out k := rfl
  rw [h, Bool.not_eq_true']
theorem keepE_all (l : List Int) (out : List Bool) (N : Nat) : keepE l out N N = (evs l N).filter (kept out) := by
  unfold keepE
  refine List.filter_congr fun e he => ?_
  obtain ⟨k, hk, rfl⟩ := mem_evs he
  rw [Bool.eq_iff_iff, keptFrom_at, kept_at]
  constructor
  · intro h
    rcases h with h | h
    · omega
    · exact h
  · exact .inr
theorem keepE_no (l : List Int) (out : List Bool) {i N : Nat} (h : gb out i = false) : keepE l out (i + 1) N = keepE l out i N := by
  unfold keepE
  refine List.filter_congr fun e he => ?_
  obtain ⟨k, hk, rfl⟩ := mem_evs he
  rw [Bool.eq_iff_iff, keptFrom_at, keptFrom_at]
  constructor
  · intro h2
    rcases h2 with h2 | h2
    · exact .inl (by omega)
    · exact .inr h2
  · intro h2
    by_cases c : k = i
    · subst c
      exact .inr h
    · rcases h2 with h2 | h2
      · exact .inl (by omega)
      · exact .inr h2
theorem keepE_yes (l : List Int) (out : List Bool) {i N : Nat} (h : gb out i = true) : EvP.drop (keepE l out i N) ((i : Int) + 1) = keepE l out (i + 1) N := by
  unfold keepE EvP.drop
  rw [List.filter_filter]
  refine List.filter_congr fun e he => ?_
  obtain ⟨k, hk, rfl⟩ := mem_evs he
  rw [Bool.eq_iff_iff, Bool.and_eq_true, decide_eq_true_eq, keptFrom_at, keptFrom_at]
  have e1 : (evAt l k).id = (k : Int) + 1 := rfl
  rw [e1]
  constructor
  · rintro ⟨h1, h2⟩
    rcases h2 with h2 | h2
    · exact .inl (by omega)
    · exact .inr h2
  · intro h2
    have c : k ≠ i := by
      intro c
      subst c
      rcases h2 with h2 | h2
      · omega
      · rw [h] at h2; cases h2
    refine ⟨by omega, ?_⟩
    rcases h2 with h2 | h2
    · exact .inl (by omega)
    · exact .inr h2
theorem keepE_mem (l : List Int) (out : List Bool) {i N : Nat} (h : i < N) : ∃ x ∈ keepE l out i N, x.id = (i : Int) + 1 := by
  refine ⟨evAt l i, ?_, rfl⟩
  unfold keepE
  rw [List.mem_filter]
  refine ⟨?_, ?_⟩
  · simp only [evs, List.mem_map, List.mem_range]
    exact ⟨i, h, rfl⟩
  · simp [keptFrom, evAt]
theorem evs_kept (l : List Int) (out : List Bool) (i : Nat) : (evs l (i + 1)).filter (kept out) = (evs l i).filter (kept out) ++ (if gb out i = true then [] else [evAt l i]) := by
  rw [evs_succ, List.filter_append]
  congr 1
  cases h : gb out i with
  | true => simp [kept, evAt, h]
  | false => simp [kept, evAt, h]
def waypointlaw51_EventsCancelled.f (l0 l1 : List Int) : Option Bool := if bytesOkC l0 = true ∧ bytesOkC l1 = true then some true else none
set_option maxHeartbeats 16000000 in
set_option maxRecDepth 100000 in
theorem waypointlaw51_EventsCancelled.calls (A0 : Option Addr) (c0 : Nat) (l0 : List Int) (A1 : Option Addr) (c1 : Nat) (l1 : List Int) (r : Bool) (w : World) (hr0 : Kd.C (Kd.int .u8) w A0 l0.length l0) (hc0 : l0.length ≤ c0) (hr1 : Kd.C (Kd.int .u8) w A1 l1.length l1) (hc1 : l1.length ≤ c1) (h : waypointlaw51_EventsCancelled.f l0 l1 = some r) : Calls Try.prog 4 #[.slice A0 l0.length c0, .slice A1 l1.length c1] w fun e w' => e = .returned (.bool r) ∧ Below w.heap.size w w' := by
  unfold waypointlaw51_EventsCancelled.f at h
  split at h
  case isFalse => cases h
  rename_i hok
  obtain rfl : true = r := by simpa using h
  clear h
  obtain ⟨ad, hA⟩ := arg_ints hr0
  obtain ⟨bd, hB⟩ := arg_ints hr1
  have AA := Aside0.mk hA
  have AB := Aside0.mk hB
  have AO := Aside0.mk (bytesOkC_at hok.1)
  have BO := Aside0.mk (bytesOkC_at hok.2)
  clear hr0 hr1 hA hB hok hc0 hc1
  obtain ⟨L, hL⟩ : ∃ L, l0.length = L := ⟨_, rfl⟩
  obtain ⟨M, hM⟩ : ∃ M, l1.length = M := ⟨_, rfl⟩
  have HN := Aside0.mk (And.intro hL hM)
  rw [hL, hM]
  have hcase : 100 < L ∨ L = 0 ∨ (0 < L ∧ L ≤ 100 ∧ 100 < M) ∨ (0 < L ∧ L ≤ 100 ∧ M ≤ 100) := by omega
  clear hL hM
  rcases hcase with h1 | h1 | ⟨h1, h2, h3⟩ | ⟨h1, h2, h3⟩
  · have d1 : 100 < (L : Int) := by omega
    clear h1
    go_enter Try.func4, Try.ntmps4
    go_wp2_with (go_at_call 9; (with_reducible refine (awake_calls _).mono ?_); rintro e w1 ⟨rfl, h1⟩; have H1 := Aside0.mk h1; clear h1)
    go_ret
    exact ⟨rfl, H1.out⟩
  · subst h1
    go_enter Try.func4, Try.ntmps4
    go_wp2_with (go_at_call 9; (with_reducible refine (awake_calls _).mono ?_); rintro e w1 ⟨rfl, h1⟩; have H1 := Aside0.mk h1; clear h1)
    go_ret
    exact ⟨rfl, H1.out⟩
  · have d1 : decide (100 < (L : Int)) = false := decide_eq_false (by omega)
    have d1' : ¬ (100 < (L : Int)) := by omega
    have d0 : ((L : Int) == 0) = false := beq_eq_false_iff_ne.2 (by omega)
    have d00 : (L == 0) = false := beq_eq_false_iff_ne.2 (by omega)
    have d3 : 100 < (M : Int) := by omega
    clear h1 h2 h3
    go_enter Try.func4, Try.ntmps4
    go_wp2_with (go_at_call 9; (with_reducible refine (awake_calls _).mono ?_); rintro e w1 ⟨rfl, h1⟩; have H1 := Aside0.mk h1; clear h1)
    go_ret
    exact ⟨rfl, H1.out⟩
  · have d1 : decide (100 < (L : Int)) = false := decide_eq_false (by omega)
    have d1' : ¬ (100 < (L : Int)) := by omega
    have d0 : ((L : Int) == 0) = false := beq_eq_false_iff_ne.2 (by omega)
    have d00 : (L == 0) = false := beq_eq_false_iff_ne.2 (by omega)
    have d3 : decide (100 < (M : Int)) = false := decide_eq_false (by omega)
    have d3' : ¬ (100 < (M : Int)) := by omega
    have b1 : (L : Int) ≤ 100 := by omega
    have b2 : (M : Int) ≤ 100 := by omega
    have LL := Aside0.mk (And.intro h1 (And.intro h2 h3))
    have hmk := fun W => Go.run_make_row' (P := Try.prog) 34 4 (.bool false) 1 Try.underlying34 infoBool rfl .i64 .i64 L (by omega) (by omega) W
    clear h1 h2 h3
    go_enter Try.func4, Try.ntmps4
    go_upto_region 6 with (first | (go_at_call 9; (with_reducible refine (awake_calls _).mono ?_); rintro e w1 ⟨rfl, h1⟩; have H1 := Aside0.mk h1; clear h1) | (go_at_call 10; (with_reducible refine (t_new H2.out).mono ?_); rintro e w3 ⟨q2, rfl, h3⟩; have H3 := Aside0.mk h3; clear h3) | (go_at_call 10; (with_reducible refine (q_new H1.out).mono ?_); rintro e w2 ⟨q1, rfl, h2⟩; have H2 := Aside0.mk h2; clear h2))
    obtain ⟨gs, hgs⟩ : ∃ gs, w3.heap.size = gs := ⟨_, rfl⟩
    have S0 : TwoQ w (w3.alloc (.cells (madeCells #[.bool false] L) 4)) (fun k => k = gs) q1 [] 0 0 q2 [] 0 0 ∧ OwnB 4 (w3.alloc (.cells (madeCells #[.bool false] L) 4)) (.slice (some ⟨gs, 0, none⟩) L L) (List.replicate L false) ∧ w.heap.size ≤ gs := by
      subst hgs
      exact ⟨H3.out.beside _ (Nat.le_refl _) ((Chg.refl _ _).alloc _) (by simp), own_falses w3 L (by have := LL.out; omega), H3.out.below.size⟩
    have SS := Aside0.mk S0
    clear S0
    go_wp2_with fail
    generalize w3.alloc (.cells (madeCells #[.bool false] L) 4) = wa at SS ⊢
    clear hgs hmk
    go_loopg [44] M (fun g v wr => ∃ (j : Nat) (out : List Bool), v = .int .i64 (j : Int) ∧ M - j ≤ g ∧ j ≤ M ∧ Aside0 (TwoQ w wr (fun k => k = gs) q1 [] 0 0 q2 [] 0 0 ∧ OwnB 4 wr (.slice (some ⟨gs, 0, none⟩) L L) out ∧ out.length = L))
    case atStart => exact ⟨0, _, rfl, by omega, by omega, ⟨SS.out.1, SS.out.2.1, by simp⟩⟩
    case round =>
      obtain ⟨j, out, rfl, hg, hj, R⟩ := hrel
      by_cases hlt : j < M
      · have GG := Aside0.mk (And.intro hg hlt)
        obtain ⟨rfl, hcell⟩ := AB.out.resolve_left (by have := HN.out; omega)
        have cg := hcell j (by have := HN.out; omega) wr R.out.1.below
        have hD := BO.out j
        obtain ⟨D, hD2⟩ : ∃ D, l1.getD j 0 = D := ⟨_, rfl⟩
        rw [hD2] at cg hD
        have ewD : IntKind.i64.wrap D = D := IntWalk.i64_in _ (by omega)
        obtain ⟨m, hm⟩ : ∃ m : Nat, D % (L : Int) = (m : Int) := ⟨(D % (L : Int)).toNat, by have := Int.emod_nonneg D (show (L : Int) ≠ 0 by have := LL.out; omega); omega⟩
        have hm2 : D.tmod (L : Int) = (m : Int) := by rw [Int.tmod_eq_emod_of_nonneg hD.1]; exact hm
        have hmL : (m : Int) < (L : Int) := by rw [← hm]; exact Int.emod_lt_of_pos _ (by have := LL.out; omega)
        have cs := R.out.2.1.cell m (by have := R.out.2.2; omega)
        have fs := R.out.2.1.free m
        have d5 : (j : Int) < (M : Int) := by omega
        have S1 := Aside0.mk (And.intro (R.out.1.kept ((Chg.refl (fun k => k = gs) wr).setCell ⟨gs, m, none⟩ (fun _ => rfl) (.bool true)) (fun k e => by rw [e]; exact SS.out.2.2)) (R.out.2.1.store m true))
        clear hg hj hlt hcell hm hD hD2
        go_wp2
        go_roundg (M - (j + 1))
        case measure => have := GG.out; omega
        case rel => exact ⟨j + 1, out.set m true, by go_num, by omega, by have := GG.out; omega, ⟨S1.out.1, S1.out.2, by simpa using R.out.2.2⟩⟩
      · obtain rfl : j = M := by omega
        clear hg hj hlt
        have T0 := R
        clear R
        go_wp2_with fail
        go_loopg [58] L (fun g v wr => ∃ (i : Nat) (E2 : List EvP.Ev) (l2 : Int), v = .int .i64 (i : Int) ∧ L - i ≤ g ∧ i ≤ L ∧ Aside0 (TwoQ w wr (fun k => k = gs) q1 (evs l0 i) (i : Int) 0 q2 E2 l2 0 ∧ OwnB 4 wr (.slice (some ⟨gs, 0, none⟩) L L) out ∧ td E2 = td ((evs l0 i).filter (kept out)) ∧ l2 ≤ (i : Int)))
        case atStart => exact ⟨0, [], 0, rfl, by omega, by omega, ⟨T0.out.1, T0.out.2.1, rfl, by omega⟩⟩
        case round =>
          obtain ⟨i, E2, l2, rfl, hg, hi, R⟩ := hrel
          by_cases hlt : i < L
          · have GG := Aside0.mk (And.intro hg hlt)
            obtain ⟨rfl, hcell⟩ := AA.out.resolve_left (by have := HN.out; omega)
            have ci := hcell i (by have := HN.out; omega) wr R.out.1.below
            have hX := AO.out i
            obtain ⟨X, hX2⟩ : ∃ X, l0.getD i 0 = X := ⟨_, rfl⟩
            rw [hX2] at ci hX
            have HX := Aside0.mk hX2
            have ewX : IntKind.i64.wrap X = X := IntWalk.i64_in _ (by omega)
            have d5 : (i : Int) < (L : Int) := by omega
            have b5 : (i : Int) ≤ 100 := by omega
            have hl0 := R.out.1.swap.facts.2.2.2.2.1
            have hlen : E2.length ≤ i := by
              have h1 := congrArg List.length R.out.2.2.1
              simp only [td, List.length_map] at h1
              have h2 := List.length_filter_le (kept out) (evs l0 i)
              rw [evs_length] at h2
              omega
            have A1 := Aside0.mk (And.intro (show addErr 0 X (evs l0 i).length = 0 from addErr_ok2 (by decide) hX.1 (by omega) (by rw [evs_length]; omega)) (And.intro (show addErr 0 X E2.length = 0 from addErr_ok2 (by decide) hX.1 (by omega) (by omega)) (And.intro (show l2 < 4294967295 by have := R.out.2.2.2; omega) R.out.2.2)))
            have OB := Aside0.mk R.out.2.1
            have OC := Aside0.mk (fun (w5 : World) (hc : Chg (OthQ w (fun k => k = gs)) wr w5) => (show OwnB 4 w5 (.slice (some ⟨gs, 0, none⟩) L L) out from OB.out.blocks (fun k hk => hc.block k (OB.out.lt k hk) (fun q => q.2 (ob hk)))))
            have OLn := Aside0.mk (show i < out.length by have := T0.out.2.2; omega)
            have hEv := evs_kept l0 out i
            clear hg hi hlt hcell hX hX2 hl0 hlen
            go_upto_region 18 with (go_at_call 11; (with_reducible refine (t_add1 R.out.1 X (i : Int) ((i : Int) + 1) _ rfl rfl A1.out.1 (by omega)).mono ?_); rintro e w5 ⟨rfl, h5, hc5⟩; have H5 := Aside0.mk (And.intro h5 (OC.out w5 hc5)); clear h5 hc5)
            have cs := H5.out.2.cell i OLn.out
            have OD := Aside0.mk (fun (w6 : World) (hc : Chg (OthQ w (fun k => k = gs)) w5 w6) => (show OwnB 4 w6 (.slice (some ⟨gs, 0, none⟩) L L) out from H5.out.2.blocks (fun k hk => hc.block k (H5.out.2.lt k hk) (fun q => q.2 (ob hk)))))
            have eE : evs l0 i ++ [⟨(i : Int) + 1, X, (i : Int)⟩] = evs l0 (i + 1) := by rw [evs_succ, ← HX.out]; rfl
            have EE := Aside0.mk (And.intro eE hEv)
            clear eE hEv
            cases hb : gb out i with
            | true =>
              rw [show out.getD i false = true from hb] at cs
              have HB := Aside0.mk hb
              clear hb
              go_wp2_with fail
              go_roundg (L - (i + 1))
              case measure => have := GG.out; omega
              case rel =>
                refine ⟨i + 1, E2, l2, by go_num, by omega, by have := GG.out; omega, ⟨by rw [← EE.out.1]; exact H5.out.1, H5.out.2, ?_, by have := A1.out.2.2.2.2; omega⟩⟩
                rw [EE.out.2, if_pos HB.out, List.append_nil]
                exact A1.out.2.2.2.1
            | false =>
              rw [show out.getD i false = false from hb] at cs
              have HB := Aside0.mk hb
              clear hb
              go_wp2_with (go_at_call 11; (with_reducible refine (t_add2 H5.out.1 X (i : Int) (l2 + 1) _ rfl rfl A1.out.2.1 A1.out.2.2.1).mono ?_); rintro e w6 ⟨rfl, h6, hc6⟩; have H6 := Aside0.mk (And.intro h6 (OD.out w6 hc6)); clear h6 hc6)
              go_roundg (L - (i + 1))
              case measure => have := GG.out; omega
              case rel =>
                refine ⟨i + 1, _, l2 + 1, by go_num, by omega, by have := GG.out; omega, ⟨by rw [← EE.out.1]; exact H6.out.1, H6.out.2, ?_, by have := A1.out.2.2.2.2; omega⟩⟩
                rw [EE.out.2, if_neg (by rw [HB.out]; decide)]
                have h9 := A1.out.2.2.2.1
                unfold td at h9 ⊢
                rw [List.map_append, List.map_append, h9]
                simp [evAt, HX.out]
                exact HX.out.symm
          · obtain rfl : i = L := by omega
            clear hg hi hlt
            have T1 := R
            clear R
            go_wp2_with fail
            go_loopg [92] i (fun g v wr => ∃ (j : Nat), v = .int .i64 (j : Int) ∧ i - j ≤ g ∧ j ≤ i ∧ Aside0 (TwoQ w wr (fun k => k = gs) q1 (keepE l0 out j i) (i : Int) 0 q2 E2 l2 0 ∧ OwnB 4 wr (.slice (some ⟨gs, 0, none⟩) i i) out))
            case atStart => exact ⟨0, rfl, by omega, by omega, ⟨by rw [keepE_zero]; exact T1.out.1, T1.out.2.1⟩⟩
            case round =>
              obtain ⟨j, rfl, hg, hj, R⟩ := hrel
              by_cases hlt : j < i
              · have GG := Aside0.mk (And.intro hg hlt)
                have d5 : (j : Int) < (i : Int) := by omega
                have b5 : (j : Int) ≤ 100 := by omega
                have cs := R.out.2.cell j (by have := T0.out.2.2; omega)
                have OC := Aside0.mk (fun (w5 : World) (hc : Chg (OthQ w (fun k => k = gs)) wr w5) => (show OwnB 4 w5 (.slice (some ⟨gs, 0, none⟩) i i) out from R.out.2.blocks (fun k hk => hc.block k (R.out.2.lt k hk) (fun q => q.2 (ob hk)))))
                have HM := Aside0.mk (keepE_mem l0 out hlt)
                have HW := Aside0.mk (show (Lit.int .i64 ((j : Int) + 1)).wf = true from wf_of (by omega) (by omega))
                clear hg hj hlt
                cases hb : gb out j with
                | true =>
                  rw [show out.getD j false = true from hb] at cs
                  have HY := Aside0.mk (keepE_yes l0 out (N := i) hb)
                  clear hb
                  have HNo := Aside0.mk (show ∀ x ∈ EvP.drop (keepE l0 out j i) ((j : Int) + 1), x.id ≠ (j : Int) + 1 from fun x hx => (mem_drop.1 hx).2)
                  go_wp2_with (first | (go_at_call 14; (with_reducible refine (t_cancel_no H5.out.1 ((j : Int) + 1) HW.out HNo.out (by omega)).mono ?_); rintro e w6 ⟨rfl, h6, hc6⟩; have H6 := Aside0.mk (And.intro h6 (H5.out.2.blocks (w1 := w6) (fun k hk => hc6.block k (H5.out.2.lt k hk) (fun q => q.2 (ob hk))))); clear h6 hc6) | (go_at_call 14; (with_reducible refine (t_cancel_yes R.out.1 ((j : Int) + 1) HW.out HM.out (by omega)).mono ?_); rintro e w5 ⟨rfl, h5, hc5⟩; have H5 := Aside0.mk (And.intro h5 (OC.out w5 hc5)); clear h5 hc5))
                  go_roundg (i - (j + 1))
                  case measure => have := GG.out; omega
                  case rel => exact ⟨j + 1, by go_num, by omega, by have := GG.out; omega, ⟨by rw [← HY.out]; exact H6.out.1, H6.out.2⟩⟩
                | false =>
                  rw [show out.getD j false = false from hb] at cs
                  have HY := Aside0.mk (keepE_no l0 out (N := i) hb)
                  clear hb
                  go_wp2_with fail
                  go_roundg (i - (j + 1))
                  case measure => have := GG.out; omega
                  case rel => exact ⟨j + 1, by go_num, by omega, by have := GG.out; omega, ⟨by rw [HY.out]; exact R.out.1, R.out.2⟩⟩
              · obtain rfl : j = i := by omega
                clear hg hj hlt
                have T2 : Aside0 (td (keepE l0 out j j) = td E2) := ⟨by rw [keepE_all]; exact T1.out.2.2.1.symm⟩
                have T3 : Aside0 ((keepE l0 out j j).length ≤ j) := ⟨by have := List.length_filter_le (keptFrom out j) (evs l0 j); rw [evs_length] at this; exact this⟩
                have L2 : Aside0 (l2 < 4294967296) := ⟨by have := T1.out.2.2.2; omega⟩
                have RR := R
                clear R
                go_wp2_with fail
                go_loopg [116] (j + 1) (fun g v wr => ∃ (m : Nat) (E1 E3 : List EvP.Ev) (n1 n2 : Int), v = .int .i64 (m : Int) ∧ j + 1 - m ≤ g ∧ m ≤ j + 1 ∧ Aside0 (TwoQ w wr (fun k => k = gs) q1 E1 (j : Int) n1 q2 E3 l2 n2 ∧ td E1 = td E3 ∧ E1.length ≤ j - m))
                case atStart => exact ⟨0, _, _, _, _, rfl, by omega, by omega, ⟨RR.out.1, T2.out, T3.out⟩⟩
                case round =>
                  obtain ⟨m, E1, E3, n1, n2, rfl, hg, hm, R⟩ := hrel
                  by_cases hlt : m < j + 1
                  · have GG := Aside0.mk (And.intro hg hlt)
                    have d5 : (m : Int) < (j : Int) + 1 := by omega
                    have b5 : (m : Int) ≤ 100 := by omega
                    have hl : E1.length = E3.length := by have := congrArg List.length R.out.2.1; simpa [td] using this
                    clear hg hm hlt
                    by_cases hE : E1 = []
                    · subst hE
                      obtain rfl : E3 = [] := List.eq_nil_of_length_eq_zero (by simpa using hl.symm)
                      clear hl
                      go_wp2_with (first | (go_at_call 12; (with_reducible refine (t_none1 R.out.1).mono ?_); rintro e w5 ⟨rfl, h5⟩; obtain rfl := h5.symm) | (go_at_call 12; (with_reducible refine (t_none2 R.out.1).mono ?_); rintro e w5 ⟨rfl, h5⟩; obtain rfl := h5.symm))
                      go_roundg (j + 1 - (m + 1))
                      case measure => have := GG.out; omega
                      case rel => exact ⟨m + 1, [], [], _, _, by go_num, by omega, by have := GG.out; omega, ⟨R.out.1, rfl, by simp⟩⟩
                    · have hp : 0 < E1.length := List.length_pos_iff.2 hE
                      have PP := Aside0.mk (And.intro hp (hl ▸ hp))
                      clear hl hE hp
                      go_upto_region 31 with (first | (go_at_call 12; (with_reducible refine (t_next2 H5.out.2 PP.out.2 L2.out).mono ?_); rintro e w6 ⟨y, hy, rfl, h6⟩; have H6 := Aside0.mk (And.intro hy h6); clear hy h6) | (go_at_call 12; (with_reducible refine (t_next1 R.out.1 PP.out.1 (by omega)).mono ?_); rintro e w5 ⟨x, hx, rfl, h5⟩; have H5 := Aside0.mk (And.intro hx h5); clear hx h5))
                      have hf1 := R.out.1.facts
                      have hf2 := R.out.1.swap.facts
                      have hT := td_next R.out.2.1 hf1.1 hf1.2.1 (by omega) hf2.1 hf2.2.1 L2.out H5.out.1 H6.out.1
                      have hlen := drop_len hf1.1 H5.out.1.1
                      have TT := Aside0.mk (And.intro hT.2.2 hlen)
                      have e1 := hT.1
                      have e2 := hT.2.1
                      clear hf1 hf2 hT hlen
                      rw [e1, e2]
                      clear e1 e2
                      go_wp2_with fail
                      go_roundg (j + 1 - (m + 1))
                      case measure => have := GG.out; omega
                      case rel => exact ⟨m + 1, _, _, _, _, by go_num, by omega, by have := GG.out; omega, ⟨H6.out.2, TT.out.1, by have := TT.out.2; have := R.out.2.2; omega⟩⟩
                  · obtain rfl : m = j + 1 := by omega
                    have hE : E1 = [] := List.eq_nil_of_length_eq_zero (by have := R.out.2.2; omega)
                    subst hE
                    clear hg hm hlt
                    have d5 : ¬ (((j + 1 : Nat) : Int) < (j : Int) + 1) := by omega
                    go_wp2_with (go_at_call 13; (with_reducible refine (t_len1 R.out.1).mono ?_); rintro e w5 ⟨rfl, h5⟩; obtain rfl := h5.symm)
                    go_ret
                    exact ⟨rfl, R.out.1.below⟩
end Go.Proofs.Ytpliaagfhjnnaaa.Ev

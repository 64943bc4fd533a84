/- The walk of the law EventsChain. -/
import Derived.Test.YtpliaagfhjnnaaaEvJ
namespace Go.Proofs.Ytpliaagfhjnnaaa.Ev
open Go.RowKit Go.Proofs.YtpliaagfhjnnaaaW.PrintWords Go.Proofs.Ytpliaagfhjnnaaa.Sep Go.Proofs.Ytpliaagfhjnnaaa.HeapP Go.Proofs.Ytpliaagfhjnnaaa.Heap Go.Proofs.Ytpliaagfhjnnaaa.EvP
set_option linter.unusedVariables false
set_option linter.unusedSimpArgs false

def bytesOk (l : List Int) : Bool := l.all fun x => decide (0 ≤ x) && decide (x ≤ 255)
theorem bytesOk_at {l : List Int} (h : bytesOk l = true) (i : Nat) : 0 ≤ l.getD i 0 ∧ l.getD i 0 ≤ 255 := by
  simp only [bytesOk, List.all_eq_true, Bool.and_eq_true, decide_eq_true_eq] at h
  rcases Nat.lt_or_ge i l.length with hi | hi
  · exact h (l.getD i 0) (by simp [List.getD_eq_getElem?_getD, List.getElem?_eq_getElem hi])
  · simp [List.getD_eq_getElem?_getD, List.getElem?_eq_none hi]
def waypointlaw51_EventsChain.f (l : List Int) (s : Int) : Option Bool := if bytesOk l = true ∧ 0 ≤ s ∧ s ≤ 255 then some true else none
set_option maxHeartbeats 16000000 in
set_option maxRecDepth 100000 in
theorem waypointlaw51_EventsChain.calls (A0 : Option Addr) (c0 : Nat) (l0 : List Int) (a1 : Int) (r : Bool) (w : World) (hr0 : Kd.C (Kd.int .u8) w A0 l0.length l0) (hc0 : l0.length ≤ c0) (h : waypointlaw51_EventsChain.f l0 a1 = some r) : Calls Try.prog 3 #[.slice A0 l0.length c0, .int .u8 a1] w fun e w' => e = .returned (.bool r) ∧ Below w.heap.size w w' := by
  unfold waypointlaw51_EventsChain.f at h
  split at h
  case isFalse => cases h
  rename_i hok
  obtain rfl : true = r := by simpa using h
  clear h
  obtain ⟨ad, hA⟩ := arg_ints hr0
  have AA := Aside0.mk hA
  obtain ⟨hok, s0, s1⟩ := hok
  have AO := Aside0.mk (bytesOk_at hok)
  clear hr0 hA hok
  obtain ⟨s, hs⟩ : ∃ s : Nat, a1 % 8 = (s : Int) := ⟨(a1 % 8).toNat, by omega⟩
  have hs2 : a1.tmod 8 = (s : Int) := by rw [Int.tmod_eq_emod_of_nonneg s0]; exact hs
  have hs3 : (s : Int) ≤ 7 := by omega
  clear hs
  obtain ⟨L, hL⟩ : ∃ L, l0.length = L := ⟨_, rfl⟩
  have HN := Aside0.mk hL
  rw [hL] at hc0 ⊢
  have hcase : L = 0 ∨ 60 < L ∨ (0 < L ∧ L ≤ 60) := by omega
  clear hL hc0
  rcases hcase with h1 | h1 | ⟨h1, h2⟩
  · subst h1
    go_enter Try.func3, Try.ntmps3
    go_wp2_with (go_at_call 9; (with_reducible refine (awake_calls _).mono ?_); rintro e w1 ⟨rfl, h1⟩; have H1 := Aside0.mk h1; clear h1)
    go_ret
    exact ⟨rfl, H1.out⟩
  · have d1 : 60 < (L : Int) := by omega
    have d0 : ((L : Int) == 0) = false := beq_eq_false_iff_ne.2 (by omega)
    clear h1
    go_enter Try.func3, Try.ntmps3
    go_wp2_with (go_at_call 9; (with_reducible refine (awake_calls _).mono ?_); rintro e w1 ⟨rfl, h1⟩; have H1 := Aside0.mk h1; clear h1)
    go_ret
    exact ⟨rfl, H1.out⟩
  · have d1 : ¬ (60 < (L : Int)) := by omega
    have d2 : decide (60 < (L : Int)) = false := decide_eq_false d1
    have d0 : ((L : Int) == 0) = false := beq_eq_false_iff_ne.2 (by omega)
    have d00 : (L == 0) = false := beq_eq_false_iff_ne.2 (by omega)
    have LL := Aside0.mk (And.intro h1 h2)
    have hmk : ∀ W : World, (Instr.makeSlice 29 (.int .i64 0) (.int .i64 300)).run Try.prog W = .ok (.slice (some ⟨W.heap.size, 0, none⟩) 0 300) (W.alloc (.cells (madeCells #[.int .i64 0] 300) 3)) := fun W => Go.run_make_room (P := Try.prog) 29 3 (.int .i64 0) 8 Try.underlying29 infoInt rfl .i64 .i64 300 (by omega) (by omega) W
    have MK := Aside0.mk hmk
    have ewS : IntKind.i64.wrap (s : Int) = (s : Int) := IntWalk.i64_in _ (by omega)
    have ewS1 : wrap64 (1 + (s : Int)) = 1 + (s : Int) := by unfold wrap64; omega
    clear h1 h2 hmk
    go_enter Try.func3, Try.ntmps3
    go_wp2_with (first | (go_at_call 9; (with_reducible refine (awake_calls _).mono ?_); rintro e w1 ⟨rfl, h1⟩; have H1 := Aside0.mk h1; clear h1) | (go_at_call 10; (with_reducible refine (q_new H1.out).mono ?_); rintro e w2 ⟨q, rfl, h2⟩; have H2 := Aside0.mk h2; clear h2))
    go_loopg [35, 6] (s + 1) (fun g v u wr => ∃ j : Nat, v = .int .i64 (j : Int) ∧ u = .int .i64 (j : Int) ∧ s + 1 - j ≤ g ∧ j ≤ s + 1 ∧ Aside0 (QS w wr (fun _ => False) q (evs [] j) (j : Int) 0))
    case atStart => exact ⟨0, rfl, rfl, by omega, by omega, ⟨H2.out⟩⟩
    case round =>
      obtain ⟨j, rfl, rfl, hg, hj, R⟩ := hrel
      by_cases hlt : j < s + 1
      · have GG := Aside0.mk (And.intro hg hlt)
        have d3 : (j : Int) < 1 + (s : Int) := by omega
        have b2 : (j : Int) ≤ 300 := by omega
        have A1 := Aside0.mk (show addErr 0 0 (evs [] j).length = 0 from addErr_ok2 (by decide) (by decide) (by decide) (by rw [evs_length]; omega))
        clear hg hj hlt
        go_wp2_with (go_at_call 11; (with_reducible refine (q_add_ok R.out 0 (j : Int) ((j : Int) + 1) _ rfl rfl A1.out (by omega)).mono ?_); rintro e w3 ⟨rfl, h3, _⟩; have H3 := Aside0.mk h3; clear h3)
        go_roundg (s + 1 - (j + 1))
        case measure => have := GG.out; omega
        case rel =>
          refine ⟨j + 1, by go_num, by go_num, by omega, by have := GG.out; omega, ⟨?_⟩⟩
          rw [evs_succ]
          exact H3.out
      · obtain rfl : j = s + 1 := by omega
        have d3 : ¬ (((s + 1 : Nat) : Int) < 1 + (s : Int)) := by omega
        have d4 : decide (((s + 1 : Nat) : Int) < 1 + (s : Int)) = false := decide_eq_false d3
        clear hg hj hlt
        have hmk := MK.out
        go_wp2_with fail
        obtain ⟨ga, hga⟩ : ∃ ga, wr.heap.size = ga := ⟨_, rfl⟩
        have S0 : QS w (World.drew (wr.alloc (.cells (madeCells #[.int .i64 0] 300) 3))) (fun k => (.slice (some ⟨ga, 0, none⟩) 0 300 : Value).ownBlock = some k) q (evs [] (s + 1)) ((s + 1 : Nat) : Int) 0 ∧ OwnI 3 (World.drew (wr.alloc (.cells (madeCells #[.int .i64 0] 300) 3))) (.slice (some ⟨ga, 0, none⟩) 0 300) [] ∧ w.heap.size ≤ ga := by
          subst hga
          exact ⟨(R.out.beside _ ((Chg.refl _ _).alloc _) (fun k e => by
            have e2 : some wr.heap.size = some k := e
            injection e2 with e2
            exact ⟨by rw [← e2]; simp, .inl (by omega)⟩)).drew, (own_room wr 300 (by decide)).drewN 1, R.out.below.size⟩
        have SS := Aside0.mk S0
        clear S0
        go_region
        go_wp2_with fail
        generalize World.drew (wr.alloc (.cells (madeCells #[.int .i64 0] 300) 3)) = wa at SS ⊢
        clear hga hmk R d3 d4
        have GA := Aside0.mk SS.out.2.2
        go_loopg [50, 10] (s + 1) (fun g v u wr => ∃ (j : Nat) (sl : Value), v = .int .i64 (j : Int) ∧ u = sl ∧ s + 1 - j ≤ g ∧ j ≤ s + 1 ∧ Aside0 (QS w wr (fun k => sl.ownBlock = some k) q (evs [] (s + 1)) ((s + 1 : Nat) : Int) 0 ∧ OwnI 3 wr sl (List.replicate j 0) ∧ ∀ k, sl.ownBlock = some k → w.heap.size ≤ k))
        case atStart => exact ⟨0, _, rfl, rfl, by omega, by omega, ⟨SS.out.1, SS.out.2.1, fun k hk => by rw [ob hk]; exact GA.out⟩⟩
        case round =>
          obtain ⟨j, sl, rfl, hu, hg, hj, R⟩ := hrel
          obtain rfl := hu.symm
          by_cases hlt : j < s + 1
          · have GG := Aside0.mk (And.intro hg hlt)
            have d3 : (j : Int) < (s : Int) + 1 := by omega
            have b2 : (j : Int) ≤ 300 := by omega
            have BJ := Aside0.mk (show j ≤ 8 by omega)
            clear hg hj hlt
            go_wp2_with (at_builtin; refine print_append_num 0 rfl (.tmp 52) (.tmp 53) 29 3 .i64 8 rfl Try.underlying29 infoInt (by omega) sl (List.replicate j 0) 0 rfl (by simp [Act.eval]) R.out.2.1 (Below.refl _ _) (Nat.zero_le _) (by have := BJ.out; rw [List.length_replicate]; omega) ?_; intro v1 w1 hown hB hg hat; have P1 := Aside0.mk (And.intro (R.out.1.appended R.out.2.2 hg hat (fun k hk => OwnI.lt (e := 3) hown k hk)) hown); clear hown hB hg hat)
            go_roundg (s + 1 - (j + 1))
            case measure => have := GG.out; omega
            case rel =>
              refine ⟨j + 1, _, by go_num, rfl, by omega, by have := GG.out; omega, ⟨P1.out.1.1, ?_, P1.out.1.2⟩⟩
              rw [List.replicate_succ']
              exact P1.out.2
          · obtain rfl : j = s + 1 := by omega
            clear hg hj hlt
            have S1 : ChainQ w q (s + 1) wr 0 (s + 1) (evs [] (s + 1)) (List.replicate (s + 1) 0) sl 0 (-1) := by
              have hge : ∀ k, evAt (List.replicate (s + 1) 0) k = evAt [] k := fun k => by
                simp only [evAt, List.getD_eq_getElem?_getD, List.getElem?_replicate]
                split <;> simp
              refine ⟨R.out.1, R.out.2.1, by simp, R.out.2.2, fun e he => ?_, evs_length _ _, fun e he => ?_, fun e he _ => ?_, by omega⟩
              · obtain ⟨k, hk, e1⟩ := mem_evs he
                exact ⟨k, hk, by rw [hge]; exact e1⟩
              · obtain ⟨k, hk, e1⟩ := mem_evs he
                rw [e1]
                simp [evAt]
              · obtain ⟨k, hk, e1⟩ := mem_evs he
                rw [e1]
                show -1 ≤ (k : Int)
                omega
            have SS1 := Aside0.mk S1
            clear S1 R
            go_wp2_with fail
            go_loopg [56, 9, 10, 11, 12, 6] 200 (fun g v nw sl lt lv nn wr => ∃ (j n : Nat) (E : List EvP.Ev) (AL : List Int) (V : Value) (now ld : Int), v = .int .i64 (j : Int) ∧ nw = .int .i64 now ∧ sl = V ∧ lt = .int .i64 now ∧ lv = .int .i64 ld ∧ nn = .int .i64 (n : Int) ∧ 200 - j ≤ g ∧ j ≤ 200 ∧ Aside0 (ChainQ w q (s + 1) wr j n E AL V now ld))
            case atStart => exact ⟨0, s + 1, _, _, _, 0, -1, rfl, rfl, rfl, rfl, rfl, by go_num, by omega, by omega, SS1⟩
            case round =>
              obtain ⟨j, n, E, AL, V, now, ld, rfl, rfl, rfl, rfl, rfl, rfl, hg, hj, R⟩ := hrel
              by_cases hlt : j < 200
              · have GG := Aside0.mk (And.intro hg hlt)
                have d3 : (j : Int) < 200 := by omega
                have NJ := Aside0.mk (show n ≤ 300 by have := R.out.nj; omega)
                have b3 : (n : Int) ≤ 300 := by have := NJ.out; omega
                clear hg hj hlt
                go_upto_region 24 with (go_at_call 12; (with_reducible refine (q_next_some R.out.ho (by have := R.out.el; omega) (by have := NJ.out; omega)).mono ?_); rintro e w3 ⟨x, hx, rfl, h3, hc3⟩; have H3 := Aside0.mk (And.intro hx (And.intro h3 hc3)); clear hx h3 hc3)
                obtain ⟨rfl, hcell⟩ := AA.out.resolve_left (by have := HN.out; have := LL.out; omega)
                obtain ⟨k, hk, hxk⟩ := R.out.form x H3.out.1.1
                obtain ⟨gb, cb, hV, _⟩ := R.out.own.form (by have := R.out.ln; omega)
                subst hV
                have hln := R.out.ln
                have h3b := H3.out.2.1
                have hc3 := H3.out.2.2
                have own3 : OwnI 3 w3 (.slice (some ⟨gb, 0, none⟩) AL.length cb) AL := R.out.own.blocks (fun k hk => hc3.block k (R.out.own.lt k hk) (fun q => q.2 hk))
                have ck := own3.cell k (by omega)
                obtain ⟨X, hX⟩ : ∃ X, AL.getD k 0 = X := ⟨_, rfl⟩
                rw [hX] at ck
                have ht : x.time = X := by rw [hxk]; exact hX
                have hd : x.data = (k : Int) := by rw [hxk]; rfl
                have hX1 : now ≤ X ∧ X ≤ 255 * (j : Int) ∧ 0 ≤ now := ⟨by rw [← ht]; exact (R.out.ho.facts.2.2.1 x H3.out.1.1).1, by rw [← ht]; exact R.out.tm x H3.out.1.1, R.out.ho.facts.2.2.2.1.1⟩
                obtain ⟨m, hm⟩ : ∃ m, j % L = m := ⟨_, rfl⟩
                have hmL : m < L := by rw [← hm]; exact Nat.mod_lt _ LL.out.1
                have hm2 : (j : Int).tmod (L : Int) = (m : Int) := by rw [Int.tmod_eq_emod_of_nonneg (by omega), ← hm]; exact (Int.natCast_emod j L).symm
                have cm := hcell m (by have := HN.out; omega) w3 h3b.below
                have hD := AO.out m
                obtain ⟨D, hD2⟩ : ∃ D, l0.getD m 0 = D := ⟨_, rfl⟩
                rw [hD2] at cm hD
                have ewD : IntKind.i64.wrap D = D := IntWalk.i64_in _ (by omega)
                obtain ⟨Y, hY⟩ : ∃ Y, X + D = Y := ⟨_, rfl⟩
                have hwY : wrap64 (X + D) = Y := by unfold wrap64; omega
                have hld : X = now → ld ≤ (k : Int) := fun e => by have := R.out.ld_ x H3.out.1.1 (by rw [ht]; exact e); rw [hd] at this; exact this
                have A2 := Aside0.mk (show addErr X Y (EvP.drop E x.id).length = 0 from addErr_ok2 (by omega) (by omega) (by omega) (by have := drop_len R.out.ho.facts.1 H3.out.1.1; have := R.out.el; omega))
                rw [ht] at h3b
                rw [ht, hd, hln]
                rw [hln] at own3
                have N3 := Aside0.mk (And.intro h3b own3)
                have S6 := Aside0.mk (fun (w5 w6 : World) (v1 : Value) (h5 : QS w w5 (fun k => (.slice (some ⟨gb, 0, none⟩) AL.length cb : Value).ownBlock = some k) q (EvP.drop E x.id ++ [⟨(n : Int) + 1, Y, (n : Int)⟩]) ((n : Int) + 1) X) (ho : OwnI 3 w6 v1 (AL ++ [Y])) (hg : w5.grownBy w6 (.slice (some ⟨gb, 0, none⟩) AL.length cb : Value).ownBlock) (hat : v1.ownBlock = (.slice (some ⟨gb, 0, none⟩) AL.length cb : Value).ownBlock ∨ ∃ b, v1.ownBlock = some b ∧ w5.heap.size ≤ b) => (show ChainQ w q (s + 1) w6 (j + 1) (n + 1) _ (AL ++ [Y]) v1 X (k : Int) from by
                  have e1 : (evAt AL k).time = X := by rw [← hxk]; exact ht
                  have h1 := R.out.step (k := k) (Y := Y) (v1 := v1) (w5 := w5) (w6 := w6) (by rw [← hxk]; exact H3.out.1) hk NJ.out (by rw [e1, ← hxk]; exact h5) (by rw [e1]; omega) ho hg hat
                  rw [e1] at h1
                  exact h1))
                have OW := Aside0.mk (fun (w5 : World) (hc5 : Chg (OthQ w (fun k => (.slice (some ⟨gb, 0, none⟩) AL.length cb : Value).ownBlock = some k)) w3 w5) => (show OwnI 3 w5 (.slice (some ⟨gb, 0, none⟩) AL.length cb) AL from OwnI.blocks (hln ▸ own3) (fun k hk => hc5.block k (OwnI.lt own3 k hk) (fun q => q.2 hk))))
                have LN := Aside0.mk hln
                have d4 : (k : Int) < (n : Int) := by omega
                have d5 : ¬ ((n : Int) ≤ (k : Int)) := by omega
                have d6 : decide ((n : Int) ≤ (k : Int)) = false := decide_eq_false d5
                have d7 : decide (n ≤ k) = false := decide_eq_false (by omega)
                have d8 : decide (X < now) = false := decide_eq_false (by omega)
                have d9 : (m : Int) < (L : Int) := by omega
                clear hcell hc3 hxk ht hd hX1 hm hmL hD hY hln h3b own3 hX hD2 H3 hk
                by_cases hxn : X = now
                · have e1 := hld hxn
                  have e2 : decide ((k : Int) < ld) = false := decide_eq_false (by omega)
                  subst hxn
                  clear hld e1
                  go_wp2_with (first | (go_at_call 11; (with_reducible refine (q_add_ok N3.out.1 Y (n : Int) ((n : Int) + 1) _ rfl rfl A2.out (by have := NJ.out; omega)).mono ?_); rintro e w5 ⟨rfl, h5, hc5⟩; have O5 := Aside0.mk (And.intro h5 (OW.out w5 hc5)); clear h5 hc5) | (at_builtin; refine print_append_num 0 rfl (.tmp 128) (.tmp 130) 29 3 .i64 8 rfl Try.underlying29 infoInt (by omega) (.slice (some ⟨gb, 0, none⟩) n cb) AL Y rfl (by simp [Act.eval]) (LN.out ▸ O5.out.2) (Below.refl _ _) (Nat.zero_le _) (by have := NJ.out; have := LN.out; omega) ?_; intro v1 w6 hown hB hg hat; have P6 := Aside0.mk (S6.out w5 w6 v1 (LN.out.symm ▸ O5.out.1) hown (LN.out.symm ▸ hg) (LN.out.symm ▸ hat)); clear hown hB hg hat))
                  go_roundg (200 - (j + 1))
                  case measure => have := GG.out; omega
                  case rel => exact ⟨j + 1, n + 1, _, _, _, _, _, by go_num, rfl, rfl, rfl, rfl, by go_num, by omega, by have := GG.out; omega, P6⟩
                · have e2 : (X == now) = false := beq_eq_false_iff_ne.2 hxn
                  clear hld hxn
                  go_wp2_with (first | (go_at_call 11; (with_reducible refine (q_add_ok N3.out.1 Y (n : Int) ((n : Int) + 1) _ rfl rfl A2.out (by have := NJ.out; omega)).mono ?_); rintro e w5 ⟨rfl, h5, hc5⟩; have O5 := Aside0.mk (And.intro h5 (OW.out w5 hc5)); clear h5 hc5) | (at_builtin; refine print_append_num 0 rfl (.tmp 128) (.tmp 130) 29 3 .i64 8 rfl Try.underlying29 infoInt (by omega) (.slice (some ⟨gb, 0, none⟩) n cb) AL Y rfl (by simp [Act.eval]) (LN.out ▸ O5.out.2) (Below.refl _ _) (Nat.zero_le _) (by have := NJ.out; have := LN.out; omega) ?_; intro v1 w6 hown hB hg hat; have P6 := Aside0.mk (S6.out w5 w6 v1 (LN.out.symm ▸ O5.out.1) hown (LN.out.symm ▸ hg) (LN.out.symm ▸ hat)); clear hown hB hg hat))
                  go_roundg (200 - (j + 1))
                  case measure => have := GG.out; omega
                  case rel => exact ⟨j + 1, n + 1, _, _, _, _, _, by go_num, rfl, rfl, rfl, rfl, by go_num, by omega, by have := GG.out; omega, P6⟩
              · obtain rfl : j = 200 := by omega
                clear hg hj hlt
                have hl : (E.length : Int) = 1 + (s : Int) := by have := R.out.el; omega
                have HL := Aside0.mk hl
                clear hl
                go_wp2_with (go_at_call 13; (with_reducible refine (q_len R.out.ho).mono ?_); rintro e w3 ⟨rfl, h3⟩; obtain rfl := h3.symm; rw [HL.out])
                go_ret
                exact ⟨rfl, R.out.ho.below⟩
end Go.Proofs.Ytpliaagfhjnnaaa.Ev

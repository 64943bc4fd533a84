/- The walk of the law ChannelIdle. -/
import Derived.Test.YtkdkdhbkmhkjfaaChY
namespace Go.Proofs.Ytkdkdhbkmhkjfaa.Ch
open Go.RowKit Go.Proofs.YtkdkdhbkmhkjfaaW.PrintWords Go.Proofs.YtkdkdhbkmhkjfaaW.PrintLast Go.Proofs.Ytkdkdhbkmhkjfaa.Sep Go.Proofs.Ytkdkdhbkmhkjfaa.ChP Go.Proofs.Ytkdkdhbkmhkjfaa.PT52
set_option linter.unusedVariables false
set_option linter.unusedSimpArgs false

theorem steps_n {w : World} {A : Option Addr} {c N : Nat} (l : List Int) (hN : l.length = N) (hr : Kd.C (Kd.int .u8) w A l.length l) (hc : l.length ≤ c) (hb : By l) (hl : N ≤ 200) :
    Calls Try.prog 12 #[.slice A N c] w fun e w' => ∃ B d, e = .returned (.slice B N d) ∧ OwnI 3 w' (.slice B N d) (stp 0 l) ∧ Below w.heap.size w w' ∧ ∀ k, (Value.slice B N d).ownBlock = some k → w.heap.size ≤ k := by
  subst hN
  exact steps_c l hr hc hb hl
theorem SameCfg.trans {s t u : St} (a : SameCfg s t) (b : SameCfg t u) : SameCfg s u := ⟨b.dl.trans a.dl, b.rt.trans a.rt, b.rm.trans a.rm, b.sc.trans a.sc⟩
theorem idle_send {s : St} {nw : Int} (h : Near s nw) (hl : s.ds.length ≤ 200) (hla : s.la = nw) (h0 : 0 ≤ nw) (h1 : nw ≤ 1400) (hs : s.sc = []) : sErr s (nw + 201) = 0 ∧ sArr s (nw + 201) = [nw + 201 + s.dl] ∧ wait (sSt s (nw + 201)).ds (nw + 201) = 0 := by
  obtain ⟨e1, e2, e3⟩ := h.idle (x := nw + 201) (by omega) (by omega)
  have e0 : sErr s (nw + 201) = 0 := by
    rcases err_cases (s := s) (now := nw + 201) (by omega) (by omega) (by omega) with ⟨q, _⟩ | ⟨_, q⟩
    · exact q
    · unfold full at q
      rw [e1, decide_eq_false (by omega)] at q
      cases q
  refine ⟨e0, ?_, ?_⟩
  · unfold sArr
    rw [if_pos e0, e1]
    have : sFate s = zF := by unfold sFate; rw [hs]; rfl
    rw [this]
    rfl
  · unfold sSt
    rw [if_pos e0]
    show wait (s.ds ++ [dep s.rt s.ds (nw + 201)]) (nw + 201) = 0
    rw [e1]
    exact e3
theorem wait_zero {w0 w : World} {O : Nat → Prop} {c : Nat} {s : St} (h : CS 55 50 w0 w O c s) (ok : Ok s) (now : Int) (hw : wait s.ds now = 0) :
    Calls Try.prog 16 #[.pointer (some ⟨c, 0, none⟩), .int .i64 now] w fun e w' => e = .returned (.int .i64 0) ∧ Below w.heap.size w w' := by
  refine (cs_wait h ok now).mono fun e w' he => ?_
  rw [hw] at he
  exact he
structure IdR (w2 : World) (c N : Nat) (row : Value) (S : List Int) (s0 : St) (wr : World) (s : St) (i : Nat) (nw : Int) : Prop where
  ir : IR w2 wr (fun k => False ∨ row.ownBlock = some k) c row S s i nw
  near : Near s nw
  cfg : SameCfg s0 s
  n0 : 0 ≤ nw
  n1 : nw ≤ 1400
  nx : i < N → nw ≤ gl S i
def waypointlaw52_ChannelIdle.f (a0 a1 a2 : Int) (l3 : List S40) (l4 l1 : List Int) : Option Bool := if byOk l1 = true then some true else none
set_option maxHeartbeats 16000000 in
set_option maxRecDepth 100000 in
theorem waypointlaw52_ChannelIdle.calls (a0_0 a0_1 a0_2 : Int) (A0_3 : Option Addr) (c0_3 : Nat) (l0_3 : List S40) (A0_4 : Option Addr) (c0_4 : Nat) (l0_4 : List Int) (A1 : Option Addr) (c1 : Nat) (l1 : List Int) (r : Bool) (w : World) (hr0_3 : Kd.C k40 w A0_3 l0_3.length l0_3) (hc0_3 : l0_3.length ≤ c0_3) (hr0_4 : Kd.C (Kd.int .i64) w A0_4 l0_4.length l0_4) (hc0_4 : l0_4.length ≤ c0_4) (hr1 : Kd.C (Kd.int .u8) w A1 l1.length l1) (hc1 : l1.length ≤ c1) (h : waypointlaw52_ChannelIdle.f a0_0 a0_1 a0_2 l0_3 l0_4 l1 = some r) :
    Calls Try.prog 5 #[.agg #[.int .i64 a0_0, .int .i64 a0_1, .int .i64 a0_2, .slice A0_3 l0_3.length c0_3, .slice A0_4 l0_4.length c0_4], .slice A1 l1.length c1] w fun e w' => e = .returned (.bool r) ∧ Below w.heap.size w w' := by
  unfold waypointlaw52_ChannelIdle.f at h
  split at h
  case isFalse => cases h
  rename_i hok
  obtain rfl : true = r := by simpa using h
  clear h
  have BY := Aside0.mk (byOk_by hok)
  have R3 := Aside0.mk (And.intro hr0_3 hc0_3)
  have R4 := Aside0.mk (And.intro hr0_4 hc0_4)
  have R1 := Aside0.mk (And.intro hr1 hc1)
  clear hr0_3 hc0_3 hr0_4 hc0_4 hr1 hc1 hok
  have hbk : (w.alloc (.cells #[.int .i64 a0_0, .int .i64 a0_1, .int .i64 a0_2, .slice A0_3 l0_3.length c0_3, .slice A0_4 l0_4.length c0_4] 25)).heap[w.heap.size]? = some (.cells #[.int .i64 a0_0, .int .i64 a0_1, .int .i64 a0_2, .slice A0_3 l0_3.length c0_3, .slice A0_4 l0_4.length c0_4] 25 (0, 0)) := heap_alloc_new w _
  have hbb : Below w.heap.size w (w.alloc (.cells #[.int .i64 a0_0, .int .i64 a0_1, .int .i64 a0_2, .slice A0_3 l0_3.length c0_3, .slice A0_4 l0_4.length c0_4] 25)) := (Below.refl _ _).alloc (Nat.le_refl _) _
  have KB := Aside0.mk (And.intro hbk hbb)
  clear hbk hbb
  obtain ⟨N3, hN3⟩ : ∃ N, l0_3.length = N := ⟨_, rfl⟩
  obtain ⟨N4, hN4⟩ : ∃ N, l0_4.length = N := ⟨_, rfl⟩
  obtain ⟨N, hN⟩ : ∃ N, l1.length = N := ⟨_, rfl⟩
  obtain ⟨lg, hlg⟩ : ∃ lg, (decide (200 < (N3 : Int)) || decide (200 < (N4 : Int))) = lg := ⟨_, rfl⟩
  have LG := Aside0.mk (show (decide (200 < (l0_3.length : Int)) || decide (200 < (l0_4.length : Int))) = lg by rw [hN3, hN4]; exact hlg)
  have LL := Aside0.mk (And.intro hN3 (And.intro hN4 hN))
  rw [hN3, hN4] at KB
  rw [hN3, hN4, hN]
  have hcase : lg = true ∨ (lg = false ∧ 200 < N) ∨ (lg = false ∧ N ≤ 200) := by
    cases lg
    · rcases Nat.lt_or_ge 200 N with q | q
      · exact .inr (.inl ⟨rfl, q⟩)
      · exact .inr (.inr ⟨rfl, q⟩)
    · exact .inl rfl
  clear hN3 hN4 hN hlg
  go_enter Try.func5, Try.ntmps5
  go_upto_region 1 with (fail)
  obtain ⟨b, hb⟩ : ∃ b, w.heap.size = b := ⟨_, rfl⟩
  have KB2 := KB.out
  rw [hb] at KB2 ⊢
  clear KB
  generalize w.alloc (.cells #[.int .i64 a0_0, .int .i64 a0_1, .int .i64 a0_2, .slice A0_3 N3 c0_3, .slice A0_4 N4 c0_4] 25) = wb at KB2 ⊢
  have KB := Aside0.mk KB2
  have HB := Aside0.mk hb
  clear KB2 hb
  go_upto_region 3 with (go_at_call 9; (with_reducible refine (awake_calls _).mono ?_); rintro e w1 ⟨rfl, h1⟩; have H1 := Aside0.mk h1; clear h1)
  have k1 := (Chg.of_below (F := fun _ => False) H1.out).at_ KB.out.1 (fun q => q)
  have f0 := blk_at k1 0 _ rfl
  have f1 := blk_at k1 1 _ rfl
  have f2 := blk_at k1 2 _ rfl
  have f3 := blk_at k1 3 _ rfl
  have f4 := blk_at k1 4 _ rfl
  have B1 := Aside0.mk (show Below w.heap.size w w1 from by have := KB.out.2; rw [← HB.out] at this; exact below_step this H1.out)
  have K1 := Aside0.mk k1
  clear k1
  rcases hcase with rfl | ⟨rfl, h2⟩ | ⟨rfl, h2⟩
  · go_wp2_with (go_at_call 10; (with_reducible refine (large_c' a0_0 a0_1 a0_2 l0_3 l0_4 (Kd.C_below R3.out.1 B1.out) R3.out.2 (Kd.C_below R4.out.1 B1.out) R4.out.2 true LG.out LL.out.1 LL.out.2.1).mono ?_); rintro e w2 ⟨rfl, h2⟩; have H2 := Aside0.mk h2; clear h2)
    go_ret
    exact ⟨rfl, below_step B1.out H2.out⟩
  · have d1 : 200 < (N : Int) := by omega
    clear h2
    go_wp2_with (go_at_call 10; (with_reducible refine (large_c' a0_0 a0_1 a0_2 l0_3 l0_4 (Kd.C_below R3.out.1 B1.out) R3.out.2 (Kd.C_below R4.out.1 B1.out) R4.out.2 false LG.out LL.out.1 LL.out.2.1).mono ?_); rintro e w2 ⟨rfl, h2⟩; have H2 := Aside0.mk h2; clear h2)
    go_ret
    exact ⟨rfl, below_step B1.out H2.out⟩
  · have d1 : decide (200 < (N : Int)) = false := decide_eq_false (by omega)
    have bN : (N : Int) ≤ 200 := by omega
    have NN := Aside0.mk h2
    clear h2
    go_upto_region 5 with (go_at_call 10; (with_reducible refine (large_c' a0_0 a0_1 a0_2 l0_3 l0_4 (Kd.C_below R3.out.1 B1.out) R3.out.2 (Kd.C_below R4.out.1 B1.out) R4.out.2 false LG.out LL.out.1 LL.out.2.1).mono ?_); rintro e w2 ⟨rfl, h2⟩; have H2 := Aside0.mk h2; clear h2)
    clear f0 f1 f2 f3 f4
    have k2 := (Chg.of_below (F := fun _ => False) H2.out).at_ K1.out (fun q => q)
    have f0 := blk_at k2 0 _ rfl
    have f1 := blk_at k2 1 _ rfl
    have f2 := blk_at k2 2 _ rfl
    have K2 := Aside0.mk k2
    have B2 := Aside0.mk (below_step B1.out H2.out)
    clear k2 K1
    by_cases hnum : numsOk a0_0 a0_1 a0_2 = true
    case neg =>
      have HV : Aside0 (valid a0_0 a0_1 a0_2 [] = false) := ⟨by simp [valid, hnum]⟩
      clear hnum
      go_wp2_with (go_at_call 11; (with_reducible refine (cs_new_no a0_0 a0_1 a0_2 (.slice none 0 0) [] (OwnF.nil _ _) (by decide) HV.out).mono ?_); rintro e w3 ⟨rfl, h3⟩; have H3 := Aside0.mk h3; clear h3)
      go_ret
      exact ⟨rfl, below_step B2.out H3.out⟩
    have HV := Aside0.mk (valid_nil hnum)
    have NUM := Aside0.mk (numsOk_at hnum)
    clear hnum
    go_upto_region 9 with (go_at_call 11; (with_reducible refine (cs_new (Below.refl _ w2) a0_0 a0_1 a0_2 (.slice none 0 0) [] (OwnF.nil _ _) (by decide) HV.out).mono ?_); rintro e w3 ⟨c, rfl, h3, h3b⟩; have H3 := Aside0.mk (And.intro h3 h3b); clear h3 h3b)
    go_wp2_with (go_at_call 12; (with_reducible refine (steps_n l1 LL.out.2.2 (Kd.C_below R1.out.1 (below_step B2.out H3.out.2)) R1.out.2 BY.out NN.out).mono ?_); rintro e w4 ⟨B, d, rfl, ho, hb4, hv4⟩; have H4 := Aside0.mk (And.intro ho (And.intro hb4 hv4)); clear ho hb4 hv4)
    have S0 := Aside0.mk (show IdR w2 c N (.slice B N d) (stp 0 l1) ⟨a0_0, a0_1, a0_2, [], [], 0, 0⟩ w4 ⟨a0_0, a0_1, a0_2, [], [], 0, 0⟩ 0 0 from
      ⟨⟨CS.more H3.out.1 (Chg.of_below H4.out.2.1) (fun k hk => ⟨H4.out.2.2 k hk, OwnI.lt H4.out.1 k hk⟩), ok_new HV.out (by decide), rfl, Nat.le_refl _, rfl, H4.out.1, fun k hk => .inr hk⟩, fun t ht => by simp at ht, ⟨rfl, rfl, rfl, rfl⟩, Int.le_refl _, by decide, fun h => (stp_at l1 0 (Int.le_refl _) 0 (by rw [LL.out.2.2]; exact h)).1⟩)
    have LS := Aside0.mk (show (stp 0 l1).length = N by rw [stp_len]; exact LL.out.2.2)
    clear f0 f1 f2
    go_loopg [42, 7] N (fun g v u wr => ∃ (i : Nat) (nw : Int) (s : St), v = .int .i64 (i : Int) ∧ u = .int .i64 nw ∧ N - i ≤ g ∧ i ≤ N ∧ Aside0 (IdR w2 c N (.slice B N d) (stp 0 l1) ⟨a0_0, a0_1, a0_2, [], [], 0, 0⟩ wr s i nw))
    case atStart => exact ⟨0, 0, _, rfl, rfl, by omega, by omega, S0⟩
    case round =>
      obtain ⟨i, nw, s, rfl, rfl, hg, hi, R⟩ := hrel
      by_cases hlt : i < N
      · have GG := Aside0.mk (And.intro hg hlt)
        have d3 : (i : Int) < (N : Int) := by omega
        have b3 : (i : Int) ≤ 200 := by omega
        obtain ⟨g2, rfl, ci⟩ := R.out.ir.at_ (k := i) (by rw [LS.out]; exact hlt)
        obtain ⟨x, hx⟩ : ∃ x, gl (stp 0 l1) i = x := ⟨_, rfl⟩
        have ha := stp_at l1 0 (Int.le_refl _) i (by rw [LL.out.2.2]; exact hlt)
        have hn := R.out.nx hlt
        rw [hx] at ci ha hn
        have HA := Aside0.mk (show 0 ≤ x ∧ x ≤ 1400 ∧ nw ≤ x ∧ (i + 1 < N → x ≤ gl (stp 0 l1) (i + 1)) from ⟨ha.1, by have := ha.2.1; have := LL.out.2.2; have := NN.out; omega, hn, fun q => ha.2.2 (by rw [LL.out.2.2]; exact q)⟩)
        clear hg hi hlt hx ha hn
        go_wp2_with (go_at_call 13; (with_reducible refine (R.out.ir.send (x := x) HA.out.2.2.1 HA.out.1 (by have := HA.out.2.1; omega) (by have := GG.out.2; have := NN.out; omega) _ rfl _ rfl).mono ?_); rintro e w5 ⟨A5, c5, rfl, r5, h5, g5⟩; have H5 := Aside0.mk h5; clear r5 h5 g5)
        go_roundg (N - (i + 1))
        case measure => have := GG.out; omega
        case rel =>
          have hf := step_facts (s := s) (x := x) HA.out.1 (by have := HA.out.2.1; omega) (by rw [R.out.ir.la]; exact HA.out.2.2.1)
          exact ⟨i + 1, x, _, by go_num, rfl, by omega, by have := GG.out; omega, ⟨⟨H5.out.less (fun k hk => .inl hk) (fun k hk => .inr hk), R.out.near.step HA.out.2.2.1 HA.out.1 (by have := HA.out.2.1; omega) (by rw [R.out.ir.la]; exact HA.out.2.2.1), R.out.cfg.trans hf.2.2.2.1, HA.out.1, HA.out.2.1, HA.out.2.2.2⟩⟩⟩
      · obtain rfl : i = N := by omega
        have d3 : ¬ ((i : Int) < (i : Int)) := by omega
        have n0 := R.out.n0
        have n1 := R.out.n1
        have ID := Aside0.mk (idle_send R.out.near (by have := R.out.ir.len; have := NN.out; omega) R.out.ir.la n0 n1 R.out.cfg.sc)
        have hdl : s.dl = a0_0 := R.out.cfg.dl
        rw [hdl] at ID
        have hnum := NUM.out
        have FK := Aside0.mk (fun (W : World) (hW : Below w2.heap.size w2 W) => (show W.cell? ⟨b, 0, none⟩ = some (.int .i64 a0_0) from blk_at ((Chg.of_below (F := fun _ => False) hW).at_ K2.out (fun q => q)) 0 _ rfl))
        obtain ⟨T, hT⟩ : ∃ T, nw + 201 = T := ⟨_, rfl⟩
        obtain ⟨L, hL⟩ : ∃ L, T + a0_0 = L := ⟨_, rfl⟩
        have wT : wrap64 (nw + 201) = T := by rw [← hT]; exact wr_id _ (by omega) (by omega)
        have wL : wrap64 (T + a0_0) = L := by rw [← hL]; exact wr_id _ (by omega) (by omega)
        rw [hT, hL] at ID
        have XX := Aside0.mk (show nw ≤ T ∧ 0 ≤ T ∧ T ≤ 1073741824 by omega)
        clear hg hi hlt d3 hT hL n0 n1 hnum hdl
        go_upto_region 16 with (go_at_call 13; (with_reducible refine (R.out.ir.send (x := T) XX.out.1 XX.out.2.1 XX.out.2.2 (by have := NN.out; omega) 0 ID.out.1 [L] ID.out.2.1).mono ?_); rintro e w6 ⟨A6, c6, rfl, r6, h6, g6⟩; have H6 := Aside0.mk h6; have R6 := Aside0.mk r6; clear r6 h6 g6)
        have f0 := FK.out w6 H6.out.cs.below
        go_wp2_with (first | (go_at_call 15; (with_reducible refine (same_c (n := 1) (n2 := 1) [L] [L] (by simp) rfl rfl (own_rd R6.out ((Below.refl _ _).alloc (Nat.le_refl _) _)) (lit_reads w6 L) true (by simp)).mono ?_); rintro e w7 ⟨rfl, h7⟩; have H7 := Aside0.mk (below_step ((Below.refl _ w6).alloc (Nat.le_refl _) _) h7); clear h7) | (go_at_call 16; (with_reducible refine (wait_zero (H6.out.cs.old H7.out) H6.out.ok T ID.out.2.2).mono ?_); rintro e w8 ⟨rfl, h8⟩; have H8 := Aside0.mk h8; clear h8))
        go_ret
        exact ⟨rfl, below_step B2.out (below_step H6.out.cs.below (below_step H7.out H8.out))⟩
end Go.Proofs.Ytkdkdhbkmhkjfaa.Ch

/- The walk of the law ChannelOrder. -/
import Derived.Test.YtkdkdhbkmhkjfaaLwChannelIdle
namespace Go.Proofs.Ytkdkdhbkmhkjfaa.Ch
open Go.RowKit Go.Proofs.YtkdkdhbkmhkjfaaW.PrintWords Go.Proofs.YtkdkdhbkmhkjfaaW.PrintLast Go.Proofs.Ytkdkdhbkmhkjfaa.Sep Go.Proofs.Ytkdkdhbkmhkjfaa.ChP Go.Proofs.Ytkdkdhbkmhkjfaa.PT52
set_option linter.unusedVariables false
set_option linter.unusedSimpArgs false

/-- The last arrival, and how many came in its tick. -/
def Ord (ds : List Int) (dl rt la sm : Int) : Prop := (ds = [] ∧ la = -1 ∧ sm = 0) ∨ (ds ≠ [] ∧ la = last ds + dl ∧ sm = (cnt ds (last ds) : Int) ∧ sm ≤ rt)
theorem last_snoc (ds : List Int) (x : Int) : last (ds ++ [x]) = x := by
  unfold last gl
  simp
theorem cnt_snoc (ds : List Int) (x t : Int) : cnt (ds ++ [x]) t = cnt ds t + if x = t then 1 else 0 := by
  unfold cnt
  rw [List.filter_append, List.length_append]
  by_cases h : x = t
  · rw [if_pos h]; simp [h]
  · rw [if_neg h]; simp [h]
theorem ord_step {ds : List Int} {dl rt la sm x dp : Int} (hI : Inv ds) (h : Ord ds dl rt la sm) (hr : 1 ≤ rt) (hd : 0 ≤ dl) (h0 : 0 ≤ x) (e : dep rt ds x = dp) : la ≤ dp + dl ∧ x ≤ dp ∧ (la < dp + dl → Ord (ds ++ [dp]) dl rt (dp + dl) 1) ∧ (¬ la < dp + dl → Ord (ds ++ [dp]) dl rt la (sm + 1) ∧ sm + 1 ≤ rt) := by
  have hg := dep_ge (rt := rt) (now := x) hI
  rw [e] at hg
  obtain ⟨g1, g2⟩ := hg
  rcases h with ⟨rfl, rfl, rfl⟩ | ⟨hne, rfl, rfl, hle⟩
  · refine ⟨by omega, g1, fun _ => .inr ⟨by simp, by rw [last_snoc], ?_, hr⟩, fun q => absurd (show (-1 : Int) < dp + dl by omega) q⟩
    rw [last_snoc, cnt_snoc, if_pos rfl]
    rfl
  · have hpos : 0 < ds.length := List.length_pos_iff.2 hne
    have hl : last ds ∈ ds := gl_mem (by omega)
    have hlast := g2 _ hl
    refine ⟨by omega, g1, fun q => .inr ⟨by simp, by rw [last_snoc], ?_, hr⟩, fun q => ?_⟩
    · rw [last_snoc, cnt_snoc, if_pos rfl]
      have : cnt ds dp = 0 := by
        unfold cnt
        rw [List.length_eq_zero_iff, List.filter_eq_nil_iff]
        intro t ht
        have := hI.last_ge t ht
        simp; omega
      rw [this]
      rfl
    · have hq : dp = last ds := by omega
      have hlt : ¬ rt ≤ (cnt ds (last ds) : Int) := by
        intro hc
        have h2 := (cnt_last hI hr hpos).1 hc
        unfold dep at e
        rw [if_neg (by omega)] at e
        by_cases c2 : last ds < x
        · omega
        · rw [if_neg c2, if_pos h2] at e
          omega
      refine ⟨.inr ⟨by simp, by rw [last_snoc, hq], ?_, by omega⟩, by omega⟩
      rw [last_snoc, cnt_snoc, if_pos rfl, hq]
      rfl
theorem arr_plain {s : St} {x : Int} (hs : s.sc = []) (he : sErr s x = 0) : sArr s x = [dep s.rt s.ds x + s.dl] := by
  unfold sArr
  rw [if_pos he]
  have : sFate s = zF := by unfold sFate; rw [hs]; rfl
  rw [this]
  rfl
theorem arr_none {s : St} {x er : Int} (he : sErr s x = er) (h : er ≠ 0) : sArr s x = [] := by
  unfold sArr
  rw [if_neg (by rw [he]; exact h)]
structure OrR (w2 : World) (c N : Nat) (row : Value) (S : List Int) (s0 : St) (wr : World) (s : St) (i : Nat) (nw la sm : Int) : Prop where
  ir : IR w2 wr (fun k => False ∨ row.ownBlock = some k) c row S s i nw
  cfg : SameCfg s0 s
  n0 : 0 ≤ nw
  n1 : nw ≤ 1400
  nx : i < N → nw ≤ gl S i
  ord : Ord s.ds s.dl s.rt la sm
def waypointlaw52_ChannelOrder.f (a0 a1 a2 : Int) (l3 : List S40) (l4 l1 : List Int) : Option Bool := if byOk l1 = true then some true else none
set_option maxHeartbeats 16000000 in
set_option maxRecDepth 100000 in
theorem waypointlaw52_ChannelOrder.calls (a0_0 a0_1 a0_2 : Int) (A0_3 : Option Addr) (c0_3 : Nat) (l0_3 : List S40) (A0_4 : Option Addr) (c0_4 : Nat) (l0_4 : List Int) (A1 : Option Addr) (c1 : Nat) (l1 : List Int) (r : Bool) (w : World) (hr0_3 : Kd.C k40 w A0_3 l0_3.length l0_3) (hc0_3 : l0_3.length ≤ c0_3) (hr0_4 : Kd.C (Kd.int .i64) w A0_4 l0_4.length l0_4) (hc0_4 : l0_4.length ≤ c0_4) (hr1 : Kd.C (Kd.int .u8) w A1 l1.length l1) (hc1 : l1.length ≤ c1) (h : waypointlaw52_ChannelOrder.f a0_0 a0_1 a0_2 l0_3 l0_4 l1 = some r) :
    Calls Try.prog 3 #[.agg #[.int .i64 a0_0, .int .i64 a0_1, .int .i64 a0_2, .slice A0_3 l0_3.length c0_3, .slice A0_4 l0_4.length c0_4], .slice A1 l1.length c1] w fun e w' => e = .returned (.bool r) ∧ Below w.heap.size w w' := by
  unfold waypointlaw52_ChannelOrder.f at h
  split at h
  case isFalse => cases h
  rename_i hok
  obtain rfl : true = r := by simpa using h
  clear h
  have BY := Aside0.mk (byOk_by hok)
  have R3 := Aside0.mk (And.intro hr0_3 hc0_3)
  have R4 := Aside0.mk (And.intro hr0_4 hc0_4)
  have R1 := Aside0.mk (And.intro hr1 hc1)
  clear hr0_3 hc0_3 hr0_4 hc0_4 hr1 hc1 hok
  have hbk : (w.alloc (.cells #[.int .i64 a0_0, .int .i64 a0_1, .int .i64 a0_2, .slice A0_3 l0_3.length c0_3, .slice A0_4 l0_4.length c0_4] 25)).heap[w.heap.size]? = some (.cells #[.int .i64 a0_0, .int .i64 a0_1, .int .i64 a0_2, .slice A0_3 l0_3.length c0_3, .slice A0_4 l0_4.length c0_4] 25 (0, 0)) := heap_alloc_new w _
  have hbb : Below w.heap.size w (w.alloc (.cells #[.int .i64 a0_0, .int .i64 a0_1, .int .i64 a0_2, .slice A0_3 l0_3.length c0_3, .slice A0_4 l0_4.length c0_4] 25)) := (Below.refl _ _).alloc (Nat.le_refl _) _
  have KB := Aside0.mk (And.intro hbk hbb)
  clear hbk hbb
  obtain ⟨N3, hN3⟩ : ∃ N, l0_3.length = N := ⟨_, rfl⟩
  obtain ⟨N4, hN4⟩ : ∃ N, l0_4.length = N := ⟨_, rfl⟩
  obtain ⟨N, hN⟩ : ∃ N, l1.length = N := ⟨_, rfl⟩
  obtain ⟨lg, hlg⟩ : ∃ lg, (decide (200 < (N3 : Int)) || decide (200 < (N4 : Int))) = lg := ⟨_, rfl⟩
  have LG := Aside0.mk (show (decide (200 < (l0_3.length : Int)) || decide (200 < (l0_4.length : Int))) = lg by rw [hN3, hN4]; exact hlg)
  have LL := Aside0.mk (And.intro hN3 (And.intro hN4 hN))
  rw [hN3, hN4] at KB
  rw [hN3, hN4, hN]
  have hcase : lg = true ∨ (lg = false ∧ 200 < N) ∨ (lg = false ∧ N ≤ 200) := by
    cases lg
    · rcases Nat.lt_or_ge 200 N with q | q
      · exact .inr (.inl ⟨rfl, q⟩)
      · exact .inr (.inr ⟨rfl, q⟩)
    · exact .inl rfl
  clear hN3 hN4 hN hlg
  go_enter Try.func3, Try.ntmps3
  go_upto_region 1 with (fail)
  obtain ⟨b, hb⟩ : ∃ b, w.heap.size = b := ⟨_, rfl⟩
  have KB2 := KB.out
  rw [hb] at KB2 ⊢
  clear KB
  generalize w.alloc (.cells #[.int .i64 a0_0, .int .i64 a0_1, .int .i64 a0_2, .slice A0_3 N3 c0_3, .slice A0_4 N4 c0_4] 25) = wb at KB2 ⊢
  have KB := Aside0.mk KB2
  have HB := Aside0.mk hb
  clear KB2 hb
  go_upto_region 3 with (go_at_call 9; (with_reducible refine (awake_calls _).mono ?_); rintro e w1 ⟨rfl, h1⟩; have H1 := Aside0.mk h1; clear h1)
  have k1 := (Chg.of_below (F := fun _ => False) H1.out).at_ KB.out.1 (fun q => q)
  have f0 := blk_at k1 0 _ rfl
  have f1 := blk_at k1 1 _ rfl
  have f2 := blk_at k1 2 _ rfl
  have f3 := blk_at k1 3 _ rfl
  have f4 := blk_at k1 4 _ rfl
  have B1 := Aside0.mk (show Below w.heap.size w w1 from by have := KB.out.2; rw [← HB.out] at this; exact below_step this H1.out)
  have K1 := Aside0.mk k1
  clear k1
  rcases hcase with rfl | ⟨rfl, h2⟩ | ⟨rfl, h2⟩
  · go_wp2_with (go_at_call 10; (with_reducible refine (large_c' a0_0 a0_1 a0_2 l0_3 l0_4 (Kd.C_below R3.out.1 B1.out) R3.out.2 (Kd.C_below R4.out.1 B1.out) R4.out.2 true LG.out LL.out.1 LL.out.2.1).mono ?_); rintro e w2 ⟨rfl, h2⟩; have H2 := Aside0.mk h2; clear h2)
    go_ret
    exact ⟨rfl, below_step B1.out H2.out⟩
  · have d1 : 200 < (N : Int) := by omega
    clear h2
    go_wp2_with (go_at_call 10; (with_reducible refine (large_c' a0_0 a0_1 a0_2 l0_3 l0_4 (Kd.C_below R3.out.1 B1.out) R3.out.2 (Kd.C_below R4.out.1 B1.out) R4.out.2 false LG.out LL.out.1 LL.out.2.1).mono ?_); rintro e w2 ⟨rfl, h2⟩; have H2 := Aside0.mk h2; clear h2)
    go_ret
    exact ⟨rfl, below_step B1.out H2.out⟩
  · have d1 : decide (200 < (N : Int)) = false := decide_eq_false (by omega)
    have bN : (N : Int) ≤ 200 := by omega
    have NN := Aside0.mk h2
    clear h2
    go_upto_region 5 with (go_at_call 10; (with_reducible refine (large_c' a0_0 a0_1 a0_2 l0_3 l0_4 (Kd.C_below R3.out.1 B1.out) R3.out.2 (Kd.C_below R4.out.1 B1.out) R4.out.2 false LG.out LL.out.1 LL.out.2.1).mono ?_); rintro e w2 ⟨rfl, h2⟩; have H2 := Aside0.mk h2; clear h2)
    clear f0 f1 f2 f3 f4
    have k2 := (Chg.of_below (F := fun _ => False) H2.out).at_ K1.out (fun q => q)
    have f0 := blk_at k2 0 _ rfl
    have f1 := blk_at k2 1 _ rfl
    have f2 := blk_at k2 2 _ rfl
    have K2 := Aside0.mk k2
    have B2 := Aside0.mk (below_step B1.out H2.out)
    clear k2 K1
    by_cases hnum : numsOk a0_0 a0_1 a0_2 = true
    case neg =>
      have HV : Aside0 (valid a0_0 a0_1 a0_2 [] = false) := ⟨by simp [valid, hnum]⟩
      clear hnum
      go_wp2_with (go_at_call 11; (with_reducible refine (cs_new_no a0_0 a0_1 a0_2 (.slice none 0 0) [] (OwnF.nil _ _) (by decide) HV.out).mono ?_); rintro e w3 ⟨rfl, h3⟩; have H3 := Aside0.mk h3; clear h3)
      go_ret
      exact ⟨rfl, below_step B2.out H3.out⟩
    have HV := Aside0.mk (valid_nil hnum)
    have NUM := Aside0.mk (numsOk_at hnum)
    clear hnum
    go_upto_region 9 with (go_at_call 11; (with_reducible refine (cs_new (Below.refl _ w2) a0_0 a0_1 a0_2 (.slice none 0 0) [] (OwnF.nil _ _) (by decide) HV.out).mono ?_); rintro e w3 ⟨c, rfl, h3, h3b⟩; have H3 := Aside0.mk (And.intro h3 h3b); clear h3 h3b)
    go_wp2_with (go_at_call 12; (with_reducible refine (steps_n l1 LL.out.2.2 (Kd.C_below R1.out.1 (below_step B2.out H3.out.2)) R1.out.2 BY.out NN.out).mono ?_); rintro e w4 ⟨B, d, rfl, ho, hb4, hv4⟩; have H4 := Aside0.mk (And.intro ho (And.intro hb4 hv4)); clear ho hb4 hv4)
    have S0 := Aside0.mk (show OrR w2 c N (.slice B N d) (stp 0 l1) ⟨a0_0, a0_1, a0_2, [], [], 0, 0⟩ w4 ⟨a0_0, a0_1, a0_2, [], [], 0, 0⟩ 0 0 (-1) 0 from
      ⟨⟨CS.more H3.out.1 (Chg.of_below H4.out.2.1) (fun k hk => ⟨H4.out.2.2 k hk, OwnI.lt H4.out.1 k hk⟩), ok_new HV.out (by decide), rfl, Nat.le_refl _, rfl, H4.out.1, fun k hk => .inr hk⟩, ⟨rfl, rfl, rfl, rfl⟩, Int.le_refl _, by decide, fun h => (stp_at l1 0 (Int.le_refl _) 0 (by rw [LL.out.2.2]; exact h)).1, .inl ⟨rfl, rfl, rfl⟩⟩)
    have LS := Aside0.mk (show (stp 0 l1).length = N by rw [stp_len]; exact LL.out.2.2)
    have FK := Aside0.mk (fun (W : World) (hW : Below w2.heap.size w2 W) => (show W.cell? ⟨b, 0, none⟩ = some (.int .i64 a0_0) ∧ W.cell? ⟨b, 1, none⟩ = some (.int .i64 a0_1) from ⟨blk_at ((Chg.of_below (F := fun _ => False) hW).at_ K2.out (fun q => q)) 0 _ rfl, blk_at ((Chg.of_below (F := fun _ => False) hW).at_ K2.out (fun q => q)) 1 _ rfl⟩))
    clear f0 f1 f2
    go_loopg [43, 7, 8] N (fun g v u t wr => ∃ (i : Nat) (nw la sm : Int) (s : St), v = .int .i64 (i : Int) ∧ u = .int .i64 la ∧ t = .int .i64 sm ∧ N - i ≤ g ∧ i ≤ N ∧ Aside0 (OrR w2 c N (.slice B N d) (stp 0 l1) ⟨a0_0, a0_1, a0_2, [], [], 0, 0⟩ wr s i nw la sm))
    case atStart => exact ⟨0, 0, -1, 0, _, rfl, rfl, rfl, by omega, by omega, S0⟩
    case round =>
      obtain ⟨i, nw, la, sm, s, rfl, rfl, rfl, hg, hi, R⟩ := hrel
      by_cases hlt : i < N
      · have GG := Aside0.mk (And.intro hg hlt)
        have d3 : (i : Int) < (N : Int) := by omega
        have b3 : (i : Int) ≤ 200 := by omega
        obtain ⟨g2, rfl, ci⟩ := R.out.ir.at_ (k := i) (by rw [LS.out]; exact hlt)
        obtain ⟨x, hx⟩ : ∃ x, gl (stp 0 l1) i = x := ⟨_, rfl⟩
        have ha := stp_at l1 0 (Int.le_refl _) i (by rw [LL.out.2.2]; exact hlt)
        have hn := R.out.nx hlt
        rw [hx] at ci ha hn
        have HA := Aside0.mk (show 0 ≤ x ∧ x ≤ 1400 ∧ nw ≤ x ∧ (i + 1 < N → x ≤ gl (stp 0 l1) (i + 1)) from ⟨ha.1, by have := ha.2.1; have := LL.out.2.2; have := NN.out; omega, hn, fun q => ha.2.2 (by rw [LL.out.2.2]; exact q)⟩)
        clear hg hi hlt hx ha hn
        have HF := Aside0.mk (step_facts (s := s) (x := x) HA.out.1 (by have := HA.out.2.1; omega) (by rw [R.out.ir.la]; exact HA.out.2.2.1))
        have HS := Aside0.mk (fun (W : World) (O : Nat → Prop) (h : IR w2 W (fun k => (False ∨ (Value.slice (some ⟨g2, 0, none⟩) N d).ownBlock = some k) ∨ O k) c (.slice (some ⟨g2, 0, none⟩) N d) (stp 0 l1) (sSt s x) (i + 1) x) (la2 sm2 : Int) (ho : Ord (sSt s x).ds s.dl s.rt la2 sm2) => (show OrR w2 c N (.slice (some ⟨g2, 0, none⟩) N d) (stp 0 l1) ⟨a0_0, a0_1, a0_2, [], [], 0, 0⟩ W (sSt s x) (i + 1) x la2 sm2 from
          ⟨h.less (fun k hk => .inl hk) (fun k hk => .inr hk), R.out.cfg.trans HF.out.2.2.2.1, HA.out.1, HA.out.2.1, HA.out.2.2.2, by rw [HF.out.2.2.2.1.dl, HF.out.2.2.2.1.rt]; exact ho⟩))
        rcases HF.out.2.2.2.2 with ⟨e0, e1⟩ | ⟨e0, e1⟩
        · obtain ⟨dp, hdp⟩ : ∃ dp, dep s.rt s.ds x = dp := ⟨_, rfl⟩
          have eA := arr_plain R.out.cfg.sc e0
          have q1 : s.dl = a0_0 := R.out.cfg.dl
          have q2 : s.rt = a0_1 := R.out.cfg.rt
          obtain ⟨V, hV⟩ : ∃ V, dp + a0_0 = V := ⟨_, rfl⟩
          have o1 := ord_step R.out.ir.ok.inv R.out.ord (by rw [q2]; exact NUM.out.2.2.1) (by rw [q1]; have := NUM.out.1; omega) HA.out.1 hdp
          rw [hdp] at eA e1
          rw [q1, hV] at eA o1
          rw [q2] at o1
          have HS2 := HS.out
          rw [e1, q1, q2] at HS2
          have SE := Aside0.mk (And.intro e0 eA)
          have n2 := NUM.out
          have a2 := HA.out.2.1
          have a1 := HA.out.1
          obtain ⟨T2, hT2⟩ : ∃ T2, x + a0_0 = T2 := ⟨_, rfl⟩
          have wT : wrap64 (x + a0_0) = T2 := by rw [← hT2]; exact wr_id _ (by omega) (by omega)
          have d4 : decide (V < la) = false := decide_eq_false (by have := o1.1; omega)
          have d5 : decide (V < T2) = false := decide_eq_false (by have := o1.2.1; omega)
          have O1 := Aside0.mk o1
          have HS3 := Aside0.mk HS2
          have hr1 : 1 ≤ a0_1 := n2.2.2.1
          have hr2 : a0_1 ≤ 1048576 := n2.2.2.2.1
          clear o1 HS2 eA e0 e1 hV hT2 hdp q1 q2 HF a1 a2 n2
          go_upto_region 14 with (go_at_call 13; (with_reducible refine (R.out.ir.send (x := x) HA.out.2.2.1 HA.out.1 (by have := HA.out.2.1; omega) (by have := GG.out.2; have := NN.out; omega) 0 SE.out.1 [V] SE.out.2).mono ?_); rintro e w5 ⟨A5, c5, rfl, r5, h5, g5⟩; have H5 := Aside0.mk h5; have R5 := Aside0.mk r5; clear r5 h5 g5)
          obtain ⟨g5, c5', e5, _⟩ := OwnI.form R5.out (by simp)
          injection e5 with e51 e52 e53
          subst e51
          have ca : w5.cell? ⟨g5, 0, none⟩ = some (.int .i64 V) := OwnI.cell R5.out 0 (by simp)
          have cb := (FK.out w5 H5.out.cs.below).1
          have cc := (FK.out w5 H5.out.cs.below).2
          clear e52 e53
          by_cases hcmp : la < V
          · have d6 : decide (la < V) = true := decide_eq_true hcmp
            have d7 : decide (a0_1 < 1) = false := decide_eq_false (by omega)
            have OO := Aside0.mk (O1.out.2.2.1 hcmp)
            go_quiet (fail)
            generalize hq : World.drewN w5 _ = w6
            have B6 : Below w5.heap.size w5 w6 := by rw [← hq]; exact pw_below_drewN (Below.refl _ _) _
            have ca := OwnI.cell (own_stay R5.out (Chg.of_below (F := fun _ => False) B6) (fun _ _ q => q)) 0 (by simp)
            have cc := (FK.out w6 (below_step H5.out.cs.below B6)).2
            have H6 := Aside0.mk (H5.out.keep B6)
            clear hq B6
            go_wp2_with fail
            go_roundg (N - (i + 1))
            case measure => have := GG.out; omega
            case rel => exact ⟨i + 1, x, V, 1, _, by go_num, rfl, rfl, by omega, by have := GG.out; omega, ⟨HS3.out _ _ H6.out _ _ OO.out⟩⟩
          · have d6 : decide (la < V) = false := decide_eq_false hcmp
            have OO := Aside0.mk (O1.out.2.2.2 (Int.not_lt.1 hcmp))
            obtain ⟨sm2, hsm⟩ : ∃ q, sm + 1 = q := ⟨_, rfl⟩
            have hsm0 : 0 ≤ sm := by
              rcases R.out.ord with ⟨_, _, q⟩ | ⟨_, _, q, _⟩ <;> omega
            have wS : wrap64 (sm + 1) = sm2 := by rw [← hsm]; have := OO.out.2; unfold wrap64; omega
            have d7 : decide (a0_1 < sm2) = false := decide_eq_false (by have := OO.out.2; omega)
            rw [hsm] at OO
            clear hsm
            go_quiet (fail)
            generalize hq : World.drewN w5 _ = w6
            have B6 : Below w5.heap.size w5 w6 := by rw [← hq]; exact pw_below_drewN (Below.refl _ _) _
            have ca := OwnI.cell (own_stay R5.out (Chg.of_below (F := fun _ => False) B6) (fun _ _ q => q)) 0 (by simp)
            have cc := (FK.out w6 (below_step H5.out.cs.below B6)).2
            have H6 := Aside0.mk (H5.out.keep B6)
            clear hq B6
            go_wp2_with fail
            go_roundg (N - (i + 1))
            case measure => have := GG.out; omega
            case rel => exact ⟨i + 1, x, la, sm2, _, by go_num, rfl, rfl, by omega, by have := GG.out; omega, ⟨HS3.out _ _ H6.out _ _ OO.out.1⟩⟩
        · have SE := Aside0.mk (And.intro e0 (arr_none e0 (by decide)))
          have OO := Aside0.mk (show Ord (sSt s x).ds s.dl s.rt la sm by rw [e1]; exact R.out.ord)
          clear e0 e1
          go_wp2_with (go_at_call 13; (with_reducible refine (R.out.ir.send (x := x) HA.out.2.2.1 HA.out.1 (by have := HA.out.2.1; omega) (by have := GG.out.2; have := NN.out; omega) 12 SE.out.1 [] SE.out.2).mono ?_); rintro e w5 ⟨A5, c5, rfl, r5, h5, g5⟩; have H5 := Aside0.mk h5; clear r5 h5 g5)
          go_roundg (N - (i + 1))
          case measure => have := GG.out; omega
          case rel => exact ⟨i + 1, x, la, sm, _, by go_num, rfl, rfl, by omega, by have := GG.out; omega, ⟨HS.out _ _ H5.out _ _ OO.out⟩⟩
      · obtain rfl : i = N := by omega
        have d3 : ¬ ((i : Int) < (i : Int)) := by omega
        have d4 : decide ((i : Int) < (i : Int)) = false := decide_eq_false d3
        have E := Aside0.mk R.out.ir.cs.below
        clear hg hi hlt
        go_wp2_with fail
        go_ret
        exact ⟨rfl, below_step B2.out E.out⟩
end Go.Proofs.Ytkdkdhbkmhkjfaa.Ch

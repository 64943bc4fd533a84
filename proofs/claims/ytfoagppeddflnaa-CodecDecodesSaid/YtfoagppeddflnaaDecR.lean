/- The reference's Decode: what it computes, and its walk. -/
import Derived.Test.YtfoagppeddflnaaPT070
namespace Go.Proofs.Ytfoagppeddflnaa.PT07
open Go.RowKit Go.Proofs.YtfoagppeddflnaaW.PrintWords Go.Proofs.YtfoagppeddflnaaW.PrintLast Go.Proofs.YtfoagppeddflnaaW.PrintMore
set_option linter.unusedVariables false
set_option linter.unusedSimpArgs false

def okB (x : Int) : Bool := decide (0 ≤ x) && decide (x ≤ 255)
theorem okB_at {x : Int} (h : okB x = true) : 0 ≤ x ∧ x ≤ 255 := by simpa [okB] using h
def decN (b : List Int) : Int := 256 * rd b 1 + rd b 2
def waypointref07_Decode.l0 : Nat → List Int → List S43 → Option (List S43 × Int)
  | 0, _, _ => none
  | k + 1, b, acc => if 0 < b.length then (if b.length < 3 then some ([], 4) else if (okB (rd b 0) && okB (rd b 1) && okB (rd b 2)) = true then (if rd b 0 = 0 then some ([], 4) else if (b.length : Int) < 3 + decN b then some ([], 4) else if acc.length < 4398046511103 then (if b.length < 140737488355328 then waypointref07_Decode.l0 k (b.drop (3 + decN b).toNat) (acc ++ [(⟨rd b 0, (b.take (3 + decN b).toNat).drop 3⟩ : S43)]) else none) else none) else none) else some (acc, 0)
set_option maxHeartbeats 4000000 in
set_option maxRecDepth 100000 in
theorem waypointref07_Decode.callsL (k : Nat) (A0 : Option Addr) (c0 : Nat) (l0 : List Int) (r1 : List S43) (r2 : Int) (w : World) (hr0 : Kd.C (Kd.int .u8) w A0 l0.length l0) (hc0 : l0.length ≤ c0) (h : waypointref07_Decode.l0 k l0 [] = some (r1, r2)) :
    Calls Try.prog 18 #[.slice A0 l0.length c0] w fun e w' => ∃ v0_ : Value, e = .returned (.tuple #[v0_, .int .i64 r2]) ∧ Kd.S k43 43 w' w.heap.size (fun _ => True) v0_ r1 ∧ Below w.heap.size w w' := by
  have H0 := Aside0.mk h
  have HR := Aside0.mk hr0
  clear h hr0
  go_enter Try.func18, Try.ntmps18
  go_wp2
  go_loopg [0, 4] k (fun kq v0 v4 wr => ∃ (A : Option Addr) (c : Nat) (b : List Int) (acc : List S43), v0 = .slice A b.length c ∧ Aside0 (b.length ≤ c) ∧ Aside0 (waypointref07_Decode.l0 kq b acc = some (r1, r2)) ∧ Aside0 (Kd.C (Kd.int .u8) w A b.length b) ∧ Aside0 (Kd.S k43 43 wr w.heap.size (fun _ => True) v4 acc) ∧ Aside0 (Below w.heap.size w wr))
  case atStart => exact ⟨A0, c0, l0, [], rfl, ⟨hc0⟩, H0, HR, ⟨Kd.S_nil _ _ _ _ _⟩, ⟨Below.refl _ _⟩⟩
  case round =>
    obtain ⟨A, c, b, acc, rfl, HC, HF, HA, HS, HB⟩ := hrel
    clear hc0 H0 HR
    cases gk with
    | zero => exact absurd HF.out (by simp [waypointref07_Decode.l0])
    | succ kk =>
      have hf := HF.out
      clear HF
      rw [waypointref07_Decode.l0] at hf
      by_cases g0 : 0 < b.length
      case neg =>
        rw [if_neg g0] at hf
        have g0i : ¬ (0 : Int) < (b.length : Int) := by omega
        have g0b := decide_eq_false g0i
        simp only [Option.some.injEq, Prod.mk.injEq] at hf
        obtain ⟨rfl, rfl⟩ := hf
        clear g0
        go_wp2
        go_ret2
        exact ⟨_, rfl, HS.out, HB.out⟩
      rw [if_pos g0] at hf
      have g0i : (0 : Int) < (b.length : Int) := by omega
      have g0b := decide_eq_true g0i
      clear g0
      by_cases g3 : b.length < 3
      case pos =>
        rw [if_pos g3] at hf
        have g3i : (b.length : Int) < 3 := by omega
        have g3b := decide_eq_true g3i
        simp only [Option.some.injEq, Prod.mk.injEq] at hf
        obtain ⟨rfl, rfl⟩ := hf
        clear g3
        go_wp2
        go_ret2
        exact ⟨_, rfl, Kd.S_nil _ _ _ _ _, HB.out⟩
      rw [if_neg g3] at hf
      have g3i : ¬ (b.length : Int) < 3 := by omega
      have g3b := decide_eq_false g3i
      obtain ⟨ad, rfl, hx0⟩ := Kd.at_int HA.out 0 (by omega) (by omega)
      obtain ⟨ad', hh, hx1⟩ := Kd.at_int HA.out 1 (by omega) (by omega)
      cases hh
      obtain ⟨ad', hh, hx2⟩ := Kd.at_int HA.out 2 (by omega) (by omega)
      cases hh
      rw [show ((0 : Int).toNat) = 0 from rfl, show ad.add 0 = ad from by simp [Addr.add]] at hx0
      rw [show ((1 : Int).toNat) = 1 from rfl, show ad.add 1 = ⟨ad.block, ad.off + 1, none⟩ from rfl] at hx1
      rw [show ((2 : Int).toNat) = 2 from rfl, show ad.add 2 = ⟨ad.block, ad.off + 2, none⟩ from rfl] at hx2
      have har : ∀ W', Below w.heap.size w W' → W'.cell? ad = some (.int .u8 (rd b 0)) ∧ W'.cell? ⟨ad.block, ad.off + 1, none⟩ = some (.int .u8 (rd b 1)) ∧ W'.cell? ⟨ad.block, ad.off + 2, none⟩ = some (.int .u8 (rd b 2)) := fun W' hb => ⟨(hb.cell (World.block_lt_of_cell? w _ hx0)).trans hx0, (hb.cell (World.block_lt_of_cell? w _ hx1)).trans hx1, (hb.cell (World.block_lt_of_cell? w _ hx2)).trans hx2⟩
      have AR := Aside0.mk har
      clear har hx0 hx1 hx2
      obtain ⟨y0, y1, y2⟩ := AR.out _ HB.out
      by_cases gb : (okB (rd b 0) && okB (rd b 1) && okB (rd b 2)) = true
      case neg => rw [if_neg gb] at hf; cases hf
      rw [if_pos gb] at hf
      simp only [Bool.and_eq_true] at gb
      have q0 := okB_at gb.1.1
      have q1 := okB_at gb.1.2
      have q2 := okB_at gb.2
      clear gb
      have p0 : (0 : Int) < (b.length : Int) := by omega
      have p1 : (1 : Int) < (b.length : Int) := by omega
      have p2 : (2 : Int) < (b.length : Int) := by omega
      by_cases gz : rd b 0 = 0
      case pos =>
        rw [if_pos gz] at hf
        have gzb : (rd b 0 == 0) = true := beq_iff_eq.2 gz
        simp only [Option.some.injEq, Prod.mk.injEq] at hf
        obtain ⟨rfl, rfl⟩ := hf
        clear gz g3
        go_wp2
        go_ret2
        exact ⟨_, rfl, Kd.S_nil _ _ _ _ _, HB.out⟩
      rw [if_neg gz] at hf
      have gzb : (rd b 0 == 0) = false := beq_eq_false_iff_ne.2 gz
      obtain ⟨N, hN⟩ : ∃ N, decN b = N := ⟨_, rfl⟩
      rw [hN] at hf
      unfold decN at hN
      have n0 : 0 ≤ N := by omega
      have n1 : N ≤ 65535 := by omega
      have HN := Aside0.mk hN
      have HF := Aside0.mk hf
      clear gz g3 hf hN
      go_wp2_with fail
      go_region
      rw [HN.out]
      have XB := Aside0.mk (below_drew1 HB.out)
      have XS := Aside0.mk (Kd.S_drew HS.out)
      clear HS HB y0 y1 y2
      have hf := HF.out
      clear HF
      by_cases gE : (b.length : Int) < 3 + N
      case pos =>
        rw [if_pos gE] at hf
        have gEb := decide_eq_true gE
        simp only [Option.some.injEq, Prod.mk.injEq] at hf
        obtain ⟨rfl, rfl⟩ := hf
        go_wp2
        go_ret2
        exact ⟨_, rfl, Kd.S_nil _ _ _ _ _, XB.out⟩
      rw [if_neg gE] at hf
      have gEb := decide_eq_false gE
      by_cases g7 : acc.length < 4398046511103
      case neg => rw [if_neg g7] at hf; cases hf
      rw [if_pos g7] at hf
      by_cases g8 : b.length < 140737488355328
      case neg => rw [if_neg g8] at hf; cases hf
      rw [if_pos g8] at hf
      obtain ⟨i0, hi0, _, hsz, _⟩ := info_parts info5
      have hcut := cut_mid (P := Try.prog) 27 5 .i64 .i64 Try.underlying27 hi0 1 hsz (some ad) b.length c 3 (3 + N) (by omega) (by omega) (by omega) HC.out
      have hdrop := cut_from (P := Try.prog) 27 5 .i64 Try.underlying27 hi0 1 hsz (some ad) b.length c (3 + N) (by omega) (by omega)
      have hm := Kd.C_mid (lo := 3) (hi := (3 + N).toNat) HA.out (by omega) (by omega) HC.out
      have hdr := Kd.C_drop (m := (3 + N).toNat) HA.out (by omega) HC.out
      simp only [show ((3 : Int).toNat) = 3 from rfl] at hcut
      rw [show (Kd.int IntKind.u8).sz = 1 from rfl] at hm hdr
      generalize hA1 : (if c = 3 then some ad else Option.map (fun x => x.add (3 * 1)) (some ad)) = A1 at hcut hm
      generalize hA2 : (if c = (3 + N).toNat then some ad else Option.map (fun x => x.add ((3 + N).toNat * 1)) (some ad)) = A2 at hdrop hdr
      have hlm : ((b.take (3 + N).toNat).drop 3).length = (3 + N).toNat - 3 := by simp; omega
      have hld : (b.drop (3 + N).toNat).length = b.length - (3 + N).toNat := by simp
      rw [← hlm] at hcut
      rw [← hld] at hdrop
      have hlb : ((b.take (3 + N).toNat).drop 3).length < 140737488355328 := by rw [hlm]; omega
      have HLC := Aside0.mk (show (b.drop (3 + N).toNat).length ≤ c - (3 + N).toNat from by have := HC.out; rw [hld]; omega)
      have LB := Aside0.mk hlb
      have LA := Aside0.mk g7
      clear hA1 hA2 hi0 hsz gE g7 g8 hlb hlm hld
      generalize hbs : (b.take (3 + N).toNat).drop 3 = bs at *
      generalize hbd : b.drop (3 + N).toNat = bd at *
      have HM := Aside0.mk hm
      have HD := Aside0.mk hdr
      have HF := Aside0.mk hf
      clear hm hdr hf hbs hbd
      obtain ⟨Ao, co, rfl⟩ := Kd.R_slice (Kd.S_R XS.out)
      go_wp2_with fail
      have XB2 := Aside0.mk (below_drew1 XB.out)
      have XS2 := Aside0.mk (Kd.S_drew XS.out)
      clear XB XS
      have XB := XB2
      have XS := XS2
      clear XB2 XS2
      have hx0d := (AR.out _ XB.out).1
      have ew : IntKind.i64.wrap (3 + N) = 3 + N := IntWalk.i64_in _ (by omega)
      have ew2 : wrap64 (3 + N) = 3 + N := by unfold wrap64; omega
      have ew3 : IntKind.i64.wrap (rd b 0) = rd b 0 := IntWalk.i64_in _ (by omega)
      have ew4 : wrap64 (rd b 0) = rd b 0 := by unfold wrap64; omega
      obtain ⟨X, hX⟩ : ∃ X, wr.drew.drew = X := ⟨_, rfl⟩
      rw [hX] at XB XS
      refine start_ (n := 15) (S := fun w' => w'.cell? ad = some (.int .u8 (rd b 0))) (ds := []) #[false, false, false, false, false, false, false, false, false, false, false, false, false, false, false] (by kernel_rfl) rfl rfl hx0d (fun hHeld => ?_)
      rw [hX] at hHeld ⊢
      clear hx0d hX
      refine pure_ (i := 0) (N := some 33) (v := ?_) (a' := ?_) #[true, false, false, false, false, false, false, false, false, false, false, false, false, false, false] rfl rfl (by kernel_rfl) (fun _ _ _ h => h) (Or.inl ⟨by rfl, ?_⟩) ?_ ?_
      rotate_left
      · intro w'
        go_simp
        with_reducible rfl
      rotate_left
      · simp only [Act.put, List.setIfInBounds_toArray, List.set_cons_zero, List.set_cons_succ, i64_w, i32_w]
        rfl
      refine pure_ (i := 1) (N := some 34) (v := ?_) (a' := ?_) #[true, true, false, false, false, false, false, false, false, false, false, false, false, false, false] rfl rfl (by kernel_rfl) (fun _ _ _ h => h) (Or.inl ⟨by rfl, ?_⟩) ?_ ?_
      rotate_left
      · intro w'
        go_simp
        with_reducible rfl
      rotate_left
      · simp only [Act.put, List.setIfInBounds_toArray, List.set_cons_zero, List.set_cons_succ, i64_w, i32_w]
        rfl
      refine pure_ (i := 2) (N := some 35) (v := ?_) (a' := ?_) #[true, true, true, false, false, false, false, false, false, false, false, false, false, false, false] rfl rfl (by kernel_rfl) (fun _ _ _ h => h) (Or.inl ⟨by rfl, ?_⟩) ?_ ?_
      rotate_left
      · intro w'
        go_simp
        with_reducible rfl
      rotate_left
      · simp only [Act.put, List.setIfInBounds_toArray, List.set_cons_zero, List.set_cons_succ, i64_w, i32_w]
        rfl
      refine take_ (i := 3) (N := some 36) (v := ?_) (a' := ?_) #[true, true, true, true, false, false, false, false, false, false, false, false, false, false, false] rfl rfl (by kernel_rfl) (fun _ _ _ h => h) (Or.inl ⟨by rfl, ?_⟩) hHeld ?_ ?_
      rotate_left
      · intro w' s0
        go_simp
        with_reducible rfl
      rotate_left
      · simp only [Act.put, List.setIfInBounds_toArray, List.set_cons_zero, List.set_cons_succ, i64_w, i32_w]
        rfl
      refine pure_ (i := 4) (N := some 37) (v := ?_) (a' := ?_) #[true, true, true, true, true, false, false, false, false, false, false, false, false, false, false] rfl rfl (by kernel_rfl) (fun _ _ _ h => h) (Or.inl ⟨by rfl, ?_⟩) ?_ ?_
      rotate_left
      · intro w'
        go_simp
        with_reducible rfl
      rotate_left
      · simp only [Act.put, List.setIfInBounds_toArray, List.set_cons_zero, List.set_cons_succ, i64_w, i32_w]
        rfl
      refine pure_ (i := 6) (N := some 39) (v := ?_) (a' := ?_) #[true, true, true, true, true, false, true, false, false, false, false, false, false, false, false] rfl rfl (by kernel_rfl) (fun _ _ _ h => h) (Or.inl ⟨by rfl, ?_⟩) ?_ ?_
      rotate_left
      · intro w'
        go_simp
        with_reducible rfl
      rotate_left
      · simp only [Act.put, List.setIfInBounds_toArray, List.set_cons_zero, List.set_cons_succ, i64_w, i32_w]
        rfl
      refine pure_ (i := 7) (N := some 40) (v := ?_) (a' := ?_) #[true, true, true, true, true, false, true, true, false, false, false, false, false, false, false] rfl rfl (by kernel_rfl) (fun _ _ _ h => h) (Or.inl ⟨by rfl, ?_⟩) ?_ ?_
      rotate_left
      · intro w'
        go_simp
        with_reducible rfl
      rotate_left
      · simp only [Act.put, List.setIfInBounds_toArray, List.set_cons_zero, List.set_cons_succ, i64_w, i32_w]
        rfl
      refine pure_ (i := 8) (N := some 41) (v := ?_) (a' := ?_) #[true, true, true, true, true, false, true, true, true, false, false, false, false, false, false] rfl rfl (by kernel_rfl) (fun _ _ _ h => h) (Or.inl ⟨by rfl, ?_⟩) ?_ ?_
      rotate_left
      · intro w'
        go_simp
        with_reducible rfl
      rotate_left
      · simp only [Act.put, List.setIfInBounds_toArray, List.set_cons_zero, List.set_cons_succ, i64_w, i32_w]
        rfl
      refine pure_ (i := 9) (N := some 42) (v := ?_) (a' := ?_) #[true, true, true, true, true, false, true, true, true, true, false, false, false, false, false] rfl rfl (by kernel_rfl) (fun _ _ _ h => h) (Or.inl ⟨by rfl, ?_⟩) ?_ ?_
      rotate_left
      · intro w'
        go_simp
        with_reducible rfl
      rotate_left
      · simp only [Act.put, List.setIfInBounds_toArray, List.set_cons_zero, List.set_cons_succ, i64_w, i32_w]
        rfl
      refine one_ (i := 5) (N := some 38) #[true, true, true, true, true, true, true, true, true, true, false, false, false, false, false] rfl rfl (by kernel_rfl) (by decide) (fun K hK => ?_)
      refine Kd.R_lit_step (Kd.int .u8) (w0 := X) X.heap.size 5 (by rfl) (N := 38) rfl (xs := ([] : List Int)) (inner := []) (ok := fun k => X.heap.size ≤ k) (okp := fun _ => False) ?hr (Reps.none _ _) (fun _ hk => hk.elim) (Nat.le_refl _) (Below.refl _ _) (Nat.le_refl _) (by simp) ?_
      (case hr => first | (go_simp; done) | (go_simp; rfl))
      intro v6 w6 ho6 hb6 hg6 hn6
      have HO6 := Aside0.mk ho6
      have HB6 := Aside0.mk hb6
      clear ho6 hb6 hg6 hn6
      refine hK.out _ _ (AR.out _ (below_step XB.out HB6.out)).1 (fun hHeld => ?_)
      clear hK K
      refine norm_ (a' := ?_) ?_ ?_
      rotate_left
      · show Act.put _ (some 38) _ = _
        simp only [Act.put, List.setIfInBounds_toArray, List.set_cons_zero, List.set_cons_succ, i64_w, i32_w]
        rfl
      refine one_ (i := 10) (N := some 43) #[true, true, true, true, true, true, true, true, true, true, true, false, false, false, false] rfl rfl (by kernel_rfl) (by decide) (fun K hK => ?_)
      refine Kd.R_append_rows_step (Kd.int .u8) (w0 := X) X.heap.size (by rfl) (.tmp 38) (.tmp 42) 27 5 (.int .u8 0) 1 rfl Try.underlying27 info5 rfl (by decide) (by omega) v6 [] bs _ _ _ (fun k => X.heap.size ≤ k) (fun _ => False) rfl rfl HO6.out (Kd.C_below HM.out (below_step XB.out HB6.out)) (fun _ _ h => h) (fun _ h => h.elim) (fun k hk => Nat.le_trans HB6.out.size hk) HB6.out HB6.out.size (by have := LB.out; simp; omega) ?_
      intro v7 w7 ho7 hb7 hg7 hat7
      rw [List.nil_append] at ho7
      obtain ⟨A7, c7, e7⟩ := Kd.R_slice ho7
      subst e7
      have HO7 := Aside0.mk ho7
      have HB7 := Aside0.mk hb7
      clear ho7 hb7 hg7 hat7
      refine hK.out _ _ (AR.out _ (below_step XB.out HB7.out)).1 (fun hHeld => ?_)
      clear hK K
      refine norm_ (a' := ?_) ?_ ?_
      rotate_left
      · show Act.put _ (some 43) _ = _
        simp only [Act.put, List.setIfInBounds_toArray, List.set_cons_zero, List.set_cons_succ, i64_w, i32_w]
        rfl
      refine pure_ (i := 11) (N := some 44) (v := ?_) (a' := ?_) #[true, true, true, true, true, true, true, true, true, true, true, true, false, false, false] rfl rfl (by kernel_rfl) (fun _ _ _ h => h) (Or.inl ⟨by rfl, ?_⟩) ?_ ?_
      rotate_left
      · intro w'
        go_simp
        with_reducible rfl
      rotate_left
      · simp only [Act.put, List.setIfInBounds_toArray, List.set_cons_zero, List.set_cons_succ, i64_w, i32_w]
        rfl
      refine one_ (i := 12) (N := some 45) #[true, true, true, true, true, true, true, true, true, true, true, true, true, false, false] rfl rfl (by kernel_rfl) (by decide) (fun K hK => ?_)
      refine value_ (w1 := ?_) (v := ?_) (by rfl) rfl ?_ ?_
      rotate_left 2
      · go_simp
        constructor
        · rfl
        · rfl
      refine hK.out _ _ ((AR.out _ (below_step XB.out (HB7.out.alloc HB7.out.size _))).1) (fun hHeld => ?_)
      clear hK K
      refine norm_ (a' := ?_) ?_ ?_
      rotate_left
      · show Act.put _ (some 45) _ = _
        simp only [Act.put, List.setIfInBounds_toArray, List.set_cons_zero, List.set_cons_succ, i64_w, i32_w]
        rfl
      refine one_ (i := 13) (N := some 46) #[true, true, true, true, true, true, true, true, true, true, true, true, true, true, false] rfl rfl (by kernel_rfl) (by decide) (fun K hK => ?_)
      refine Kd.S_append_step k43 (w0 := w) w.heap.size (by rfl) (.tmp 33) (.tmp 45) 22 43 (.agg #[(.int .i64 0), (.slice none 0 0)]) 32 rfl Try.underlying22 info43 rfl (by decide) (by omega) _ acc (⟨rd b 0, bs⟩ : S43) _ (fun _ => True) (fun k => X.heap.size ≤ k) rfl rfl (k43_mkM w7 w.heap.size _ ⟨rd b 0, bs⟩ (Kd.R_lower HO7.out (below_size XB.out))) (fun k hk => ⟨trivial, fun e => by have := Kd.R_lt (Kd.S_R XS.out) k e.symm; omega⟩) (fun _ _ => trivial) (Kd.S_mono (Kd.S_step (Kd.S_mono (Kd.S_bound XS.out) (fun k hk => hk.2.2.1)) (fun k hk _ => HB7.out.block k hk)) (fun k hk => ⟨trivial, by omega⟩)) (below_step XB.out HB7.out) (below_size (below_step XB.out HB7.out)) (by have := LA.out; omega) ?_
      intro v8 w8 ho8 hb8 hg8 hat8
      have HO8 := Aside0.mk ho8
      have HB8 := Aside0.mk hb8
      clear ho8 hb8 hg8 hat8
      refine hK.out _ _ (AR.out _ HB8.out).1 (fun hHeld => ?_)
      clear hK K
      refine norm_ (a' := ?_) ?_ ?_
      rotate_left
      · show Act.put _ (some 46) _ = _
        simp only [Act.put, List.setIfInBounds_toArray, List.set_cons_zero, List.set_cons_succ, i64_w, i32_w]
        rfl
      refine pure_ (i := 14) (N := some 4) (v := ?_) (a' := ?_) #[true, true, true, true, true, true, true, true, true, true, true, true, true, true, true] rfl rfl (by kernel_rfl) (fun _ _ _ h => h) (Or.inl ⟨by rfl, ?_⟩) ?_ ?_
      rotate_left
      · intro w'
        go_simp
        with_reducible rfl
      rotate_left
      · simp only [Act.put, List.setIfInBounds_toArray, List.set_cons_zero, List.set_cons_succ, i64_w, i32_w]
        rfl
      refine done_ (by kernel_rfl) ?_
      clear ew ew2 ew3 ew4
      go_wp2
      go_roundg kk
      case measure => omega
      case rel => exact ⟨A2, c - (3 + N).toNat, bd, _, rfl, HLC, HF, HD, HO8, HB8⟩
def waypointref07_Decode.f (k : Nat) (l0 : List Int) : Option (List S43 × Int) := waypointref07_Decode.l0 k l0 []
end Go.Proofs.Ytfoagppeddflnaa.PT07

/- The walk of the law CodecParts. -/
import Derived.Test.YtfoagppeddflnaaCodW
import Derived.Deep.Cut
import Derived.Deep.RegionHeld3
import Derived.Test.YtfoagppeddflnaaPT076
import Derived.Test.YtfoagppeddflnaaPT077
import Derived.Test.YtfoagppeddflnaaPT078
import Derived.Test.YtfoagppeddflnaaPT0711
import Derived.Test.YtfoagppeddflnaaPT0710
import Derived.Test.YtfoagppeddflnaaPT071
import Derived.Test.YtfoagppeddflnaaPT073
namespace Go.Proofs.Ytfoagppeddflnaa.PT07
open Go.RowKit Go.Proofs.YtfoagppeddflnaaW.PrintWords Go.Proofs.YtfoagppeddflnaaW.PrintLast Go.Proofs.YtfoagppeddflnaaW.PrintMore Go.Proofs.Ytfoagppeddflnaa.Cod
set_option linter.unusedVariables false
set_option linter.unusedSimpArgs false

/-- A row that can be read. -/
def Al {α : Type} (d : Kd α) (W : World) (A : Option Addr) (c : Nat) (l : List α) : Prop := l.length ≤ c ∧ Kd.C d W A l.length l
theorem Al.below {α : Type} {d : Kd α} {W W' : World} {A : Option Addr} {c : Nat} {l : List α} (h : Al d W A c l) (hb : Below W.heap.size W W') : Al d W' A c l := ⟨h.1, Kd.C_below h.2 hb⟩
section
variable {W : World} {A B : Option Addr} {c c' : Nat}
theorem own_c {l : List S43} (hr : Al k43 W A c l) (hl : l.length ≤ 100000) {m : List S56} (hm : l.map cv = m) : Calls Try.prog 12 #[.slice A l.length c] W fun e w' => ∃ A' c', e = .returned (.slice A' m.length c') ∧ Al k56 w' A' c' m ∧ Below W.heap.size W w' := by
  subst hm
  refine (waypointlaw07_own.calls (l.length + 1) (fun k => k < W.heap.size) A c l (l.map cv) W ⟨A, c, rfl, hr.1, Kd.C_F k43_heap hr.2⟩ (own_eq _ l hl (by omega))).mono ?_
  rintro e w' ⟨v, rfl, hN, hb⟩
  obtain ⟨A', c', rfl, h1, h2⟩ := Kd.N_reads hN
  exact ⟨A', c', rfl, ⟨h1, h2⟩, hb⟩
theorem back_c {l : List S56} (hr : Al k56 W A c l) (hl : l.length ≤ 100000) {m : List S43} (hm : l.map bk = m) : Calls Try.prog 16 #[.slice A l.length c] W fun e w' => ∃ A' c', e = .returned (.slice A' m.length c') ∧ Al k43 w' A' c' m ∧ Below W.heap.size W w' := by
  subst hm
  refine (waypointlaw07_back.calls (l.length + 1) (fun k => k < W.heap.size) A c l (l.map bk) W ⟨A, c, rfl, hr.1, Kd.C_F k56_heap hr.2⟩ (back_eq _ l hl (by omega))).mono ?_
  rintro e w' ⟨v, rfl, hN, hb⟩
  obtain ⟨A', c', rfl, h1, h2⟩ := Kd.N_reads hN
  exact ⟨A', c', rfl, ⟨h1, h2⟩, hb⟩
theorem enc_c {l : List S56} (hr : Al k56 W A c l) (hl : l.length ≤ 100000) {x : List Int} {e0 : Int} (hx : ec [] l = (x, e0)) : Calls Try.prog 13 #[.slice A l.length c] W fun e w' => ∃ A' c', e = .returned (.tuple #[.slice A' x.length c', .int .i64 e0]) ∧ Al (Kd.int .u8) w' A' c' x ∧ Below W.heap.size W w' := by
  refine (codec_Encode.calls (2 * l.length + 1) A c l x e0 W hr.2 hr.1 (by rw [Encode_eq _ l hl (by omega), hx])).mono ?_
  rintro e w' ⟨v, rfl, hR, hb⟩
  obtain ⟨A', c', rfl⟩ := Kd.R_slice hR
  obtain ⟨_, h1, h2⟩ := Kd.R_reads' hR
  exact ⟨A', c', rfl, ⟨h1, h2⟩, hb⟩
theorem dec_c {l : List Int} (hr : Al (Kd.int .u8) W A c l) {K : Nat} {x : List S56} {e0 : Int} (hx : codec_Decode.l0 K l [] = some (x, e0)) : Calls Try.prog 17 #[.slice A l.length c] W fun e w' => ∃ A' c', e = .returned (.tuple #[.slice A' x.length c', .int .i64 e0]) ∧ Al k56 w' A' c' x ∧ Below W.heap.size W w' := by
  refine (codec_Decode.calls K A c l x e0 W hr.2 hr.1 hx).mono ?_
  rintro e w' ⟨v, rfl, hR, hb⟩
  obtain ⟨A', c', rfl⟩ := Kd.R_slice (Kd.S_R hR)
  obtain ⟨_, h1, h2⟩ := Kd.S_reads' hR
  exact ⟨A', c', rfl, ⟨h1, h2⟩, hb⟩
theorem same_c {l : List S43} (hr : Al k43 W A c l) (hr2 : Al k43 W B c' l) (hl : l.length ≤ 100000) : Calls Try.prog 15 #[.slice A l.length c, .slice B l.length c'] W fun e w' => e = .returned (.bool true) ∧ Below W.heap.size W w' := by
  refine (waypointref07_Same.calls (l.length + 1) A c l B c' l true W hr.2 hr.1 hr2.2 hr2.1 (same_eq _ l hl (by omega))).mono ?_
  rintro e w' ⟨rfl, ⟨nd, rfl⟩⟩
  exact ⟨rfl, pw_below_drewN (Below.refl _ _) nd⟩
theorem size_c {l : List S43} (hr : Al k43 W A c l) {s : Int} (hs : waypointlaw07_size.f (l.length + 1) l = some s) : Calls Try.prog 11 #[.slice A l.length c] W fun e w' => e = .returned (.int .i64 s) ∧ Below W.heap.size W w' := by
  refine (waypointlaw07_size.calls (l.length + 1) A c l s W hr.2 hr.1 hs).mono ?_
  rintro e w' ⟨rfl, ⟨nd, rfl⟩⟩
  exact ⟨rfl, pw_below_drewN (Below.refl _ _) nd⟩
theorem awake_c : Calls Try.prog 10 #[] W fun e w' => e = .returned (.bool true) ∧ Below W.heap.size W w' := waypointlaw07_awake.calls 30 true W (awake_yes 30 (by omega))
end
theorem stop_at (f : Nat → Nat) (K : Nat) : ∀ L : Nat, ∃ n, n ≤ L ∧ (∀ j, j < n → f j < K) ∧ (n = L ∨ K ≤ f n) := by
  intro L
  induction L with
  | zero => exact ⟨0, Nat.le_refl _, fun j hj => by omega, .inl rfl⟩
  | succ L ih =>
    obtain ⟨n, h1, h2, h3⟩ := ih
    by_cases hK : K ≤ f n
    · exact ⟨n, by omega, h2, .inr hK⟩
    · have hn : n = L := by omega
      subst hn
      refine ⟨n + 1, by omega, fun j hj => ?_, .inl rfl⟩
      by_cases hj2 : j = n
      · subst hj2; omega
      · exact h2 j (by omega)
def waypointlaw07_CodecParts.f (l0 l1 : List S43) (a2 : Int) : Option Bool := if 0 ≤ a2 ∧ a2 ≤ 65535 then some true else none
set_option maxHeartbeats 16000000 in
set_option maxRecDepth 100000 in
theorem waypointlaw07_CodecParts.calls (A0 : Option Addr) (c0 : Nat) (l0 : List S43) (A1 : Option Addr) (c1 : Nat) (l1 : List S43) (a2 : Int) (r : Bool) (w : World) (hr0 : Kd.C k43 w A0 l0.length l0) (hc0 : l0.length ≤ c0) (hr1 : Kd.C k43 w A1 l1.length l1) (hc1 : l1.length ≤ c1) (h : waypointlaw07_CodecParts.f l0 l1 a2 = some r) : Calls Try.prog 6 #[.slice A0 l0.length c0, .slice A1 l1.length c1, .int .u16 a2] w fun e w' => e = .returned (.bool r) ∧ Below w.heap.size w w' := by
  unfold waypointlaw07_CodecParts.f at h
  split at h
  case isFalse => cases h
  rename_i hcut
  obtain rfl : true = r := by simpa using h
  clear h
  obtain ⟨q0, q1⟩ := hcut
  have L0 : Aside0 (Al k43 w A0 c0 l0) := ⟨hc0, hr0⟩
  have L1 : Aside0 (Al k43 w A1 c1 l1) := ⟨hc1, hr1⟩
  clear hr0 hc0 hr1 hc1
  by_cases g0 : 20 < l0.length
  · have d1 : 20 < (l0.length : Int) := by omega
    clear g0
    go_enter Try.func6, Try.ntmps6
    go_wp2_with (go_at_call 10; (with_reducible refine awake_c.mono ?_); rintro e w1 ⟨rfl, h1⟩; have H1 := Aside0.mk h1; clear h1)
    go_ret
    exact ⟨rfl, H1.out⟩
  have d1 : decide (20 < (l0.length : Int)) = false := decide_eq_false (by omega)
  by_cases g1 : 20 < l1.length
  · have d2 : 20 < (l1.length : Int) := by omega
    clear g0 g1
    go_enter Try.func6, Try.ntmps6
    go_wp2_with (go_at_call 10; (with_reducible refine awake_c.mono ?_); rintro e w1 ⟨rfl, h1⟩; have H1 := Aside0.mk h1; clear h1)
    go_ret
    exact ⟨rfl, H1.out⟩
  have d2 : decide (20 < (l1.length : Int)) = false := decide_eq_false (by omega)
  have GL := Aside0.mk (show l0.length ≤ 20 ∧ l1.length ≤ 20 by omega)
  clear g0 g1
  obtain ⟨s1, hs1⟩ := size_eq (l0.length + 1) l0 (by have := GL.out; omega) (by omega)
  obtain ⟨s2, hs2⟩ := size_eq (l1.length + 1) l1 (by have := GL.out; omega) (by omega)
  have HS := Aside0.mk (And.intro hs1 hs2)
  clear hs1 hs2
  obtain ⟨s, hs⟩ : ∃ s, wrap64 (s1 + s2) = s := ⟨_, rfl⟩
  have hs' : IntKind.i64.wrap (s1 + s2) = s := by rw [← hs]; simp [i64_w]
  obtain ⟨m0, hm0⟩ : ∃ m0, l0.map cv = m0 := ⟨_, rfl⟩
  obtain ⟨m1, hm1⟩ : ∃ m1, l1.map cv = m1 := ⟨_, rfl⟩
  have ln0 : m0.length = l0.length := by rw [← hm0]; simp
  have ln1 : m1.length = l1.length := by rw [← hm1]; simp
  obtain ⟨⟨x, e0⟩, hx⟩ : ∃ p, ec [] m0 = p := ⟨_, rfl⟩
  obtain ⟨⟨y, e1⟩, hy⟩ : ∃ p, ec [] m1 = p := ⟨_, rfl⟩
  have MM := Aside0.mk (And.intro hm0 hm1)
  have LN := Aside0.mk (And.intro ln0 ln1)
  have XY := Aside0.mk (And.intro hx hy)
  clear hm0 hm1 ln0 ln1 hx hy
  by_cases g2 : 2000 < s
  · go_enter Try.func6, Try.ntmps6
    go_wp2_with (first | (go_at_call 10; (with_reducible refine awake_c.mono ?_); rintro e w1 ⟨rfl, h1⟩; have H1 := Aside0.mk h1; clear h1) | (go_at_call 11; (with_reducible refine (size_c (L0.out.below H1.out) HS.out.1).mono ?_); rintro e w2 ⟨rfl, h2⟩; have H2 := Aside0.mk (below_step H1.out h2); clear h2) | (go_at_call 11; (with_reducible refine (size_c (L1.out.below H2.out) HS.out.2).mono ?_); rintro e w3 ⟨rfl, h3⟩; have H3 := Aside0.mk (below_step H2.out h3); clear h3))
    go_ret
    exact ⟨rfl, H3.out⟩
  have d3 : decide (2000 < s) = false := decide_eq_false g2
  go_enter Try.func6, Try.ntmps6
  go_upto_region 7 with (first | (go_at_call 10; (with_reducible refine awake_c.mono ?_); rintro e w1 ⟨rfl, h1⟩; have H1 := Aside0.mk h1; clear h1) | (go_at_call 11; (with_reducible refine (size_c (L0.out.below H1.out) HS.out.1).mono ?_); rintro e w2 ⟨rfl, h2⟩; have H2 := Aside0.mk (below_step H1.out h2); clear h2) | (go_at_call 11; (with_reducible refine (size_c (L1.out.below H2.out) HS.out.2).mono ?_); rintro e w3 ⟨rfl, h3⟩; have H3 := Aside0.mk (below_step H2.out h3); clear h3) | (go_at_call 12; (with_reducible refine (own_c (L0.out.below H3.out) (by have := GL.out; omega) MM.out.1).mono ?_); rintro e w4 ⟨A4, c4, rfl, a4, h4⟩; have K4 := Aside0.mk a4; have H4 := Aside0.mk (below_step H3.out h4); clear h4 a4) | (go_at_call 13; (with_reducible refine (enc_c K4.out (by have := GL.out; have := LN.out; omega) XY.out.1).mono ?_); rintro e w5 ⟨A5, c5, rfl, a5, h5⟩; have K5 := Aside0.mk a5; have H5 := Aside0.mk (below_step H4.out h5); clear h5 a5) | (go_at_call 12; (with_reducible refine (own_c (L1.out.below H5.out) (by have := GL.out; omega) MM.out.2).mono ?_); rintro e w6 ⟨A6, c6, rfl, a6, h6⟩; have K6 := Aside0.mk a6; have H6 := Aside0.mk (below_step H5.out h6); have J6 := Aside0.mk h6; clear h6 a6) | (go_at_call 13; (with_reducible refine (enc_c K6.out (by have := GL.out; have := LN.out; omega) XY.out.2).mono ?_); rintro e w7 ⟨A7, c7, rfl, a7, h7⟩; have K7 := Aside0.mk a7; have H7 := Aside0.mk (below_step H6.out h7); have X7 := Aside0.mk (K5.out.below (below_step J6.out h7)); clear h7 a7))
  clear H1 H2 H3 H4 H5 H6 J6 K4 K5 K6 hs hs' d3 g2 d1 d2
  by_cases g3 : e0 = 0
  case neg =>
    have d4 : (e0 != 0) = true := bne_iff_ne.2 g3
    clear g3
    go_wp2
    go_ret
    exact ⟨rfl, H7.out⟩
  by_cases g4 : e1 = 0
  case neg =>
    have d4 : (e1 != 0) = true := bne_iff_ne.2 g4
    subst g3
    clear g4
    go_wp2
    go_ret
    exact ⟨rfl, H7.out⟩
  subst g3
  subst g4
  have hg0 := ec_bad m0 [] (by rw [XY.out.1])
  have hg1 := ec_bad m1 [] (by rw [XY.out.2])
  have hx : x = fl m0 := by have := ec_good m0 [] hg0; rw [XY.out.1] at this; simpa using congrArg Prod.fst this
  have hy : y = fl m1 := by have := ec_good m1 [] hg1; rw [XY.out.2] at this; simpa using congrArg Prod.fst this
  have lx : x.length ≤ 1400000 := by have := fl_len m0 hg0; have := GL.out; have := LN.out; rw [hx]; omega
  have ly : y.length ≤ 1400000 := by have := fl_len m1 hg1; have := GL.out; have := LN.out; rw [hy]; omega
  have hall : codec_Decode.l0 5000 (x ++ y) [] = some (m0 ++ m1, 0) := by
    have := dec_fl (m0 ++ m1) 5000 [] (good_append hg0 hg1) (by simp; have := GL.out; have := LN.out; omega) (by simp; have := GL.out; have := LN.out; omega) (by rw [fl_append, ← hx, ← hy]; simp; omega)
    rw [fl_append, ← hx, ← hy] at this
    simpa using this
  have hbm : (m0 ++ m1).map bk = l0 ++ l1 := by rw [← MM.out.1, ← MM.out.2, List.map_append, map_bk_cv, map_bk_cv]
  obtain ⟨z, hz⟩ : ∃ z, x ++ y = z := ⟨_, rfl⟩
  obtain ⟨ll, hll⟩ : ∃ ll, l0 ++ l1 = ll := ⟨_, rfl⟩
  obtain ⟨mm, hmm⟩ : ∃ mm, m0 ++ m1 = mm := ⟨_, rfl⟩
  have lll : ll.length ≤ 40 := by have := GL.out; rw [← hll, List.length_append]; omega
  have lmm : mm.length ≤ 40 := by have := GL.out; have := LN.out; rw [← hmm, List.length_append]; omega
  rw [hz, hmm] at hall
  rw [hmm, hll] at hbm
  have HZ := Aside0.mk (And.intro hz (And.intro hll (And.intro lll lmm)))
  clear hz hll hmm lll lmm
  obtain ⟨K, hK⟩ : ∃ K : Nat, a2 % ((x.length : Int) + 1) = (K : Int) := ⟨(a2 % ((x.length : Int) + 1)).toNat, by have := Int.emod_nonneg a2 (show (x.length : Int) + 1 ≠ 0 by omega); omega⟩
  have hK2 : a2.tmod ((x.length : Int) + 1) = (K : Int) := by rw [Int.tmod_eq_emod_of_nonneg q0]; exact hK
  have hKx : K ≤ x.length := by have := Int.emod_lt_of_pos a2 (show (0 : Int) < (x.length : Int) + 1 by omega); omega
  obtain ⟨n, hn1, hn2, hn3⟩ := stop_at (fun j => (fl (m0.take j)).length) K m0.length
  have hpart := dec_part m0 K 5000 n [] hg0 (by rw [← hx]; exact hKx) hn1 hn2 hn3 (by have := GL.out; have := LN.out; omega) (by simp; have := GL.out; have := LN.out; omega) (by rw [← hx]; omega)
  rw [← hx, List.nil_append] at hpart
  have HX := Aside0.mk hx
  have HA := Aside0.mk (And.intro hall hbm)
  have HP := Aside0.mk hpart
  have HN := Aside0.mk (And.intro hn1 (And.intro hn2 hn3))
  have HK := Aside0.mk (And.intro hK2 hK)
  have LX := Aside0.mk (And.intro lx (And.intro ly hKx))
  clear hx hy hall hbm hpart hn1 hn2 hn3 hK hK2 hKx hg0 hg1 lx ly XY
  go_upto_region 10 with (first | ((with_reducible refine gate_dst (N := 55) rfl ?_); refine Kd.R_lit (Kd.int .u8) _ 5 ?hg (N := 55) ?hd (xs := ([] : List Int)) (inner := []) (ok := fun _ => True) (okp := fun _ => True) ?hr ?hp (fun _ hk => hk) trivial (Below.refl _ _) (Nat.le_refl _) (by simp) ?_; (case hd => rfl); (case hg => rfl); (case hr => first | (go_simp; done) | (go_simp; rfl)); (case hp => exact (Reps.none _ _)); intro v8 w8 ho8 hb8 hg8 hn8; have O8 := Aside0.mk ho8; have B8 := Aside0.mk hb8; clear ho8 hb8 hg8 hn8) | ((with_reducible refine gate_builtin (b := .append) (xs := #[.tmp 55, .tmp 56]) rfl ?_); at_builtin; refine Kd.R_append_rows (Kd.int .u8) (w0 := w7) w7.heap.size rfl (.tmp 55) (.tmp 56) 27 5 (.int .u8 0) 1 rfl Try.underlying27 info5 rfl (by decide) (by omega) v8 [] x _ _ _ (fun _ => True) (fun _ => False) rfl rfl O8.out (X7.out.below B8.out).2 (fun _ _ h => h) (fun _ h => h.elim) (fun _ _ => trivial) B8.out (below_size B8.out) (by have := LX.out; simp; omega) ?_; intro v9 w9 ho9 hb9 hg9 hat9; rw [List.nil_append] at ho9; have O9 := Aside0.mk ho9; have B9 := Aside0.mk hb9; clear ho9 hb9 hg9 hat9) | ((with_reducible refine gate_builtin (b := .append) (xs := #[.tmp 57, .tmp 58]) rfl ?_); at_builtin; refine Kd.R_append_rows (Kd.int .u8) (w0 := w7) w7.heap.size rfl (.tmp 57) (.tmp 58) 27 5 (.int .u8 0) 1 rfl Try.underlying27 info5 rfl (by decide) (by omega) v9 x y _ _ _ (fun _ => True) (fun _ => False) rfl rfl O9.out (K7.out.below B9.out).2 (fun _ _ h => h) (fun _ h => h.elim) (fun _ _ => trivial) B9.out (below_size B9.out) (by have := LX.out; omega) ?_; intro v10 w10 ho10 hb10 hg10 hat10; rw [HZ.out.1] at ho10; obtain ⟨A10, c10, e10⟩ := Kd.R_slice ho10; subst e10; have O10 : Aside0 (Al (Kd.int .u8) w10 A10 c10 z) := ⟨(Kd.R_reads' ho10).2.1, (Kd.R_reads' ho10).2.2⟩; have B10 := Aside0.mk hb10; clear ho10 hb10 hg10 hat10) | (go_at_call 17; (with_reducible refine (dec_c O10.out HA.out.1).mono ?_); rintro e w11 ⟨A11, c11, rfl, a11, h11⟩; have K11 := Aside0.mk a11; have B11 := Aside0.mk (below_step B10.out h11); clear a11 h11))
  clear O8 B8 O9 B9 O10 B10
  go_upto_region 12 with (first | (go_at_call 16; (with_reducible refine (back_c K11.out (by have := HZ.out.2.2.2; omega) HA.out.2).mono ?_); rintro e w12 ⟨A12, c12, rfl, a12, h12⟩; have K12 := Aside0.mk a12; have B12 := Aside0.mk (below_step B11.out h12); clear a12 h12) | ((with_reducible refine gate_dst (N := 68) rfl ?_); refine gate_guard (by rfl) ?_; dsimp only; refine Kd.R_lit k43 _ 43 ?hg (N := 68) ?hd (xs := ([] : List S43)) (inner := []) (ok := fun _ => True) (okp := fun _ => True) ?hr ?hp (fun _ hk => hk) trivial (Below.refl _ _) (Nat.le_refl _) (by simp) ?_; (case hd => rfl); (case hg => rfl); (case hr => first | (go_simp; done) | (go_simp; rfl)); (case hp => exact (Reps.none _ _)); intro v13 w13 ho13 hb13 hg13 hn13; have O13 := Aside0.mk (Kd.R_N ho13); have B13 := Aside0.mk hb13; clear ho13 hb13 hg13 hn13) | ((with_reducible refine gate_builtin (b := .append) (xs := #[.tmp 68, .tmp 69]) rfl ?_); refine gate_guard (by rfl) ?_; dsimp only; at_builtin; refine Kd.N_append_rows k43 (w0 := w12) w12.heap.size rfl (.tmp 68) (.tmp 69) 22 43 (.agg #[(.int .i64 0), (.slice none 0 0)]) 32 rfl Try.underlying22 info43 rfl (by decide) (by omega) v13 [] l0 _ _ _ (fun _ => True) (fun k => k < w12.heap.size) rfl rfl O13.out (Kd.F_step (Kd.C_F k43_heap (L0.out.below (below_step H7.out B12.out)).2) (fun k hk _ => B13.out.block k hk)) (fun k hk => ⟨trivial, fun e => by have := Kd.N_base O13.out k e.symm; omega⟩) (fun _ _ => trivial) B13.out (below_size B13.out) (by simp; have := GL.out; omega) ?_; intro v14 w14 ho14 hb14 hg14 hat14; rw [List.nil_append] at ho14; have O14 := Aside0.mk ho14; have B14 := Aside0.mk hb14; clear ho14 hb14 hg14 hat14) | ((with_reducible refine gate_builtin (b := .append) (xs := #[.tmp 70, .tmp 71]) rfl ?_); refine gate_guard (by rfl) ?_; dsimp only; at_builtin; refine Kd.N_append_rows k43 (w0 := w12) w12.heap.size rfl (.tmp 70) (.tmp 71) 22 43 (.agg #[(.int .i64 0), (.slice none 0 0)]) 32 rfl Try.underlying22 info43 rfl (by decide) (by omega) v14 l0 l1 _ _ _ (fun _ => True) (fun k => k < w12.heap.size) rfl rfl O14.out (Kd.F_step (Kd.C_F k43_heap (L1.out.below (below_step H7.out B12.out)).2) (fun k hk _ => B14.out.block k hk)) (fun k hk => ⟨trivial, fun e => by have := Kd.N_base O14.out k e.symm; omega⟩) (fun _ _ => trivial) B14.out (below_size B14.out) (by have := GL.out; omega) ?_; intro v15 w15 ho15 hb15 hg15 hat15; rw [HZ.out.2.1] at ho15; obtain ⟨A15, c15, e15⟩ := Kd.N_slice ho15; subst e15; have O15 : Aside0 (Al k43 w15 A15 c15 ll) := ⟨(Kd.N_reads' ho15).2.1, (Kd.N_reads' ho15).2.2⟩; have B15 := Aside0.mk hb15; clear ho15 hb15 hg15 hat15) | (go_at_call 15; (with_reducible refine (same_c (K12.out.below B15.out) O15.out (by have := HZ.out.2.2.1; omega)).mono ?_); rintro e w16 ⟨rfl, h16⟩; have B16 := Aside0.mk (below_step (below_step B12.out B15.out) h16); clear h16))
  clear O13 B13 O14 B14 O15 B15 K11 B11 K12 B12
  have hb16 := below_step H7.out B16.out
  have hx16 := X7.out.below B16.out
  obtain ⟨i0, hi0, _, hsz, _⟩ := info_parts info5
  have hcut0 := cut_to (P := Try.prog) 27 5 .i64 Try.underlying27 hi0 A5 x.length c5 (K : Int) (by omega) (by have := LX.out; omega) hx16.1
  rw [Int.toNat_natCast] at hcut0
  have hCt := Kd.C_take (m := K) hx16.2 (by have := LX.out; omega)
  obtain ⟨pt, hpt⟩ : ∃ pt, x.take K = pt := ⟨_, rfl⟩
  have hpl : pt.length = K := by rw [← hpt, List.length_take]; have := LX.out; omega
  rw [hpt] at hCt
  have hP := HP.out
  rw [hpt] at hP
  have PT : Aside0 (Al (Kd.int .u8) w16 A5 c5 pt) := ⟨by rw [hpl]; have := LX.out; have := hx16.1; omega, hCt⟩
  have HB := Aside0.mk hb16
  have hKI : (K : Int) ≤ 1400000 := by have := LX.out; omega
  obtain ⟨hK2, hK3⟩ := HK.out
  have hne : ((x.length : Int) + 1 == 0) = false := beq_eq_false_iff_ne.2 (by omega)
  have lxi : (x.length : Int) ≤ 1400000 := by have := LX.out; omega
  have hcut : ∀ W : World, (Instr.slice 27 (.slice A5 x.length c5) none (some (.int .i64 (K : Int))) none).run Try.prog W = .ok (.slice A5 pt.length c5) W := fun W => by rw [hpl]; exact hcut0 W
  clear hcut0
  have PL := Aside0.mk hpl
  clear hCt hpt hi0 hsz hb16 hx16 HP hpl
  obtain ⟨⟨rp, ep⟩, hrp⟩ : ∃ p, (if (fl (m0.take n)).length = K then (m0.take n, (0 : Int)) else ([], 4)) = p := ⟨_, rfl⟩
  rw [hrp] at hP
  have RP := Aside0.mk hrp
  have HP := Aside0.mk hP
  clear hrp hP
  go_upto_region 14 with (go_at_call 17; (with_reducible refine (dec_c PT.out HP.out).mono ?_); rintro e w17 ⟨A17, c17, rfl, a17, h17⟩; have K17 := Aside0.mk a17; have B17 := Aside0.mk (below_step HB.out h17); clear a17 h17)
  clear hcut hne
  go_wp2_with fail
  go_loopg [16, 17] (n + 1) (fun g v16 v17 wq => ∃ j : Nat, v16 = .int .i64 ((fl (m0.take j)).length : Int) ∧ v17 = .int .i64 (j : Int) ∧ n + 1 - j ≤ g ∧ j ≤ n ∧ wq = w17)
  case atStart => exact ⟨0, rfl, rfl, by omega, by omega, rfl⟩
  case round =>
    obtain ⟨j, rfl, rfl, hg, hj, rfl⟩ := hrel
    have hbw := B17.out
    have hL := L0.out.below hbw
    have hBW := Aside0.mk hbw
    clear hbw
    by_cases hjn : j < n
    · have hjL : j < l0.length := by have := HN.out.1; have := LN.out; omega
      have hjm : j < m0.length := by have := HN.out.1; omega
      have hlt := HN.out.2.1 j hjn
      obtain ⟨ad, Av, cv', e, hx0, hx1, hl, hi⟩ := at_T43 hL.2 (j : Int) (by omega) (by omega)
      cases e
      obtain ⟨V, hV⟩ : ∃ V, (rd_T43 l0 (j : Int)).f1.length = V := ⟨_, rfl⟩
      have hs := fl_take_succ m0 j hjm
      have hmj : (m0[j]).f1.length = V := by
        have h1 : m0[j]? = (l0.map cv)[j]? := by rw [MM.out.1]
        rw [List.getElem?_eq_getElem hjm, List.getElem?_map, List.getElem?_eq_getElem hjL, Option.map_some] at h1
        rw [Option.some.inj h1, ← hV]
        simp [rd_T43, cv, List.getD_eq_getElem?_getD, List.getElem?_eq_getElem hjL]
      rw [hmj] at hs
      have hle := fl_take_le m0 (j + 1)
      rw [← HX.out, hs] at hle
      rw [hV, Int.toNat_natCast] at hx1
      obtain ⟨E, hE⟩ : ∃ E, (fl (m0.take j)).length = E := ⟨_, rfl⟩
      have hlt2 : E < K := by rw [← hE]; exact hlt
      rw [hE] at hs hle ⊢
      have HSE := Aside0.mk hs
      have GG := Aside0.mk (And.intro hg hjn)
      have b1 : (E : Int) < (K : Int) := by omega
      have b2 : (j : Int) < (l0.length : Int) := by omega
      have b3 : (E : Int) + 3 + (V : Int) ≤ 1400000 := by have := LX.out; omega
      have b4 : (0 : Int) ≤ (E : Int) := by omega
      have b5 : (j : Int) ≤ 20 := by have := GL.out; omega
      have b6 : (E : Int) ≤ 1400000 := by omega
      have b7 : (V : Int) ≤ 1400000 := by omega
      clear hg hj hjn hlt hl hi hV hs hmj hle hE hlt2 hx0 hL hjL hjm
      go_wp2
      go_roundg (n + 1 - (j + 1))
      case measure => have := GG.out; omega
      case rel => exact ⟨j + 1, by rw [HSE.out]; simp, by go_num, by omega, by have := GG.out; omega, rfl⟩
    · obtain rfl : j = n := by omega
      have hex : ¬ (j < l0.length) ∨ ¬ ((fl (m0.take j)).length < K) := by
        have h1 := HN.out.2.2
        have h2 := LN.out.1
        rcases h1 with h1 | h1
        · exact .inl (by omega)
        · exact .inr (by omega)
      clear hg hj hjn
      obtain ⟨E, hE⟩ : ∃ E, (fl (m0.take j)).length = E := ⟨_, rfl⟩
      rw [hE] at hex ⊢
      have hrp := RP.out
      rw [hE] at hrp
      have hjl : j ≤ l0.length := by have := HN.out.1; have := LN.out; omega
      have b5 : (j : Int) ≤ 20 := by have := GL.out; omega
      by_cases hq : E = K
      · rw [if_pos hq] at hrp
        simp only [Prod.mk.injEq] at hrp
        obtain ⟨hr1, rfl⟩ := hrp
        subst hq
        have hbk : rp.map bk = l0.take j := by rw [← hr1, ← MM.out.1, ← List.map_take, map_bk_cv]
        obtain ⟨i2, hi2, _, hsz2, _⟩ := info_parts info43
        have hcut0 := cut_to (P := Try.prog) 22 43 .i64 Try.underlying22 hi2 A0 l0.length c0 (j : Int) (by omega) (by omega) L0.out.1
        rw [Int.toNat_natCast] at hcut0
        obtain ⟨lt, hlt⟩ : ∃ lt, l0.take j = lt := ⟨_, rfl⟩
        have hll : lt.length = j := by rw [← hlt, List.length_take]; omega
        have hcut : ∀ W : World, (Instr.slice 22 (.slice A0 l0.length c0) none (some (.int .i64 (j : Int))) none).run Try.prog W = .ok (.slice A0 lt.length c0) W := fun W => by rw [hll]; exact hcut0 W
        have hCt := Kd.C_take (m := j) hL.2 hjl
        rw [hlt] at hCt hbk
        have LT : Aside0 (Al k43 wr A0 c0 lt) := ⟨by have := L0.out.1; omega, hCt⟩
        have LB := Aside0.mk (And.intro hbk (show rp.length ≤ 100000 ∧ lt.length ≤ 100000 from ⟨by have := congrArg List.length hbk; rw [List.length_map] at this; omega, by omega⟩))
        clear hr1 hbk hi2 hsz2 hcut0 hlt hll hCt hE hL RP
        have hw0 : Below wr.heap.size wr wr.drew := below_drew1 (Below.refl _ _)
        have W0 := Aside0.mk hw0
        clear hw0
        by_cases hj2 : j < l0.length
        · have d1 : (j : Int) < (l0.length : Int) := by omega
          clear hex hj2 hjl
          go_wp2_with fail
          go_region_held3 (fun w' => True) (trivial) (first | (go_at_call 16; (with_reducible refine (back_c (K17.out.below W0.out) LB.out.2.1 LB.out.1).mono ?_); rintro e w18 ⟨A18, c18, rfl, a18, h18⟩; have K18 := Aside0.mk a18; have B18 := Aside0.mk (below_step W0.out h18); clear a18 h18) | (go_at_call 15; (with_reducible refine (same_c K18.out (LT.out.below B18.out) LB.out.2.2).mono ?_); rintro e w19 ⟨rfl, h19⟩; have B19 := Aside0.mk (below_step B18.out h19); clear h19))
          go_wp2
          go_ret
          exact ⟨rfl, below_step hBW.out B19.out⟩
        · have d1 : decide ((j : Int) < (l0.length : Int)) = false := decide_eq_false (by omega)
          have d2 : ¬ (j : Int) < (l0.length : Int) := by omega
          clear hex hj2 hjl
          go_wp2_with fail
          go_region_held3 (fun w' => True) (trivial) (first | (go_at_call 16; (with_reducible refine (back_c (K17.out.below W0.out) LB.out.2.1 LB.out.1).mono ?_); rintro e w18 ⟨A18, c18, rfl, a18, h18⟩; have K18 := Aside0.mk a18; have B18 := Aside0.mk (below_step W0.out h18); clear a18 h18) | (go_at_call 15; (with_reducible refine (same_c K18.out (LT.out.below B18.out) LB.out.2.2).mono ?_); rintro e w19 ⟨rfl, h19⟩; have B19 := Aside0.mk (below_step B18.out h19); clear h19))
          go_wp2
          go_ret
          exact ⟨rfl, below_step hBW.out B19.out⟩
      · rw [if_neg hq] at hrp
        simp only [Prod.mk.injEq] at hrp
        obtain ⟨rfl, rfl⟩ := hrp
        have e1 : ((E : Int) != (K : Int)) = true := bne_iff_ne.2 (by omega)
        have e2 : (E != K) = true := bne_iff_ne.2 hq
        by_cases hj2 : j < l0.length
        · have d1 : (j : Int) < (l0.length : Int) := by omega
          have d3 : ¬ (E : Int) < (K : Int) := by rcases hex with h | h <;> omega
          have d4 : decide ((E : Int) < (K : Int)) = false := decide_eq_false d3
          clear hex hj2 hjl hE hL RP hq
          go_wp2
          go_ret
          exact ⟨rfl, hBW.out⟩
        · have d1 : decide ((j : Int) < (l0.length : Int)) = false := decide_eq_false (by omega)
          have d2 : ¬ (j : Int) < (l0.length : Int) := by omega
          clear hex hj2 hjl hE hL RP hq
          go_wp2
          go_ret
          exact ⟨rfl, hBW.out⟩
end Go.Proofs.Ytfoagppeddflnaa.PT07

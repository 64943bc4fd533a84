import Derived.Test.YtpliaagfhjnnaaaHeapE
namespace Go.Proofs.Ytpliaagfhjnnaaa.Heap
open Go.RowKit Go.Proofs.YtpliaagfhjnnaaaW.PrintWords Go.Proofs.Ytpliaagfhjnnaaa.Sep Go.Proofs.Ytpliaagfhjnnaaa.HeapP

set_option maxHeartbeats 2000000 in
set_option maxRecDepth 100000 in
theorem take_calls {w : World} {F : Nat → Prop} {p : Nat} {vi vk vp : Value} {s : HS} {Has : List Bool} (ho : HObj w F p vi vk vp s Has) (a i : Nat) (ha : a < s.it.length) (hi : gi s.it a = (i : Int)) : Calls Try.prog 33 #[.pointer (some ⟨p, 0, none⟩), .int .i64 (a : Int)] w fun e w' => e = .returned (.tuple #[]) ∧ SetPost w F p (Has.set i false) s.ks w' := by
  obtain ⟨m, hm⟩ : ∃ m, s.it.length = m + 1 := ⟨s.it.length - 1, by omega⟩
  obtain ⟨l, hl, ll, _, pl⟩ := ho.co.itm m (by omega)
  obtain ⟨i', hi', il, _, pi⟩ := ho.co.itm a ha
  obtain rfl : i' = i := by omega
  have hpn := ho.co.pn
  have hm2 := ho.co.le
  have hnn := ho.nn
  obtain ⟨g1, c1, rfl, _⟩ := ho.hv.oi.form (by omega)
  obtain ⟨g3, c3, rfl, _⟩ := ho.hv.op.form (by omega)
  have hcap := ho.hv.oi.cap
  have ca := ho.hv.oi.cell a ha
  have cl := ho.hv.oi.cell m (by omega)
  rw [show s.it.getD a 0 = (i' : Int) from hi'] at ca
  rw [show s.it.getD m 0 = (l : Int) from hl] at cl
  have hv1 := fun (w1 : World) (hw : OwnI 3 w1 (.slice (some ⟨g1, 0, none⟩) m c1) (s.it.take m)) (hg : w.grownBy w1 (.slice (some ⟨g1, 0, none⟩) s.it.length c1 : Value).ownBlock) => ho.hv.items (w1 := w1) (v1 := .slice (some ⟨g1, 0, none⟩) m c1) (s.it.take m) hw hg (.inl rfl)
  have HC := Aside0.mk (fun (w1 : World) (hw : OwnI 3 w1 (.slice (some ⟨g1, 0, none⟩) s.it.length c1) s.it) => OwnI.cut (m := m) hw (by omega))
  have f0 := blk_at ho.hv.blk 0 _ rfl
  have z0 := blk_free ho.hv.blk 0
  have HV := Aside0.mk hv1
  have HO := Aside0.mk ho
  have HM := Aside0.mk hm
  have LL := Aside0.mk (And.intro hl (And.intro ll (And.intro hi' (And.intro il hpn))))
  have NN := Aside0.mk (And.intro hm2 hnn)
  have d1 : (a : Int) < (m : Int) + 1 := by omega
  have d2 : (m : Int) < 70000 := by omega
  have d3 : m ≤ c1 := by omega
  have ew : IntKind.i64.wrap (m : Int) = (m : Int) := IntWalk.i64_in _ (by omega)
  have AM := Aside0.mk (show a < m + 1 by omega)
  rw [hm] at f0
  clear hv1 ho hm hl ll hi' il hpn hm2 hnn hcap ha hi pl pi
  go_enter Try.func33, Try.ntmps33
  go_wp2_with fail
  go_quiet (fail)
  go_wp2_with fail
  go_region
  have P1 := HV.out (w.drewN (nq + 1)) (HC.out _ (HO.out.hv.oi.drewN _)) ⟨rfl, rfl, rfl, Nat.le_refl _, fun _ _ _ => rfl⟩
  have hv1 := P1.1
  have hc1 := P1.2
  clear P1 HV HC ca cl f0 z0 ew
  generalize hW1 : World.setCell (w.drewN (nq + 1)) _ _ = W1 at hv1 hc1 ⊢
  have f2 := blk_at hv1.blk 2 _ rfl
  have cp := hv1.op.cell i' (by have := LL.out; show i' < s.pl.length; omega)
  have fp := hv1.op.free i'
  have d4 : (i' : Int) < (s.pl.length : Int) := by have := LL.out; omega
  have Q2 := hv1.place i' (-1)
  have hv2 := Q2.1
  have hc2 := hc1.trans Q2.2 (fun _ _ h => h)
  have V2 := Aside0.mk (And.intro hv2 hc2)
  clear hv1 hc1 Q2 hv2 hc2 hW1
  by_cases ham : a = m
  · have hil : l = i' := by
      have := LL.out
      rw [ham] at this
      omega
    subst hil
    go_wp2
    refine bodyPost_ret (results_none rfl _ _ _) rfl ?_
    subst ham
    exact ⟨rfl, HIs.new HO.out V2.out.1 V2.out.2 (.inr (fun k hk => .inl hk)) (HO.out.co.pop HM.out LL.out.1) (HO.out.he.pop HM.out _) rfl (by simp)⟩
  · have hne : i' ≠ l := by
      intro e
      have h2 := LL.out
      exact ham (HO.out.co.inj (by have := HM.out; have := AM.out; omega) (by have := HM.out; omega) (by omega))
    have hne2 : ((i' : Int) == (l : Int)) = false := beq_eq_false_iff_ne.2 (by omega)
    have AL := Aside0.mk (show a < m by have := AM.out; omega)
    have CD := Aside0.mk (HO.out.co.drop HM.out AL.out LL.out.2.2.1 LL.out.1)
    have CH := Aside0.mk (HO.out.he.drop (l := (l : Int)) HM.out AL.out ((s.pl.set i' (-1)).set l a))
    have d5 : (l : Int) < (s.pl.length : Int) := by have := LL.out; omega
    clear ham hne
    go_wp2_with (first | (go_at_call 35; refine (put_calls l a p _ _ _ _ _ V2.out.1 (by have := HM.out; have := AL.out; simp [List.length_take]; omega) (by have := LL.out; simp; omega)).mono ?_; rintro e w3 ⟨rfl, hv3, hc3⟩; have V3 := Aside0.mk (And.intro hv3 hc3); clear hv3 hc3) | (go_at_call 31; refine (up_then (Has.set i' false) l a p _ _ _ _ _ V3.out.1 CD.out CH.out (by have := HM.out; have := AL.out; simp [put, List.length_take]; omega) (gi_set_same _ _ _ (by have := HM.out; have := AL.out; simp [List.length_take]; omega)) (by simpa using HO.out.nn)).mono ?_; rintro e w5 ⟨rfl, s2, a2, R2⟩; obtain ⟨q2, r2⟩ := R2.cells; have RA := Aside0.mk R2; clear R2) | (go_at_call 32; refine (down_then RA.out (by simpa using HO.out.nn)).mono ?_; rintro e w6 ⟨rfl, s3, hv4, hc4, co4, h4, k4⟩))
    go_end0
    exact ⟨rfl, HIs.new HO.out hv4 (V2.out.2.trans (V3.out.2.trans hc4 (fun _ _ h => h)) (fun _ _ h => h)) (.inr (fun k hk => .inl hk)) co4 h4 k4 (by simp)⟩
theorem remove_yes {w : World} {F : Nat → Prop} {p : Nat} {Has : List Bool} {ks : List Int} (h : HIs w F p Has ks) (i : Nat) (hi : i < Has.length) (hb : gb Has i = true) : Calls Try.prog 27 #[.pointer (some ⟨p, 0, none⟩), .int .i64 (i : Int)] w fun e w' => e = .returned (.int .i64 0) ∧ SetPost w F p (Has.set i false) ks w' := by
  obtain ⟨vi, vk, vp, s, ho, rfl⟩ := h
  have hpn := ho.co.pn
  obtain ⟨g, c, rfl, _⟩ := ho.hv.op.form (by omega)
  have f2 := blk_at ho.hv.blk 2 _ rfl
  have cp := ho.hv.op.cell i (by omega)
  obtain ⟨j, lj, ej, ij⟩ := ho.co.on i hi hb
  rw [show s.pl.getD i 0 = j from ej] at cp
  have hi' : (i : Int) < (s.pl.length : Int) := by omega
  have H := Aside0.mk ho
  have HI := Aside0.mk (show i < s.pl.length by omega)
  have HJ := Aside0.mk (And.intro lj ij)
  have j0 : (0 : Int) ≤ (j : Int) := by omega
  clear ho hi hb hpn ej lj ij
  go_enter Try.func27, Try.ntmps27
  go_wp2_with (first | (go_at_call 30; refine (has_yes H.out.hv i HI.out).mono ?_; rintro e w2 ⟨rfl, rfl⟩) | (go_at_call 33; refine (take_calls H.out j i HJ.out.1 HJ.out.2).mono ?_; rintro e w3 ⟨rfl, hp3⟩))
  go_ret
  exact ⟨rfl, hp3⟩
theorem pop_nil (w : World) : Calls Try.prog 25 #[.pointer none] w fun e w' => e = .returned (.tuple #[.int .i64 0, .int .i64 0, .bool false]) ∧ w' = w := by
  go_enter Try.func25, Try.ntmps25
  go_wp2
  go_ret3
  exact ⟨rfl, rfl⟩
theorem pop_none {w : World} {F : Nat → Prop} {p : Nat} {Has : List Bool} {ks : List Int} (h : HIs w F p Has ks) (h0 : Has.count true = 0) : Calls Try.prog 25 #[.pointer (some ⟨p, 0, none⟩)] w fun e w' => e = .returned (.tuple #[.int .i64 0, .int .i64 0, .bool false]) ∧ w' = w := by
  obtain ⟨vi, vk, vp, s, ho, rfl⟩ := h
  obtain ⟨A, c, rfl⟩ := ho.hv.oi.slice
  have f0 := blk_at ho.hv.blk 0 _ rfl
  have hl := ho.co.len
  rw [h0] at hl
  rw [hl] at f0
  clear ho h0 hl
  go_enter Try.func25, Try.ntmps25
  go_wp2
  go_ret3
  exact ⟨rfl, rfl⟩
theorem HIs.keyCell {w : World} {F : Nat → Prop} {p : Nat} {Has : List Bool} {ks : List Int} (h : HIs w F p Has ks) (i : Nat) (hi : i < Has.length) : ∃ g c, w.cell? ⟨p, 1, none⟩ = some (.slice (some ⟨g, 0, none⟩) ks.length c) ∧ w.cell? ⟨g, i, none⟩ = some (.int .i64 (gi ks i)) ∧ (i : Int) < (ks.length : Int) := by
  obtain ⟨vi, vk, vp, s, ho, rfl⟩ := h
  have hk := ho.co.kl
  obtain ⟨g, c, rfl, _⟩ := ho.hv.ok_.form (by omega)
  exact ⟨g, c, blk_at ho.hv.blk 1 _ rfl, ho.hv.ok_.cell i (by omega), by omega⟩
def PopPost (w : World) (F : Nat → Prop) (p : Nat) (Has : List Bool) (ks : List Int) (e : Ending) (w' : World) : Prop := ∃ i, Least Has ks i ∧ e = .returned (.tuple #[.int .i64 (i : Int), .int .i64 (gi ks i), .bool true]) ∧ SetPost w F p (Has.set i false) ks w'
theorem SetPost.drewN {w : World} {F : Nat → Prop} {p : Nat} {Has : List Bool} {ks : List Int} {w' : World} (h : SetPost w F p Has ks w') (n : Nat) : SetPost w F p Has ks (w'.drewN n) := ⟨h.1.drewN n, h.2.drewN n⟩
theorem pop_some {w : World} {F : Nat → Prop} {p : Nat} {Has : List Bool} {ks : List Int} (h : HIs w F p Has ks) (h0 : 0 < Has.count true) : Calls Try.prog 25 #[.pointer (some ⟨p, 0, none⟩)] w fun e w' => PopPost w F p Has ks e w' := by
  obtain ⟨vi, vk, vp, s, ho, rfl⟩ := h
  have hl := ho.co.len
  obtain ⟨i, e, il, hb, pi⟩ := ho.co.itm 0 (by omega)
  have hL := ho.he.least ho.co (by omega) e
  obtain ⟨m, hm⟩ : ∃ m, s.it.length = m + 1 := ⟨s.it.length - 1, by omega⟩
  obtain ⟨g, c, rfl, _⟩ := ho.hv.oi.form (by omega)
  have f0 := blk_at ho.hv.blk 0 _ rfl
  have c0 := ho.hv.oi.cell 0 (by omega)
  rw [show s.it.getD 0 0 = (i : Int) from e] at c0
  rw [hm] at f0
  have H := Aside0.mk ho
  have HM := Aside0.mk hm
  have HE := Aside0.mk (And.intro e (And.intro il hL))
  clear ho hl e il hb pi hL hm h0
  have d0 : (0 : Int) < (m : Int) + 1 := by omega
  have d1 : ((m : Int) + 1 == 0) = false := beq_eq_false_iff_ne.2 (by omega)
  go_enter Try.func25, Try.ntmps25
  go_wp2_with (go_at_call 33; refine (take_calls H.out 0 i (by have := HM.out; omega) HE.out.1).mono ?_; rintro e w3 ⟨rfl, hp3⟩; obtain ⟨g2, c2, k1, k2, k3⟩ := hp3.1.keyCell i (by simpa using HE.out.2.1); have HP := Aside0.mk hp3; clear hp3)
  go_quiet (fail)
  go_wp2
  go_ret3
  exact ⟨i, HE.out.2.2, rfl, HP.out.drewN _⟩
end Go.Proofs.Ytpliaagfhjnnaaa.Heap

import Derived.Test.YtpliaagfhjnnaaaHeapD
namespace Go.Proofs.Ytpliaagfhjnnaaa.Heap
open Go.RowKit Go.Proofs.YtpliaagfhjnnaaaW.PrintWords Go.Proofs.Ytpliaagfhjnnaaa.Sep Go.Proofs.Ytpliaagfhjnnaaa.HeapP

def SetPost (w : World) (F : Nat → Prop) (p : Nat) (Has : List Bool) (ks : List Int) (w' : World) : Prop := HIs w' (Gr F w w') p Has ks ∧ Chg F w w'
/-- Behind up: what down wants. -/
structure Rdy (Has : List Bool) (w : World) (p : Nat) (vi vk vp : Value) (ks : List Int) (len i : Nat) (w' : World) (s : HS) (a : Nat) : Prop where
  hv : HeapV w' p vi vk vp s
  ch : Chg (Foot p vi vk vp) w w'
  co : Core Has s
  go : D s a
  al : a < s.it.length
  it : gi s.it a = (i : Int)
  pl : s.pl.getD i 0 = (a : Int)
  ke : s.ks = ks
  le : s.it.length = len
  il : i < Has.length
theorem up_then (Has : List Bool) (i a p : Nat) (vi vk vp : Value) (s : HS) (w : World) (h : HeapV w p vi vk vp s) (hc : Core Has s) (hg : G s a) (ha : a < s.it.length) (hi : gi s.it a = (i : Int)) (hm : Has.length ≤ 65536) :
    Calls Try.prog 31 #[.pointer (some ⟨p, 0, none⟩), .int .i64 (a : Int)] w fun e w' => e = .returned (.tuple #[]) ∧ ∃ s2 a2, Rdy Has w p vi vk vp s.ks s.it.length i w' s2 a2 := by
  refine (up_calls Has i a p vi vk vp s w h hc hg ha hi (by have := hc.le; omega)).mono ?_
  rintro e w2 ⟨rfl, s2, a2, hv2, hc2, co2, d2, l2, i2, k2, n2⟩
  obtain ⟨z, ez, zl, _, pz⟩ := co2.itm a2 (by omega)
  have : z = i := by omega
  subst this
  exact ⟨rfl, s2, a2, hv2, hc2, co2, d2, by omega, i2, pz, k2, n2, zl⟩
theorem down_then {Has : List Bool} {w : World} {p : Nat} {vi vk vp : Value} {ks : List Int} {len i : Nat} {w' : World} {s : HS} {a : Nat} (R : Rdy Has w p vi vk vp ks len i w' s a) (hm : Has.length ≤ 65536) :
    Calls Try.prog 32 #[.pointer (some ⟨p, 0, none⟩), .int .i64 (a : Int)] w' fun e w2 => e = .returned (.tuple #[]) ∧ ∃ s2, HeapV w2 p vi vk vp s2 ∧ Chg (Foot p vi vk vp) w w2 ∧ Core Has s2 ∧ HeapP.Heap s2 ∧ s2.ks = ks := by
  refine (down_calls Has i a p vi vk vp s w' R.hv R.co R.go R.al R.it (by have := R.co.le; omega)).mono ?_
  rintro e w2 ⟨rfl, s2, hv2, hc2, co2, h2, k2, n2⟩
  exact ⟨rfl, s2, hv2, R.ch.trans hc2 (fun _ _ h => h), co2, h2, k2.trans R.ke⟩
theorem Rdy.cells {Has : List Bool} {w : World} {p : Nat} {vi vk : Value} {g c n : Nat} {ks : List Int} {len i : Nat} {w' : World} {s : HS} {a : Nat} (R : Rdy Has w p vi vk (.slice (some ⟨g, 0, none⟩) n c) ks len i w' s a) :
    w'.cell? ⟨p, 2, none⟩ = some (.slice (some ⟨g, 0, none⟩) n c) ∧ w'.cell? ⟨g, i, none⟩ = some (.int .i64 (a : Int)) := by
  have h2 := R.hv.op.cell i (by rw [R.co.pn]; exact R.il)
  rw [R.pl] at h2
  exact ⟨blk_at R.hv.blk 2 _ rfl, h2⟩
theorem Foot.back {p n : Nat} {vi v1 vk vp : Value} (hat : v1.ownBlock = vi.ownBlock ∨ ∃ b, v1.ownBlock = some b ∧ n ≤ b) (k : Nat) (hk : k < n) (hf : Foot p v1 vk vp k) : Foot p vi vk vp k := by
  rcases hf with e | e | e | e
  · exact .inl e
  · rcases hat with q | ⟨b, q, hb⟩
    · exact .inr (.inl (q ▸ e))
    · rw [e] at q
      injection q with q
      omega
  · exact .inr (.inr (.inl e))
  · exact .inr (.inr (.inr e))
theorem HeapV.mid {W w1 : World} {p g n c : Nat} {vi vk : Value} {s : HS} (h : HeapV W p vi vk (.slice (some ⟨g, 0, none⟩) n c) s) (hg : W.grownBy w1 vi.ownBlock) (i : Nat) (hi : i < s.pl.length) (x : Int) (hx : s.pl.getD i 0 = x) :
    w1.cell? ⟨p, 0, none⟩ = some vi ∧ w1.frozen? ⟨p, 0, none⟩ = false ∧ w1.cell? ⟨p, 2, none⟩ = some (.slice (some ⟨g, 0, none⟩) n c) ∧ w1.cell? ⟨g, i, none⟩ = some (.int .i64 x) ∧ w1.frozen? ⟨g, i, none⟩ = false := by
  have b1 : w1.heap[p]? = some (.cells #[vi, vk, .slice (some ⟨g, 0, none⟩) n c] 68 (0, 0)) := (hg.block p (Array.getElem?_eq_some_iff.1 h.blk).1 (fun e => h.far p _ (.inl rfl) e.symm rfl)).trans h.blk
  have op : OwnI 3 w1 (.slice (some ⟨g, 0, none⟩) n c) s.pl := h.op.blocks (fun k hk => hg.block k (h.op.lt k hk) (fun e => Ap.of h.aip e.symm hk rfl))
  exact ⟨blk_at b1 0 _ rfl, blk_free b1 0, blk_at b1 2 _ rfl, by rw [← hx]; exact op.cell i hi, op.free i⟩
set_option maxHeartbeats 2000000 in
set_option maxRecDepth 100000 in
theorem set_yes {w : World} {F : Nat → Prop} {p : Nat} {Has : List Bool} {ks : List Int} (h : HIs w F p Has ks) (i : Nat) (key : Int) (hi : i < Has.length) : Calls Try.prog 23 #[.pointer (some ⟨p, 0, none⟩), .int .i64 (i : Int), .int .i64 key] w fun e w' => e = .returned (.int .i64 0) ∧ SetPost w F p (Has.set i true) (ks.set i key) w' := by
  obtain ⟨vi, vk, vp, s, ho, rfl⟩ := h
  have hpn := ho.co.pn
  have hkn := ho.co.kl
  obtain ⟨g3, c3, rfl, _⟩ := ho.hv.op.form (by omega)
  obtain ⟨g2, c2, rfl, _⟩ := ho.hv.ok_.form (by omega)
  have f2 := blk_at ho.hv.blk 2 _ rfl
  have f1 := blk_at ho.hv.blk 1 _ rfl
  have f0 := blk_at ho.hv.blk 0 _ rfl
  have z0 := blk_free ho.hv.blk 0
  have cp := ho.hv.op.cell i (by omega)
  have ck := ho.hv.ok_.cell i (by omega)
  have fk := ho.hv.ok_.free i
  have fp := ho.hv.op.free i
  have ne1 : g2 ≠ g3 := Ap.of ho.hv.akp rfl rfl
  have ne2 : g2 ≠ p := ho.hv.far _ _ (.inr (.inl rfl)) rfl
  have ne3 : g3 ≠ p := ho.hv.far _ _ (.inr (.inr rfl)) rfl
  have hi1 : (i : Int) < (s.pl.length : Int) := by omega
  have hi2 : (i : Int) < (s.ks.length : Int) := by omega
  have S1 := Aside0.mk (ho.hv.key i key)
  have HN := Aside0.mk (And.intro hi (And.intro hpn hkn))
  have HO := Aside0.mk ho
  have e3 := ne1.symm
  have e4 := ne2.symm
  have e5 := ne3.symm
  cases hb : gb Has i with
  | true =>
    obtain ⟨a, ha, ea, ia⟩ := ho.co.on i hi hb
    rw [show s.pl.getD i 0 = (a : Int) from ea] at cp
    have HA := Aside0.mk (And.intro ha (And.intro ea ia))
    have HB := Aside0.mk hb
    have a0 : (0 : Int) ≤ (a : Int) := by omega
    clear hb ha ea ia ho hpn hkn hi
    go_enter Try.func23, Try.ntmps23
    go_wp2_with (first | (go_at_call 30; refine (has_yes HO.out.hv i (by rw [HN.out.2.1]; exact HN.out.1)).mono ?_; rintro e w2 ⟨rfl, rfl⟩) | (go_at_call 31; refine (up_then Has i a p _ _ _ _ _ S1.out.1 (HO.out.co.keys i key) (HO.out.he.reset HO.out.co HA.out.1 i HA.out.2.2 key) HA.out.1 HA.out.2.2 HO.out.nn).mono ?_; rintro e w2 ⟨rfl, s2, a2, R2⟩; obtain ⟨q2, r2⟩ := R2.cells; have RA := Aside0.mk R2; clear R2) | (go_at_call 32; refine (down_then RA.out HO.out.nn).mono ?_; rintro e w3 ⟨rfl, s3, hv3, hc3, co3, h3, k3⟩))
    go_ret
    refine ⟨rfl, ?_⟩
    have hh : Has.set i true = Has := by
      apply List.ext_getElem
      · simp
      · intro n h1 h2
        rw [List.getElem_set]
        split
        · rename_i e
          subst e
          have := HB.out
          simpa [gb, List.getD_eq_getElem?_getD, List.getElem?_eq_getElem h2] using this.symm
        · rfl
    rw [hh]
    exact HIs.new HO.out hv3 (S1.out.2.trans hc3 (fun _ _ h => h)) (.inl rfl) co3 h3 k3 rfl
  | false =>
    have PM := Aside0.mk (show s.pl.getD i 0 = -1 from ho.co.off i hi hb)
    rw [PM.out] at cp
    have HB := Aside0.mk hb
    have KP := Aside0.mk (And.intro (ho.co.push i key hi hb) (ho.he.push ho.co i key hb))
    have hlen := ho.co.le
    have hnn := ho.nn
    have HL := Aside0.mk (And.intro hlen hnn)
    obtain ⟨A, c1, rfl⟩ := ho.hv.oi.slice
    clear hb ho hpn hkn hi hlen hnn
    go_enter Try.func23, Try.ntmps23
    go_wp2_with (first | (go_at_call 30; refine (has_yes HO.out.hv i (by rw [HN.out.2.1]; exact HN.out.1)).mono ?_; rintro e w2 ⟨rfl, rfl⟩) | (at_builtin; refine print_append_num 0 rfl (.tmp 34) (.tmp 36) 29 3 .i64 8 rfl Try.underlying29 infoInt (by omega) (.slice A s.it.length c1) s.it (i : Int) rfl (by simp [Act.eval]) S1.out.1.oi (Below.refl _ _) (Nat.zero_le _) (by have := HL.out; omega) ?_; intro v1 w1 hown hB hg hat; obtain ⟨g4, c4, rfl, _⟩ := OwnI.form (e := 3) hown (by simp); obtain ⟨m0, m1, m2, m3, m4⟩ := S1.out.1.mid hg i (by have := HN.out; show i < s.pl.length; omega) (-1) PM.out; have AP := Aside0.mk (S1.out.1.items _ hown hg hat); have AT := Aside0.mk hat; clear hown hB hg hat))
    have n34 : g3 ≠ g4 := (Ap.of AP.out.1.aip rfl rfl).symm
    have n43 := n34.symm
    have hl8 : (s.it.length : Int) < 70000 := by have := HL.out; omega
    go_region
    have P2 := AP.out.1.place i (s.it.length : Int)
    have hv3 := P2.1.drew
    have hc3 := (S1.out.2.trans (AP.out.2.trans P2.2 (Foot.back AT.out)) (fun _ _ h => h)).drew
    have KP2 := KP.out
    have hsz : (w2.setCell ⟨g2, i, none⟩ (.int .i64 key)).heap.size = w2.heap.size := by simp
    have AT2 := Aside0.mk (hsz ▸ AT.out)
    have el : (s.it ++ [(i : Int)]).length = s.it.length + 1 := by simp
    rw [el] at hv3 hc3 AT2
    clear P2 AP AT KP
    generalize hW3 : (World.setCell (World.setCell w1 _ _) _ _).drew = W3 at hv3 hc3 ⊢
    have f3 := blk_at hv3.blk 2 _ rfl
    have c3 := hv3.op.cell i (by have := HN.out; simp; omega)
    rw [show ({ it := s.it ++ [(i : Int)], ks := s.ks.set i key, pl := s.pl.set i (s.it.length : Int) } : HS).pl.getD i 0 = (s.it.length : Int) from gi_set_same _ _ _ (by have := HN.out; omega)] at c3
    have V3 := Aside0.mk (And.intro hv3 (And.intro hc3 (And.intro KP2 hsz)))
    have hi4 : (i : Int) < (s.pl.length : Int) := hi1
    clear hv3 hc3 KP2 hsz hW3 el m0 m1 m2 m3 m4 cp ck fk fp f2 f1 f0 z0
    go_wp2_with (first | (go_at_call 31; refine (up_then (Has.set i true) i s.it.length p _ _ _ _ _ V3.out.1 V3.out.2.2.1.1 V3.out.2.2.1.2 (by simp) (gi_snoc_last _ _) (by simpa using HO.out.nn)).mono ?_; rintro e w5 ⟨rfl, s2, a2, R2⟩; obtain ⟨q2, r2⟩ := R2.cells; have RA := Aside0.mk R2; clear R2) | (go_at_call 32; refine (down_then RA.out (by simpa using HO.out.nn)).mono ?_; rintro e w6 ⟨rfl, s3, hv4, hc4, co4, h4, k4⟩))
    go_ret
    refine ⟨rfl, HIs.new HO.out hv4 (V3.out.2.1.trans hc4 (fun k hk hf => Foot.back AT2.out k hk hf)) (.inr (fun k hk => ?_)) co4 h4 k4 (by simp)⟩
    rcases AT2.out with q | ⟨b, q, hb⟩
    · exact .inl (q ▸ hk)
    · rw [hk] at q
      injection q with q
      exact .inr (by omega)
end Go.Proofs.Ytpliaagfhjnnaaa.Heap

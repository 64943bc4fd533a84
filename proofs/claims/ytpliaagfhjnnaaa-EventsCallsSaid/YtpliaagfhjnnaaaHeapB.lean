import Derived.Test.YtpliaagfhjnnaaaHeapA
namespace Go.Proofs.Ytpliaagfhjnnaaa.Heap
open Go.RowKit Go.Proofs.YtpliaagfhjnnaaaW.PrintWords Go.Proofs.Ytpliaagfhjnnaaa.Sep Go.Proofs.Ytpliaagfhjnnaaa.HeapP

theorem before_h {p : Nat} {vi vk vp : Value} {s : HS} {w : World} (h : HeapV w p vi vk vp s) (i k : Nat) (hi : i < s.ks.length) (hk : k < s.ks.length) :
    Calls Try.prog 34 #[.pointer (some ⟨p, 0, none⟩), .int .i64 (i : Int), .int .i64 (k : Int)] w fun e w' => e = .returned (.bool (ltB s.ks i k)) ∧ ∃ n, w' = w.drewN n := by
  have h2 := h
  obtain ⟨g2, c2, rfl, _⟩ := h.ok_.form (by omega)
  exact before_calls i k p g2 c2 vi vp s.ks w h2.blk h2.ok_ hi hk
/-- What up has to do with, in a round. -/
structure UpR (Has : List Bool) (w : World) (p : Nat) (vi vk vp : Value) (ks : List Int) (len i : Nat) (wr : World) (s : HS) (a : Nat) : Prop where
  hv : HeapV wr p vi vk vp s
  ch : Chg (Foot p vi vk vp) w wr
  le : s.it.length = len
  ke : s.ks = ks
  al : a < len
  co : Core Has (put s i a)
  go : G (put s i a) a
def UpPost (Has : List Bool) (w : World) (p : Nat) (vi vk vp : Value) (ks : List Int) (len i : Nat) (w' : World) : Prop :=
  ∃ (s : HS) (a : Nat), HeapV w' p vi vk vp s ∧ Chg (Foot p vi vk vp) w w' ∧ Core Has s ∧ D s a ∧ a < len ∧ gi s.it a = (i : Int) ∧ s.ks = ks ∧ s.it.length = len
theorem UpR.item {Has : List Bool} {w : World} {p : Nat} {vi vk vp : Value} {ks : List Int} {len i : Nat} {wr : World} {s : HS} {a : Nat} (h : UpR Has w p vi vk vp ks len i wr s a) {b : Nat} (hb : b < len) (hn : b ≠ a) : ∃ q : Nat, gi s.it b = (q : Int) ∧ q < Has.length ∧ q ≠ i := by
  have hal := h.al
  have hle := h.le
  obtain ⟨q, e, l, _, pl⟩ := h.co.itm b (by simp [put]; omega)
  have e2 : gi (put s i a).it a = (i : Int) := by simp only [put]; exact gi_set_same _ _ _ (by omega)
  obtain ⟨q2, e3, _, _, pl2⟩ := h.co.itm a (by simp [put]; omega)
  refine ⟨q, ?_, l, ?_⟩
  · rw [← e]; simp only [put]; rw [gi_set_ne _ _ hn]
  · intro c
    subst c
    have : q2 = q := by omega
    subst this
    omega
theorem UpR.step {Has : List Bool} {w : World} {p : Nat} {vi vk vp : Value} {ks : List Int} {len i : Nat} {wr : World} {s : HS} {a q : Nat} (h : UpR Has w p vi vk vp ks len i wr s a) (h0 : 0 < a) (hq : gi s.it ((a - 1) / 2) = (q : Int)) (hne : q ≠ i) (hl : ltB ks i q = true) {w2 : World} (hv : HeapV w2 p vi vk vp (put s q a)) (hc : Chg (Foot p vi vk vp) wr w2) : UpR Has w p vi vk vp ks len i w2 (put s q a) ((a - 1) / 2) := by
  have hal := h.al
  have hle := h.le
  have e1 : gi (put s i a).it a = (i : Int) := by simp only [put]; exact gi_set_same _ _ _ (by omega)
  have e2 : gi (put s i a).it ((a - 1) / 2) = (q : Int) := by simp only [put]; rw [gi_set_ne _ _ (by omega)]; exact hq
  have hpp : put (put s q a) i ((a - 1) / 2) = sw (put s i a) a ((a - 1) / 2) := put_put (by omega) (by omega) hq (Ne.symm hne)
  have hlt : lt (put s i a).ks (gi (put s i a).it a) (gi (put s i a).it ((a - 1) / 2)) := by
    rw [e1, e2]
    have := (ltB_iff ks i q).1 hl
    rw [← h.ke] at this
    exact this
  refine ⟨hv, h.ch.trans hc (fun _ _ hf => hf), by simpa [put] using h.le, h.ke, by omega, ?_, ?_⟩
  · rw [hpp]; exact h.co.sw (by simp [put]; omega) (by simp [put]; omega) (by omega)
  · rw [hpp]; exact h.go.up h0 (by simp [put]; omega) hlt
theorem UpR.stop {Has : List Bool} {w : World} {p : Nat} {vi vk vp : Value} {ks : List Int} {len i : Nat} {wr : World} {s : HS} {a : Nat} (h : UpR Has w p vi vk vp ks len i wr s a) (hs : 0 < a → ∀ q : Nat, gi s.it ((a - 1) / 2) = (q : Int) → ltB ks i q = false) {w2 : World} (hv : HeapV w2 p vi vk vp (put s i a)) (hc : Chg (Foot p vi vk vp) wr w2) : UpPost Has w p vi vk vp ks len i w2 := by
  have hal := h.al
  have hle := h.le
  have e1 : gi (put s i a).it a = (i : Int) := by simp only [put]; exact gi_set_same _ _ _ (by omega)
  refine ⟨put s i a, a, hv, h.ch.trans hc (fun _ _ hf => hf), h.co, ⟨h.go, fun h0 => ?_⟩, hal, e1, h.ke, by simpa [put] using h.le⟩
  obtain ⟨q, hq, _, _⟩ := h.item (b := (a - 1) / 2) (by omega) (by omega)
  have e2 : gi (put s i a).it ((a - 1) / 2) = (q : Int) := by simp only [put]; rw [gi_set_ne _ _ (by omega)]; exact hq
  unfold ok
  rw [e1, e2]
  intro hh
  have hf := hs h0 q hq
  have := (ltB_iff ks i q).2 (by rw [← h.ke]; exact hh)
  rw [hf] at this
  cases this
set_option maxHeartbeats 2000000 in
theorem up_calls (Has : List Bool) (i a p : Nat) (vi vk vp : Value) (s : HS) (w : World) (h : HeapV w p vi vk vp s) (hc : Core Has s) (hg : G s a) (ha : a < s.it.length) (hi : gi s.it a = (i : Int)) (hm : s.it.length ≤ 70000) :
    Calls Try.prog 31 #[.pointer (some ⟨p, 0, none⟩), .int .i64 (a : Int)] w fun e w' => e = .returned (.tuple #[]) ∧ UpPost Has w p vi vk vp s.ks s.it.length i w' := by
  have hps : put s i a = s := by rw [← hi]; exact put_self hc ha
  have R0 : UpR Has w p vi vk vp s.ks s.it.length i w s a := ⟨h, Chg.refl _ _, rfl, rfl, ha, by rw [hps]; exact hc, by rw [hps]; exact hg⟩
  obtain ⟨g1, c1, rfl, _⟩ := h.oi.form (by omega)
  have f0 := blk_at h.blk 0 _ rfl
  have ca := h.oi.cell a ha
  rw [show s.it.getD a 0 = (i : Int) from hi] at ca
  have ha' : (a : Int) < (s.it.length : Int) := by omega
  have hil : i < Has.length := by obtain ⟨q, e, l, _⟩ := hc.itm a ha; omega
  have hkl : s.ks.length = Has.length := hc.kl
  have hpn : s.pl.length = Has.length := hc.pn
  have RR := Aside0.mk R0
  have HM := Aside0.mk (And.intro hil (And.intro hkl (And.intro hpn hm)))
  clear h hc hg hi hps R0 hil hkl hpn hm
  go_enter Try.func31, Try.ntmps31
  go_wp2
  clear f0 ca ha'
  go_loopg [1] a (fun g v wr => ∃ (b : Nat) (s' : HS), v = .int .i64 (b : Int) ∧ b ≤ g ∧ Aside0 (UpR Has w p (.slice (some ⟨g1, 0, none⟩) s.it.length c1) vk vp s.ks s.it.length i wr s' b))
  case atStart => exact ⟨a, s, rfl, Nat.le_refl _, RR⟩
  case round =>
    obtain ⟨b, s', rfl, hbg, R⟩ := hrel
    have hb := R.out.al
    have f0 := blk_at R.out.hv.blk 0 _ rfl
    rcases b with _ | m
    · go_wp2_with (go_at_call 35; refine (put_calls i 0 p _ vk vp s' _ R.out.hv (by rw [R.out.le]; exact hb) (by have := R.out.co.pn; have := HM.out; simp [put] at *; omega)).mono ?_; rintro e w2 ⟨rfl, hv, hc⟩)
      go_end0
      exact ⟨rfl, R.out.stop (fun h => absurd h (by omega)) hv hc⟩
    · obtain ⟨q, hq, hql, hqi⟩ := R.out.item (b := m / 2) (by omega) (by omega)
      have cm := R.out.hv.oi.cell (m / 2) (by rw [R.out.le]; omega)
      rw [show s'.it.getD (m / 2) 0 = (q : Int) from hq] at cm
      have Q := Aside0.mk (And.intro hq (And.intro hql hqi))
      clear hq hql hqi
      have h0 : 0 < (m : Int) + 1 := by omega
      have hm2 : (m : Int) < 70000 := by have := HM.out; omega
      obtain ⟨d, hd⟩ : ∃ d, m / 2 = d := ⟨_, rfl⟩
      have e1 : (m : Int) / 2 = (d : Int) := by omega
      have hlt : (d : Int) < (s.it.length : Int) := by omega
      rw [hd] at cm Q
      have HD := Aside0.mk hd
      clear hd
      by_cases hl : ltB s'.ks i q = true
      · go_wp2_with (first | (go_at_call 34; refine (before_h R.out.hv i q (by have := HM.out; have := R.out.ke; simp [*]) (by have := HM.out; have := R.out.ke; have := Q.out; simp [*])).mono ?_; rintro e w2 ⟨rfl, n, rfl⟩) | (go_at_call 35; refine (put_calls q (m + 1) p _ vk vp s' _ (R.out.hv.drewN _) (by rw [R.out.le]; exact hb) (by have := R.out.co.pn; have := Q.out; simp [put] at *; omega)).mono ?_; rintro e w2 ⟨rfl, hv, hc⟩))
        go_roundg d
        case measure => have := HD.out; omega
        case rel =>
          have hd := HD.out
          subst hd
          exact ⟨m / 2, put s' q (m + 1), rfl, Nat.le_refl _, ⟨R.out.step (by omega) Q.out.1 Q.out.2.2 (by rw [← R.out.ke]; exact hl) hv hc.undrewN⟩⟩
      · have hl2 : ltB s'.ks i q = false := by simpa using hl
        go_wp2_with (first | (go_at_call 34; refine (before_h R.out.hv i q (by have := HM.out; have := R.out.ke; simp [*]) (by have := HM.out; have := R.out.ke; have := Q.out; simp [*])).mono ?_; rintro e w2 ⟨rfl, n, rfl⟩) | (go_at_call 35; refine (put_calls i (m + 1) p _ vk vp s' _ (R.out.hv.drewN _) (by rw [R.out.le]; exact hb) (by have := R.out.co.pn; have := HM.out; simp [put] at *; omega)).mono ?_; rintro e w2 ⟨rfl, hv, hc⟩))
        go_end0
        have hd := HD.out
        subst hd
        refine ⟨rfl, R.out.stop (fun _ q' hq' => ?_) hv hc.undrewN⟩
        have : q' = q := by have := Q.out.1; simp only [Nat.add_sub_cancel] at hq'; omega
        rw [this, ← R.out.ke]
        exact hl2
end Go.Proofs.Ytpliaagfhjnnaaa.Heap

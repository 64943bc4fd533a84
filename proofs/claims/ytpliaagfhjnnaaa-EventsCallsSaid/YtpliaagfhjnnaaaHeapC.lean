import Derived.Test.YtpliaagfhjnnaaaHeapB
namespace Go.Proofs.Ytpliaagfhjnnaaa.Heap
open Go.RowKit Go.Proofs.YtpliaagfhjnnaaaW.PrintWords Go.Proofs.Ytpliaagfhjnnaaa.Sep Go.Proofs.Ytpliaagfhjnnaaa.HeapP

/-- What down has to do with, in a round. -/
structure DnR (Has : List Bool) (w : World) (p : Nat) (vi vk vp : Value) (ks : List Int) (len i : Nat) (wr : World) (s : HS) (a : Nat) : Prop where
  hv : HeapV wr p vi vk vp s
  ch : Chg (Foot p vi vk vp) w wr
  le : s.it.length = len
  ke : s.ks = ks
  al : a < len
  co : Core Has (put s i a)
  go : D (put s i a) a
def DnPost (Has : List Bool) (w : World) (p : Nat) (vi vk vp : Value) (ks : List Int) (len : Nat) (w' : World) : Prop :=
  ∃ s : HS, HeapV w' p vi vk vp s ∧ Chg (Foot p vi vk vp) w w' ∧ Core Has s ∧ HeapP.Heap s ∧ s.ks = ks ∧ s.it.length = len
theorem DnR.kl {Has : List Bool} {w : World} {p : Nat} {vi vk vp : Value} {ks : List Int} {len i : Nat} {wr : World} {s : HS} {a : Nat} (h : DnR Has w p vi vk vp ks len i wr s a) : s.ks.length = Has.length := h.co.kl
theorem DnR.pn {Has : List Bool} {w : World} {p : Nat} {vi vk vp : Value} {ks : List Int} {len i : Nat} {wr : World} {s : HS} {a : Nat} (h : DnR Has w p vi vk vp ks len i wr s a) : s.pl.length = Has.length := by simpa [put] using h.co.pn
theorem DnR.item {Has : List Bool} {w : World} {p : Nat} {vi vk vp : Value} {ks : List Int} {len i : Nat} {wr : World} {s : HS} {a : Nat} (h : DnR Has w p vi vk vp ks len i wr s a) {b : Nat} (hb : b < len) (hn : b ≠ a) : ∃ q : Nat, gi s.it b = (q : Int) ∧ q < Has.length ∧ q ≠ i := by
  have hal := h.al
  have hle := h.le
  obtain ⟨q, e, l, _, pl⟩ := h.co.itm b (by simp [put]; omega)
  have e2 : gi (put s i a).it a = (i : Int) := by simp only [put]; exact gi_set_same _ _ _ (by omega)
  obtain ⟨q2, e3, _, _, pl2⟩ := h.co.itm a (by simp [put]; omega)
  refine ⟨q, ?_, l, ?_⟩
  · rw [← e]; simp only [put]; rw [gi_set_ne _ _ hn]
  · intro c
    subst c
    have : q2 = q := by omega
    subst this
    omega
theorem DnR.step {Has : List Bool} {w : World} {p : Nat} {vi vk vp : Value} {ks : List Int} {len i : Nat} {wr : World} {s : HS} {a k q : Nat} (h : DnR Has w p vi vk vp ks len i wr s a) (hk : k < len) (hp : (k - 1) / 2 = a) (k0 : 0 < k) (hq : gi s.it k = (q : Int)) (hne : q ≠ i)
    (hs : ∀ c, 0 < c → c < len → (c - 1) / 2 = a → ∀ q' : Nat, gi s.it c = (q' : Int) → ltB ks q' q = false) (hl : ltB ks q i = true) {w2 : World} (hv : HeapV w2 p vi vk vp (put s q a)) (hc : Chg (Foot p vi vk vp) wr w2) : DnR Has w p vi vk vp ks len i w2 (put s q a) k := by
  have hal := h.al
  have hle := h.le
  have hka : k ≠ a := by omega
  have e1 : gi (put s i a).it a = (i : Int) := by simp only [put]; exact gi_set_same _ _ _ (by omega)
  have e2 : ∀ c, c ≠ a → gi (put s i a).it c = gi s.it c := fun c hc => by simp only [put]; rw [gi_set_ne _ _ hc]
  have hpp : put (put s q a) i k = sw (put s i a) a k := put_put (by omega) (Ne.symm hka) hq (Ne.symm hne)
  have hks : (put s i a).ks = ks := h.ke
  refine ⟨hv, h.ch.trans hc (fun _ _ hf => hf), by simpa [put] using h.le, h.ke, hk, ?_, ?_⟩
  · rw [hpp]; exact h.co.sw (by simp [put]; omega) (by simp [put]; omega) (Ne.symm hka)
  · rw [hpp]
    refine h.go.down k0 (by simp [put]; omega) hp (fun c c0 cl cp => ?_) ?_
    · have cl' : c < len := by simpa [put, h.le] using cl
      obtain ⟨q', hq', _, _⟩ := h.item cl' (by omega)
      rw [e2 c (by omega), e2 k hka, hq', hq, hks]
      intro hh
      have := (ltB_iff ks q' q).2 hh
      rw [hs c c0 cl' cp q' hq'] at this
      cases this
    · rw [e1, e2 k hka, hq, hks]
      exact (ltB_iff ks q i).1 hl
theorem DnR.stop {Has : List Bool} {w : World} {p : Nat} {vi vk vp : Value} {ks : List Int} {len i : Nat} {wr : World} {s : HS} {a : Nat} (h : DnR Has w p vi vk vp ks len i wr s a) (hs : ∀ c, 0 < c → c < len → (c - 1) / 2 = a → ∀ q' : Nat, gi s.it c = (q' : Int) → ltB ks q' i = false) {w2 : World} (hv : HeapV w2 p vi vk vp (put s i a)) (hc : Chg (Foot p vi vk vp) wr w2) : DnPost Has w p vi vk vp ks len w2 := by
  have hal := h.al
  have hle := h.le
  have e1 : gi (put s i a).it a = (i : Int) := by simp only [put]; exact gi_set_same _ _ _ (by omega)
  have e2 : ∀ c, c ≠ a → gi (put s i a).it c = gi s.it c := fun c hc => by simp only [put]; rw [gi_set_ne _ _ hc]
  have hks : (put s i a).ks = ks := h.ke
  refine ⟨put s i a, hv, h.ch.trans hc (fun _ _ hf => hf), h.co, h.go.heap (fun c c0 cl cp => ?_), h.ke, by simpa [put] using h.le⟩
  have cl' : c < len := by simpa [put, h.le] using cl
  obtain ⟨q', hq', _, _⟩ := h.item cl' (by omega)
  rw [e2 c (by omega), e1, hq', hks]
  intro hh
  have := (ltB_iff ks q' i).2 hh
  rw [hs c c0 cl' cp q' hq'] at this
  cases this
theorem ltB_self (ks : List Int) (q : Nat) : ltB ks q q = false := by unfold ltB; simp
theorem ltB_asymm {ks : List Int} {q r : Nat} (h : ltB ks q r = true) : ltB ks r q = false := by
  cases h2 : ltB ks r q with
  | false => rfl
  | true => exact absurd ((ltB_iff ks r q).1 h2) (lt_asymm ((ltB_iff ks q r).1 h))
theorem ltB_ge {ks : List Int} {q r i : Nat} (h : ltB ks q r = false) (k : ltB ks r i = false) : ltB ks q i = false := by
  cases h2 : ltB ks q i with
  | false => rfl
  | true =>
    refine absurd ((ltB_iff ks q i).1 h2) (ge_trans (y := (r : Int)) ?_ ?_)
    · intro hh; rw [(ltB_iff ks q r).2 hh] at h; cases h
    · intro hh; rw [(ltB_iff ks r i).2 hh] at k; cases k
set_option maxHeartbeats 8000000 in
set_option maxRecDepth 100000 in
theorem down_calls (Has : List Bool) (i a p : Nat) (vi vk vp : Value) (s : HS) (w : World) (h : HeapV w p vi vk vp s) (hc : Core Has s) (hg : D s a) (ha : a < s.it.length) (hi : gi s.it a = (i : Int)) (hm : s.it.length ≤ 70000) :
    Calls Try.prog 32 #[.pointer (some ⟨p, 0, none⟩), .int .i64 (a : Int)] w fun e w' => e = .returned (.tuple #[]) ∧ DnPost Has w p vi vk vp s.ks s.it.length w' := by
  have hps : put s i a = s := by rw [← hi]; exact put_self hc ha
  have R0 : DnR Has w p vi vk vp s.ks s.it.length i w s a := ⟨h, Chg.refl _ _, rfl, rfl, ha, by rw [hps]; exact hc, by rw [hps]; exact hg⟩
  obtain ⟨g1, c1, rfl, _⟩ := h.oi.form (by omega)
  have f0 := blk_at h.blk 0 _ rfl
  have ca := h.oi.cell a ha
  rw [show s.it.getD a 0 = (i : Int) from hi] at ca
  have ha' : (a : Int) < (s.it.length : Int) := by omega
  have hil : i < Has.length := by obtain ⟨q, e, l, _⟩ := hc.itm a ha; omega
  have hkl : s.ks.length = Has.length := hc.kl
  have hpn : s.pl.length = Has.length := hc.pn
  have RR := Aside0.mk R0
  have HM := Aside0.mk (And.intro hil (And.intro hkl (And.intro hpn hm)))
  clear h hc hg hi hps R0 hil hkl hpn hm
  go_enter Try.func32, Try.ntmps32
  go_wp2
  clear f0 ca ha'
  go_loopg [1] (s.it.length - a) (fun g v wr => ∃ (b : Nat) (s' : HS), v = .int .i64 (b : Int) ∧ s.it.length - b ≤ g ∧ Aside0 (DnR Has w p (.slice (some ⟨g1, 0, none⟩) s.it.length c1) vk vp s.ks s.it.length i wr s' b))
  case atStart => exact ⟨a, s, rfl, Nat.le_refl _, RR⟩
  case round =>
    obtain ⟨b, s', rfl, hbg, R⟩ := hrel
    have hb := R.out.al
    have f0 := blk_at R.out.hv.blk 0 _ rfl
    have hb2 : (b : Int) < 70000 := by have := HM.out; omega
    obtain ⟨l, hl⟩ : ∃ l, 2 * b + 1 = l := ⟨_, rfl⟩
    have e1 : 2 * (b : Int) + 1 = (l : Int) := by omega
    have l2 : (l : Int) < 200000 := by omega
    have l0 : 0 ≤ (l : Int) + 1 := by omega
    have HL := Aside0.mk hl
    have ew : IntKind.i64.wrap ((l : Int) + 1) = (l : Int) + 1 := IntWalk.i64_in _ (by omega)
    have ew2 : wrap64 ((l : Int) + 1) = (l : Int) + 1 := by unfold wrap64; omega
    clear l2
    have G2 := Aside0.mk hbg
    clear hl hbg
    by_cases c1 : l < s.it.length
    · obtain ⟨q, hq, hql, hqi⟩ := R.out.item (b := l) c1 (by have := HL.out; omega)
      have cm := R.out.hv.oi.cell l (by rw [R.out.le]; omega)
      rw [show s'.it.getD l 0 = (q : Int) from hq] at cm
      have Q := Aside0.mk (And.intro hq (And.intro hql hqi))
      clear hq hql hqi
      have d1 : (l : Int) < (s.it.length : Int) := by omega
      by_cases c2 : l + 1 < s.it.length
      · obtain ⟨r, hr, hrl, hri⟩ := R.out.item (b := l + 1) c2 (by have := HL.out; omega)
        have cn := R.out.hv.oi.cell (l + 1) (by rw [R.out.le]; omega)
        rw [show s'.it.getD (l + 1) 0 = (r : Int) from hr] at cn
        have RQ := Aside0.mk (And.intro hr (And.intro hrl hri))
        clear hr hrl hri
        have d2 : (l : Int) + 1 < (s.it.length : Int) := by omega
        by_cases t1 : ltB s'.ks r q = true
        · skip
          go_wp2
          go_quiet ((go_at_call 34; exact Calls.quiet_of (before_h (R.out.hv.drewN _) r q (by rw [R.out.kl]; exact RQ.out.2.1) (by rw [R.out.kl]; exact Q.out.2.1))))
          clear ew e1 hb2
          by_cases t2 : ltB s'.ks r i = true
          · go_wp2_with (first | (go_at_call 34; refine (before_h (R.out.hv.drewN _) r i (by rw [R.out.kl]; exact RQ.out.2.1) (by rw [R.out.kl]; exact HM.out.1)).mono ?_; rintro e w2 ⟨rfl, n, rfl⟩) | (go_at_call 35; refine (put_calls r b p _ vk vp s' _ (R.out.hv.drewN _) (by rw [R.out.le]; exact hb) (by rw [R.out.pn]; exact RQ.out.2.1)).mono ?_; rintro e w2 ⟨rfl, hv, hc⟩))
            go_roundg (s.it.length - (l + 1))
            case measure => have := HL.out; have := G2.out; omega
            case rel =>
              refine ⟨l + 1, put s' r b, by go_num, Nat.le_refl _, ⟨R.out.step (k := (l + 1)) (q := r) (by omega) (by have := HL.out; omega) (by have := HL.out; omega) RQ.out.1 RQ.out.2.2 (fun c c0 cl cp q' hq' => ?_) (by rw [← R.out.ke]; exact t2) hv hc.undrewN⟩⟩
              rw [← R.out.ke]
              have hcl : c = l ∨ c = l + 1 := by have := HL.out; omega
              rcases hcl with rfl | rfl
              · have : q' = q := by have := Q.out.1; omega
                rw [this]
                exact ltB_asymm t1
              · have : q' = r := by have := RQ.out.1; omega
                rw [this]
                exact ltB_self _ _
          · have t3 : ltB s'.ks r i = false := by simpa using t2
            go_wp2_with (first | (go_at_call 34; refine (before_h (R.out.hv.drewN _) r i (by rw [R.out.kl]; exact RQ.out.2.1) (by rw [R.out.kl]; exact HM.out.1)).mono ?_; rintro e w2 ⟨rfl, n, rfl⟩) | (go_at_call 35; refine (put_calls i b p _ vk vp s' _ (R.out.hv.drewN _) (by rw [R.out.le]; exact hb) (by rw [R.out.pn]; exact HM.out.1)).mono ?_; rintro e w2 ⟨rfl, hv, hc⟩))
            go_end0
            refine ⟨rfl, R.out.stop (fun c c0 cl cp q' hq' => ?_) hv hc.undrewN⟩
            rw [← R.out.ke]
            have hcl : c = l ∨ c = l + 1 := by have := HL.out; omega
            rcases hcl with rfl | rfl
            · have : q' = q := by have := Q.out.1; omega
              rw [this]
              exact ltB_ge (ltB_asymm t1) t3
            · have : q' = r := by have := RQ.out.1; omega
              rw [this]
              exact t3
        · skip
          have t1' : ltB s'.ks r q = false := by simpa using t1
          go_wp2
          go_quiet ((go_at_call 34; exact Calls.quiet_of (before_h (R.out.hv.drewN _) r q (by rw [R.out.kl]; exact RQ.out.2.1) (by rw [R.out.kl]; exact Q.out.2.1))))
          clear ew e1 hb2
          by_cases t2 : ltB s'.ks q i = true
          · go_wp2_with (first | (go_at_call 34; refine (before_h (R.out.hv.drewN _) q i (by rw [R.out.kl]; exact Q.out.2.1) (by rw [R.out.kl]; exact HM.out.1)).mono ?_; rintro e w2 ⟨rfl, n, rfl⟩) | (go_at_call 35; refine (put_calls q b p _ vk vp s' _ (R.out.hv.drewN _) (by rw [R.out.le]; exact hb) (by rw [R.out.pn]; exact Q.out.2.1)).mono ?_; rintro e w2 ⟨rfl, hv, hc⟩))
            go_roundg (s.it.length - l)
            case measure => have := HL.out; have := G2.out; omega
            case rel =>
              refine ⟨l, put s' q b, by go_num, Nat.le_refl _, ⟨R.out.step (k := l) (q := q) (by omega) (by have := HL.out; omega) (by have := HL.out; omega) Q.out.1 Q.out.2.2 (fun c c0 cl cp q' hq' => ?_) (by rw [← R.out.ke]; exact t2) hv hc.undrewN⟩⟩
              rw [← R.out.ke]
              have hcl : c = l ∨ c = l + 1 := by have := HL.out; omega
              rcases hcl with rfl | rfl
              · have : q' = q := by have := Q.out.1; omega
                rw [this]
                exact ltB_self _ _
              · have : q' = r := by have := RQ.out.1; omega
                rw [this]
                exact t1'
          · have t3 : ltB s'.ks q i = false := by simpa using t2
            go_wp2_with (first | (go_at_call 34; refine (before_h (R.out.hv.drewN _) q i (by rw [R.out.kl]; exact Q.out.2.1) (by rw [R.out.kl]; exact HM.out.1)).mono ?_; rintro e w2 ⟨rfl, n, rfl⟩) | (go_at_call 35; refine (put_calls i b p _ vk vp s' _ (R.out.hv.drewN _) (by rw [R.out.le]; exact hb) (by rw [R.out.pn]; exact HM.out.1)).mono ?_; rintro e w2 ⟨rfl, hv, hc⟩))
            go_end0
            refine ⟨rfl, R.out.stop (fun c c0 cl cp q' hq' => ?_) hv hc.undrewN⟩
            rw [← R.out.ke]
            have hcl : c = l ∨ c = l + 1 := by have := HL.out; omega
            rcases hcl with rfl | rfl
            · have : q' = q := by have := Q.out.1; omega
              rw [this]
              exact t3
            · have : q' = r := by have := RQ.out.1; omega
              rw [this]
              exact ltB_ge t1' t3
      · skip
        have d2 : decide ((l : Int) + 1 < (s.it.length : Int)) = false := decide_eq_false (by omega)
        go_wp2
        go_quiet (fail)
        clear ew e1 hb2
        by_cases t2 : ltB s'.ks q i = true
        · go_wp2_with (first | (go_at_call 34; refine (before_h (R.out.hv.drewN _) q i (by rw [R.out.kl]; exact Q.out.2.1) (by rw [R.out.kl]; exact HM.out.1)).mono ?_; rintro e w2 ⟨rfl, n, rfl⟩) | (go_at_call 35; refine (put_calls q b p _ vk vp s' _ (R.out.hv.drewN _) (by rw [R.out.le]; exact hb) (by rw [R.out.pn]; exact Q.out.2.1)).mono ?_; rintro e w2 ⟨rfl, hv, hc⟩))
          go_roundg (s.it.length - l)
          case measure => have := HL.out; have := G2.out; omega
          case rel =>
            refine ⟨l, put s' q b, by go_num, Nat.le_refl _, ⟨R.out.step (k := l) (q := q) (by omega) (by have := HL.out; omega) (by have := HL.out; omega) Q.out.1 Q.out.2.2 (fun c c0 cl cp q' hq' => ?_) (by rw [← R.out.ke]; exact t2) hv hc.undrewN⟩⟩
            rw [← R.out.ke]
            have hcl : c = l := by have := HL.out; omega
            subst hcl
            have : q' = q := by have := Q.out.1; omega
            rw [this]
            exact ltB_self _ _
        · have t3 : ltB s'.ks q i = false := by simpa using t2
          go_wp2_with (first | (go_at_call 34; refine (before_h (R.out.hv.drewN _) q i (by rw [R.out.kl]; exact Q.out.2.1) (by rw [R.out.kl]; exact HM.out.1)).mono ?_; rintro e w2 ⟨rfl, n, rfl⟩) | (go_at_call 35; refine (put_calls i b p _ vk vp s' _ (R.out.hv.drewN _) (by rw [R.out.le]; exact hb) (by rw [R.out.pn]; exact HM.out.1)).mono ?_; rintro e w2 ⟨rfl, hv, hc⟩))
          go_end0
          refine ⟨rfl, R.out.stop (fun c c0 cl cp q' hq' => ?_) hv hc.undrewN⟩
          rw [← R.out.ke]
          have hcl : c = l := by have := HL.out; omega
          subst hcl
          have : q' = q := by have := Q.out.1; omega
          rw [this]
          exact t3
    · skip
      have d1 : decide ((l : Int) < (s.it.length : Int)) = false := decide_eq_false (by omega)
      have d2 : decide ((l : Int) + 1 < (s.it.length : Int)) = false := decide_eq_false (by omega)
      have d3 : (s.it.length : Int) ≤ (l : Int) := by omega
      go_wp2
      go_quiet (fail)
      clear ew e1 hb2
      go_wp2_with (go_at_call 35; refine (put_calls i b p _ vk vp s' _ (R.out.hv.drewN _) (by rw [R.out.le]; exact hb) (by rw [R.out.pn]; exact HM.out.1)).mono ?_; rintro e w2 ⟨rfl, hv, hc⟩)
      go_end0
      exact ⟨rfl, R.out.stop (fun c c0 cl cp q' hq' => absurd cl (by have := HL.out; omega)) hv hc.undrewN⟩
end Go.Proofs.Ytpliaagfhjnnaaa.Heap

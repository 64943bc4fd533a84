/- The program's departure, arrivals, Offered. -/
import Derived.Test.YtkdkdhbkmhkjfaaChN
import Derived.Test.YtkdkdhbkmhkjfaaChW
import Derived.Laws.EntriesVeiled
namespace Go.Proofs.Ytkdkdhbkmhkjfaa.Ch
open Go.RowKit Go.Proofs.YtkdkdhbkmhkjfaaW.PrintWords Go.Proofs.YtkdkdhbkmhkjfaaW.PrintLast Go.Proofs.Ytkdkdhbkmhkjfaa.Sep Go.Proofs.Ytkdkdhbkmhkjfaa.ChP Go.Proofs.Ytkdkdhbkmhkjfaa.PT52
set_option linter.unusedVariables false
set_option linter.unusedSimpArgs false

set_option maxHeartbeats 4000000 in
set_option maxRecDepth 100000 in
theorem dep_calls {w : World} {c : Nat} {vs vd : Value} {s : St} (h : CV 55 50 w c vs vd s) (inv : Inv s.ds) (hr : 1 ≤ s.rt ∧ s.rt ≤ 1048576) (now : Int) :
    Calls Try.prog 25 #[.pointer (some ⟨c, 0, none⟩), .int .i64 now] w fun e w' => e = .returned (.int .i64 (dep s.rt s.ds now)) ∧ ∃ n, w' = w.drewN n := by
  obtain ⟨r, hres⟩ : ∃ r, dep s.rt s.ds now = r := ⟨_, rfl⟩
  rw [hres]
  unfold dep at hres
  obtain ⟨N, hN⟩ : ∃ N, s.ds.length = N := ⟨_, rfl⟩
  obtain ⟨A, cc, rfl⟩ := h.od.slice
  have f1 := blk_at h.blk 1 _ rfl
  have f4 := blk_at h.blk 4 _ rfl
  obtain ⟨R, hR⟩ := Int.eq_ofNat_of_zero_le (show 0 ≤ s.rt by omega)
  have hl := inv.len
  rw [hR] at hr f1 hres
  rw [hN] at f4 hl hres
  rw [Int.toNat_natCast] at hres
  rcases Nat.eq_zero_or_pos N with h0 | h0
  · subst h0
    rw [if_pos rfl] at hres
    subst hres
    clear hr hl h inv hN hR
    go_enter Try.func25, Try.ntmps25
    go_wp2
    go_ret
    exact ⟨rfl, 0, rfl⟩
  · obtain ⟨g, c2, e, hg⟩ := h.od.form (by omega)
    injection e with e1 _ e3
    subst e1 e3
    rw [if_neg (by omega)] at hres
    obtain ⟨M, rfl⟩ : ∃ M, N = M + 1 := ⟨N - 1, by omega⟩
    have hcM := h.od.cell M (by omega)
    obtain ⟨T, hT⟩ : ∃ T, s.ds.getD M 0 = T := ⟨_, rfl⟩
    have hlast : last s.ds = T := by rw [← hT]; unfold last gl; rw [hN]; rfl
    rw [hT] at hcM
    rw [hlast] at hres
    have bT := inv.at_ (show M < s.ds.length by omega)
    rw [gl, hT, hN] at bT
    have bM : (M : Int) ≤ 100000 := by omega
    have bT0 : 0 ≤ T := bT.1
    have bT1 : T ≤ 1073941824 := by have := bT.2; omega
    have hz : ((M : Int) + 1 == 0) = false := beq_eq_false_iff_ne.2 (by omega)
    have hz2 : (M + 1 == 0) = false := rfl
    by_cases c1 : T < now
    · rw [if_pos c1] at hres
      subst hres
      clear hr hl h inv hN hR hT hlast bT h0 hg
      go_enter Try.func25, Try.ntmps25
      go_wp2
      go_ret
      exact ⟨rfl, 0, rfl⟩
    · rw [if_neg c1] at hres
      have d1 : decide (T < now) = false := decide_eq_false c1
      by_cases c2 : R ≤ M + 1
      · obtain ⟨J, hJ⟩ : ∃ J, M + 1 - R = J := ⟨_, rfl⟩
        have hcJ := h.od.cell J (by omega)
        obtain ⟨X, hX⟩ : ∃ X, s.ds.getD J 0 = X := ⟨_, rfl⟩
        rw [hX] at hcJ
        rw [hJ] at hres
        rw [gl, hX] at hres
        have d2 : (R : Int) ≤ (M : Int) + 1 := by omega
        have eJ : (M : Int) + 1 - (R : Int) = (J : Int) := by omega
        have eJ2 : IntKind.i64.wrap ((M : Int) + 1 - (R : Int)) = (J : Int) := by rw [eJ]; exact IntWalk.i64_in _ (by omega)
        have eT : IntKind.i64.wrap (T + 1) = T + 1 := IntWalk.i64_in _ (by omega)
        have d3 : (J : Int) < (M : Int) + 1 := by omega
        have d0 : (0 : Int) ≤ (J : Int) := by omega
        have d4 : J < M + 1 := by omega
        by_cases c3 : X = T
        · rw [if_pos ⟨by omega, c3⟩] at hres
          subst c3
          subst hres
          clear hr hl h inv hN hR hT hlast bT h0 hg hX hJ
          go_enter Try.func25, Try.ntmps25
          go_wp2_with fail
          go_quiet (fail)
          go_wp2
          go_ret
          exact ⟨rfl, _, rfl⟩
        · rw [if_neg (fun q => c3 q.2)] at hres
          subst hres
          have d5 : (X == T) = false := beq_eq_false_iff_ne.2 c3
          clear hr hl h inv hN hR hT hlast bT h0 hg hX hJ c3
          go_enter Try.func25, Try.ntmps25
          go_wp2_with fail
          go_quiet (fail)
          go_wp2
          go_ret
          exact ⟨rfl, _, rfl⟩
      · rw [if_neg (fun q => c2 (by omega))] at hres
        subst hres
        have d2 : decide ((R : Int) ≤ (M : Int) + 1) = false := decide_eq_false (by omega)
        have d3 : decide (R ≤ M + 1) = false := decide_eq_false c2
        have d4 : ¬ (R : Int) ≤ (M : Int) + 1 := by omega
        clear hr hl h inv hN hR hT hlast bT h0 hg c2
        go_enter Try.func25, Try.ntmps25
        go_wp2_with fail
        go_quiet (fail)
        go_wp2
        go_ret
        exact ⟨rfl, _, rfl⟩
/-! The arrivals: four functions of no parameters over what they captured. -/
theorem one_calls (b : Nat) (t : Int) (w : World) (hc : w.cell? ⟨b, 0, none⟩ = some (.int .i64 t)) : Calls Try.prog 31 #[.pointer (some ⟨b, 0, none⟩)] w fun e w' => e = .returned (.slice (some ⟨w.heap.size, 0, none⟩) 1 1) ∧ w' = w.alloc (.cells #[.int .i64 t] 3) := by
  go_enter Try.func31, Try.ntmps31
  go_wp2
  go_ret
  exact ⟨rfl, rfl⟩
theorem none_calls (w : World) : Calls Try.prog 32 #[] w fun e w' => e = .returned (.slice none 0 0) ∧ w = w' := by
  go_enter Try.func32, Try.ntmps32
  go_wp2
  go_ret
  exact ⟨rfl, rfl⟩
theorem twice_calls (b g : Nat) (t n : Int) (w : World) (hc : w.cell? ⟨b, 0, none⟩ = some (.int .i64 t)) (hn : w.cell? ⟨g, 1, none⟩ = some (.int .i64 n)) (ht : 0 ≤ t ∧ t ≤ 2000000000) (hm : 0 ≤ n ∧ n ≤ 65536) : Calls Try.prog 33 #[.pointer (some ⟨b, 0, none⟩), .pointer (some ⟨g, 0, none⟩)] w fun e w' => e = .returned (.slice (some ⟨w.heap.size, 0, none⟩) 2 2) ∧ w' = w.alloc (.cells #[.int .i64 t, .int .i64 (t + n)] 3) := by
  obtain ⟨ht0, ht1⟩ := ht
  obtain ⟨hm0, hm1⟩ := hm
  go_enter Try.func33, Try.ntmps33
  go_wp2
  go_ret
  exact ⟨rfl, rfl⟩
theorem late_calls (b g : Nat) (t n : Int) (w : World) (hc : w.cell? ⟨b, 0, none⟩ = some (.int .i64 t)) (hn : w.cell? ⟨g, 1, none⟩ = some (.int .i64 n)) (ht : 0 ≤ t ∧ t ≤ 2000000000) (hm : 0 ≤ n ∧ n ≤ 65536) : Calls Try.prog 34 #[.pointer (some ⟨b, 0, none⟩), .pointer (some ⟨g, 0, none⟩)] w fun e w' => e = .returned (.slice (some ⟨w.heap.size, 0, none⟩) 1 1) ∧ w' = w.alloc (.cells #[.int .i64 (t + n)] 3) := by
  obtain ⟨ht0, ht1⟩ := ht
  obtain ⟨hm0, hm1⟩ := hm
  go_enter Try.func34, Try.ntmps34
  go_wp2
  go_ret
  exact ⟨rfl, rfl⟩
theorem own_new1 (W : World) (x : Int) {b m : Nat} (hm : W.heap.size = m) (hb : b ≤ m) : (W.alloc (.cells #[.int .i64 x] 3)).ownsRow b 3 1 (.slice (some ⟨m, 0, none⟩) 1 1) 1 (nums .i64 [x]) := by
  subst hm
  exact ⟨rfl, .inr ⟨W.heap.size, 1, #[.int .i64 x], rfl, hb, heap_alloc_new W _, Nat.le_refl _, by decide, rfl, rfl⟩⟩
theorem own_new2 (W : World) (x y : Int) {b m : Nat} (hm : W.heap.size = m) (hb : b ≤ m) : (W.alloc (.cells #[.int .i64 x, .int .i64 y] 3)).ownsRow b 3 1 (.slice (some ⟨m, 0, none⟩) 2 2) 2 (nums .i64 [x, y]) := by
  subst hm
  exact ⟨rfl, .inr ⟨W.heap.size, 2, #[.int .i64 x, .int .i64 y], rfl, hb, heap_alloc_new W _, Nat.le_refl _, by decide, rfl, rfl⟩⟩
set_option maxHeartbeats 4000000 in
set_option maxRecDepth 100000 in
theorem arr_calls (f : Ft) (t : Int) (w : World) (hf : right f = true) (ht : 0 ≤ t ∧ t ≤ 2000000000) :
    Calls Try.prog 26 #[.agg #[.int .i64 f.kind, .int .i64 f.n], .int .i64 t] w fun e w' => ∃ v, e = .returned v ∧ w'.ownsRow w.heap.size 3 1 v (arr f t).length (nums .i64 (arr f t)) ∧ Below w.heap.size w w' := by
  obtain ⟨k, n⟩ := f
  have hcase : (k = 0 ∧ n = 0) ∨ (k = 1 ∧ n = 0) ∨ (k = 2 ∧ 0 ≤ n ∧ n ≤ 65536) ∨ (k = 3 ∧ 0 ≤ n ∧ n ≤ 65536) := by
    unfold right at hf
    simp only at hf
    split at hf
    · rename_i h; have := of_decide_eq_true hf; rcases h with h | h <;> simp [h, this]
    · split at hf
      · rename_i h; have := of_decide_eq_true hf; rcases h with h | h <;> simp [h, this]
      · cases hf
  have HT := Aside0.mk ht
  have hbs : Below w.heap.size w ((w.alloc (.cells #[.int .i64 k, .int .i64 n] 50)).alloc (.cells #[.int .i64 t] 3)) := ((Below.refl _ _).alloc (Nat.le_refl _) _).alloc (by simp) _
  have HB := Aside0.mk hbs
  clear hf ht hbs
  rcases hcase with ⟨rfl, rfl⟩ | ⟨rfl, rfl⟩ | ⟨rfl, h0, h1⟩ | ⟨rfl, h0, h1⟩
  · go_enter Try.func26, Try.ntmps26
    go_wp2_with (go_at_call 31; refine (one_calls _ t _ (by go_simp)).mono ?_; rintro e w1 ⟨rfl, rfl⟩)
    go_ret
    refine ⟨_, rfl, own_new1 _ t ?_ ?_, ?_⟩
    · simp only [World.size_alloc]
    · omega
    · exact (HB.out.alloc (by simp; omega) _).alloc (by simp; omega) _
  · go_enter Try.func26, Try.ntmps26
    go_wp2_with (go_at_call 32; refine (none_calls _).mono ?_; rintro e w1 ⟨rfl, h1⟩; obtain rfl := h1.symm)
    go_ret
    exact ⟨_, rfl, ⟨rfl, .inl ⟨rfl, rfl⟩⟩, HB.out.alloc (by simp; omega) _⟩
  · have HM := Aside0.mk (And.intro h0 h1)
    go_enter Try.func26, Try.ntmps26
    go_wp2_with (go_at_call 33; refine (twice_calls _ _ t n _ (by go_simp) (by go_simp) HT.out HM.out).mono ?_; rintro e w1 ⟨rfl, rfl⟩)
    go_ret
    refine ⟨_, rfl, own_new2 _ t (t + n) ?_ ?_, ?_⟩
    · simp only [World.size_alloc]
    · omega
    · exact (HB.out.alloc (by simp; omega) _).alloc (by simp; omega) _
  · have HM := Aside0.mk (And.intro h0 h1)
    go_enter Try.func26, Try.ntmps26
    go_wp2_with (go_at_call 34; refine (late_calls _ _ t n _ (by go_simp) (by go_simp) HT.out HM.out).mono ?_; rintro e w1 ⟨rfl, rfl⟩)
    go_ret
    refine ⟨_, rfl, own_new1 _ (t + n) ?_ ?_, ?_⟩
    · simp only [World.size_alloc]
    · omega
    · exact (HB.out.alloc (by simp; omega) _).alloc (by simp; omega) _
theorem offered_calls {w : World} {c : Nat} {vs vd : Value} {s : St} {T eF : TypeId} (h : CV T eF w c vs vd s) : Calls Try.prog 20 #[.pointer (some ⟨c, 0, none⟩)] w fun e w' => e = .returned (.int .i64 s.off) ∧ w = w' := by
  have f5 := blk_at h.blk 5 _ rfl
  clear h
  go_enter Try.func20, Try.ntmps20
  go_wp2
  go_ret
  exact ⟨rfl, rfl⟩
theorem offered_nil (w : World) : Calls Try.prog 20 #[.pointer none] w fun e w' => e = .returned (.int .i64 0) ∧ w = w' := by
  go_enter Try.func20, Try.ntmps20
  go_wp2
  go_ret
  exact ⟨rfl, rfl⟩
theorem send_nil (now : Int) (w : World) : Calls Try.prog 13 #[.pointer none, .int .i64 now] w fun e w' => e = .returned (.tuple #[.slice none 0 0, .int .i64 7]) ∧ w = w' := by
  go_enter Try.func13, Try.ntmps13
  go_wp2
  go_ret2
  exact ⟨rfl, rfl⟩
end Go.Proofs.Ytkdkdhbkmhkjfaa.Ch

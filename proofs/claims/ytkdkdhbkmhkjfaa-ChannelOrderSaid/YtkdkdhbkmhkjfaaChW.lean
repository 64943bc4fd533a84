/- The program's Waiting. -/
import Derived.Test.YtkdkdhbkmhkjfaaChR
import Derived.Test.YtkdkdhbkmhkjfaaChP
namespace Go.Proofs.Ytkdkdhbkmhkjfaa.Ch
open Go.RowKit Go.Shelf Go.Proofs.YtkdkdhbkmhkjfaaW.PrintWords Go.Proofs.Ytkdkdhbkmhkjfaa.Sep Go.Proofs.Ytkdkdhbkmhkjfaa.ChP
set_option linter.unusedVariables false
set_option linter.unusedSimpArgs false

theorem backward_calls (A : Option Addr) (n c : Nat) (w : World) :
    Calls Try.prog 27 #[.slice A n c] w fun e w' => e = .returned (.func (.func 35) #[] #[.pointer (some ⟨w.heap.size, 0, none⟩)]) ∧ w' = w.alloc (.cells #[.slice A n c] 23) := by
  go_enter Try.func27, Try.ntmps27
  go_wp2
  go_ret
  exact ⟨rfl, rfl⟩
/-- The blocks of the call: the time, the count, the slice, the deferred list, the loop. -/
structure WJ (w : World) (n0 : Nat) (lp : Loop) (now : Int) (s : Value) (j : Nat) (W : World) : Prop where
  size : n0 + 5 ≤ W.heap.size
  bt : W.heap[n0]? = some (.cells #[.int .i64 now] 3 (0, 0))
  bn : W.heap[n0 + 1]? = some (.cells #[.int .i64 (j : Int)] 3 (0, 0))
  bs : W.heap[n0 + 2]? = some (.cells #[s] 23 (0, 0))
  bd : W.heap[n0 + 3]? = some (.deferred (some []))
  bl : W.heap[n0 + 4]? = some (.loop lp)
  bb : Below n0 w W
theorem WJ.put {w W : World} {n0 j : Nat} {lp lq : Loop} {now : Int} {s : Value} (h : WJ w n0 lp now s j W) : WJ w n0 lq now s j (W.putObj (n0 + 4) (.loop lq)) := by
  have hput : ∀ k, k ≠ n0 + 4 → (W.putObj (n0 + 4) (.loop lq)).heap[k]? = W.heap[k]? := fun k hk => World.putObj_heap_other hk
  have hs : (W.putObj (n0 + 4) (.loop lq)).heap.size = W.heap.size := by simp [World.putObj]
  have h1 := h.size
  exact ⟨by omega, (hput _ (by omega)).trans h.bt, (hput _ (by omega)).trans h.bn, (hput _ (by omega)).trans h.bs, (hput _ (by omega)).trans h.bd, World.putObj_heap_same (Array.getElem?_eq_some_iff.1 h.bl).1, h.bb.grown (grownBy_putObj' _ (n0 + 4) _) (by omega) (fun k e => by cases e; omega)⟩
theorem WJ.count {w W : World} {n0 j : Nat} {lp : Loop} {now : Int} {s : Value} (h : WJ w n0 lp now s j W) (k : Nat) : WJ w n0 lp now s k (W.setCell ⟨n0 + 1, 0, none⟩ (.int .i64 (k : Int))) := by
  have hset : ∀ i, i ≠ n0 + 1 → (W.setCell ⟨n0 + 1, 0, none⟩ (.int .i64 (k : Int))).heap[i]? = W.heap[i]? := fun i hi => Below.heap_setCell W ⟨n0 + 1, 0, none⟩ _ i hi
  have h1 := h.size
  exact ⟨by simpa using h1, (hset _ (by omega)).trans h.bt, Sep.blk_set h.bn 0 _, (hset _ (by omega)).trans h.bs, (hset _ (by omega)).trans h.bd, (hset _ (by omega)).trans h.bl, h.bb.setCell (p := ⟨n0 + 1, 0, none⟩) (by simp) _⟩
theorem WJ.fin {w W : World} {n0 j : Nat} {lp : Loop} {now : Int} {s : Value} (h : WJ w n0 lp now s j W) : Below n0 w (W.putObj (n0 + 3) (.deferred none)) := h.bb.grown (grownBy_putObj' _ (n0 + 3) _) (by have := h.size; omega) (fun k e => by cases e; omega)
attribute [local go_sem] Oper.semAt_some
set_option maxHeartbeats 4000000 in
set_option maxRecDepth 100000 in
theorem waiting_calls {w : World} {c : Nat} {A : Option Addr} {cc N : Nat} {ds : List Int} (now : Int) (hN : ds.length = N) (f4 : w.cell? ⟨c, 4, none⟩ = some (.slice A N cc)) (ho : OwnI 3 w (.slice A N cc) ds) (hs : ds.Pairwise (· ≤ ·)) (hl : ds.length ≤ 100000) :
    Calls Try.prog 16 #[.pointer (some ⟨c, 0, none⟩), .int .i64 now] w fun e w' => e = .returned (.int .i64 (wait ds now : Int)) ∧ Below w.heap.size w w' := by
  obtain ⟨W1, W2⟩ := wait_spec hs now
  have HW := Aside0.mk (And.intro W1 W2)
  have HN := Aside0.mk hN
  have HL := Aside0.mk hl
  have hcells : ∃ A' c', (.slice A N cc : Value) = .slice A' N c' ∧ ∀ i, i < N → ∃ ad, A' = some ad ∧ ∀ W', Below w.heap.size w W' → W'.cell? (ad.add i) = some (.int .i64 (gl ds i)) := by
    refine ⟨A, cc, rfl, fun i hi => ?_⟩
    obtain ⟨g, c2, e, hg⟩ := ho.form (by omega)
    injection e with e1 e2 e3
    subst e1 e3
    refine ⟨_, rfl, fun W' hb => ?_⟩
    have := ho.cell i (by omega)
    rw [add_plain]
    exact (hb.cell (p := ⟨g, i, none⟩) hg).trans this
  have HC := Aside0.mk hcells
  clear W1 W2 hs hl hcells ho hN
  obtain ⟨n, hn⟩ : ∃ n, wait ds now = n := ⟨_, rfl⟩
  rw [hn]
  have HNN := Aside0.mk hn
  clear hn
  have hcl : c < w.heap.size := World.block_lt_of_cell? w _ f4
  have f4a : ((w.alloc (.cells #[.int .i64 now] 3)).alloc (.cells #[.int .i64 0] 3)).cell? ⟨c, 4, none⟩ = some (.slice A N cc) := (World.cell?_of_block (w := w) ((Below.heap_alloc _ _ c (by simp; omega)).trans (Below.heap_alloc w _ c hcl))).trans f4
  rw [← callsIn_wide (n := 6)]
  refine callsIn_of_wp_marks Try.func16 rfl trivial ?_ rfl
  simp only [Try.ntmps16, List.size_toArray, List.length_cons, List.length_nil, Nat.reduceAdd, Nat.reduceSub, Array.replicate_succ, Array.replicate_zero, List.push_toArray, List.append_toArray, List.nil_append, List.cons_append]
  gi_wp2_with (refine ⟨trivial, ?_⟩; gi_at_call 27; refine (callsIn_wide.2 (backward_calls _ _ _ _)).mono ?_; rintro e w' ⟨rfl, rfl⟩)
  refine range_mine rfl (enters_of Try.func35 (by kernel_rfl) rfl) ?_
  intro rec hrec fn
  simp only [World.size_alloc, Nat.add_assoc, Nat.reduceAdd] at hrec ⊢
  have HREC := Aside0.mk hrec
  clear hrec
  have hlt : n ≤ N := by have := HW.out.1; have := HNN.out; have := HN.out; omega
  refine (back_calls 2 (w.heap.size + 4) (w.heap.size + 2) N n (.slice A N cc) (gl ds) (by have := HN.out; have := HL.out; omega) hlt (WJ w w.heap.size (rec fn .ready none) now (.slice A N cc)) (WJ w w.heap.size (rec fn .done (some (.exit 0))) now (.slice A N cc) n) ?_ ?_ ?_ _ ?_).mono ?_
  case refine_1 =>
    intro j W hj
    refine ⟨hj.bs, ?_⟩
    obtain ⟨A', c', e, hx⟩ := HC.out
    exact ⟨A', c', e, fun i hi => by obtain ⟨ad, e2, h2⟩ := hx i hi; exact ⟨ad, e2, h2 W hj.bb⟩⟩
  case refine_2 =>
    intro j W hjn hj
    have hgt : now < gl ds (N - 1 - j) := (HW.out.2 _ (by have := HN.out; omega)).2 (by have := HN.out; have := HNN.out; omega)
    obtain ⟨x, hx⟩ : ∃ x, gl ds (N - 1 - j) = x := ⟨_, rfl⟩
    rw [hx] at hgt ⊢
    have d1 : decide (x ≤ now) = false := decide_eq_false (by omega)
    have d2 : ¬ x ≤ now := by omega
    have bj : (j : Int) ≤ 100000 := by have := HN.out; have := HL.out; omega
    clear hx hgt
    refine round_mine HREC.out hj.bl rfl ?_
    have P1 := hj.put (lq := rec fn .busy none)
    have HP1 := Aside0.mk P1
    have HJ := Aside0.mk hj
    gi_wp2
    refine ⟨HJ.out.bl, ?_⟩
    obtain ⟨X, hX⟩ : ∃ X, W.putObj (w.heap.size + 4) (.loop (rec fn .busy none)) = X := ⟨_, rfl⟩
    rw [hX] at HP1 ⊢
    have ct := blk_at HP1.out.bt 0 _ rfl
    have cn := blk_at HP1.out.bn 0 _ rfl
    have fz := blk_free HP1.out.bn 0
    clear hX P1 hj
    gi_wp2
    have e3 : ((j : Int) + 1) = ((j + 1 : Nat) : Int) := by omega
    rw [e3]
    exact ⟨(HP1.out.count (j + 1)).bl, (HP1.out.count (j + 1)).put⟩
  case refine_3 =>
    intro W hnN hj
    have hgt : ¬ now < gl ds (N - 1 - n) := fun h => by have := (HW.out.2 _ (by have := HN.out; omega)).1 h; have := HN.out; have := HNN.out; omega
    obtain ⟨x, hx⟩ : ∃ x, gl ds (N - 1 - n) = x := ⟨_, rfl⟩
    rw [hx] at hgt ⊢
    have d1 : x ≤ now := by omega
    clear hx hgt
    refine round_mine HREC.out hj.bl rfl ?_
    have P1 := hj.put (lq := rec fn .busy none)
    have HP1 := Aside0.mk P1
    have HJ := Aside0.mk hj
    gi_wp2
    refine ⟨HJ.out.bl, ?_⟩
    obtain ⟨X, hX⟩ : ∃ X, W.putObj (w.heap.size + 4) (.loop (rec fn .busy none)) = X := ⟨_, rfl⟩
    rw [hX] at HP1 ⊢
    have ct := blk_at HP1.out.bt 0 _ rfl
    clear hX P1 hj
    gi_wp2
    exact ⟨HP1.out.bl, HP1.out.put⟩
  case refine_4 =>
    have b0 := World.alloc_heap_new w (.cells #[.int .i64 now] 3)
    have b1 := World.alloc_heap_new (w.alloc (.cells #[.int .i64 now] 3)) (.cells #[.int .i64 0] 3)
    have b2 := World.alloc_heap_new ((w.alloc (.cells #[.int .i64 now] 3)).alloc (.cells #[.int .i64 0] 3)) (.cells #[.slice A N cc] 23)
    have b3 := World.alloc_heap_new (((w.alloc (.cells #[.int .i64 now] 3)).alloc (.cells #[.int .i64 0] 3)).alloc (.cells #[.slice A N cc] 23)) (.deferred (some []))
    have b4 := World.alloc_heap_new ((((w.alloc (.cells #[.int .i64 now] 3)).alloc (.cells #[.int .i64 0] 3)).alloc (.cells #[.slice A N cc] 23)).alloc (.deferred (some []))) (.loop (rec fn .ready none))
    simp only [World.size_alloc, Nat.add_assoc, Nat.reduceAdd] at b1 b2 b3 b4
    have bb := (((((Below.refl _ w).alloc (Nat.le_refl _) (.cells #[.int .i64 now] 3)).alloc (by simp) (.cells #[.int .i64 0] 3)).alloc (by simp; omega) (.cells #[.slice A N cc] 23)).alloc (by simp; omega) (.deferred (some []))).alloc (by simp; omega) (.loop (rec fn .ready none))
    exact ⟨by simp only [World.size_alloc]; omega, (Below.heap_alloc _ _ _ (by simp only [World.size_alloc]; omega)).trans ((Below.heap_alloc _ _ _ (by simp only [World.size_alloc]; omega)).trans ((Below.heap_alloc _ _ _ (by simp only [World.size_alloc]; omega)).trans ((Below.heap_alloc _ _ _ (by simp only [World.size_alloc]; omega)).trans b0))), (Below.heap_alloc _ _ _ (by simp only [World.size_alloc]; omega)).trans ((Below.heap_alloc _ _ _ (by simp only [World.size_alloc]; omega)).trans ((Below.heap_alloc _ _ _ (by simp only [World.size_alloc]; omega)).trans b1)), (Below.heap_alloc _ _ _ (by simp only [World.size_alloc]; omega)).trans ((Below.heap_alloc _ _ _ (by simp only [World.size_alloc]; omega)).trans b2), (Below.heap_alloc _ _ _ (by simp only [World.size_alloc]; omega)).trans b3, b4, bb⟩
  case refine_5 =>
    rintro e W' ⟨⟨v, rfl⟩, (⟨hnN, hj⟩ | ⟨hnN, hj⟩)⟩
    · refine ⟨⟨_, rfl⟩, .ready, none, by simp, hj.bl, ?_⟩
      dsimp only
      have P1 := hj.put (lq := rec fn .exhausted none)
      obtain ⟨X, hX⟩ : ∃ X, W'.putObj (w.heap.size + 4) (.loop (rec fn .exhausted none)) = X := ⟨_, rfl⟩
      rw [hX] at P1 ⊢
      have HP1 := Aside0.mk P1
      have cn := blk_at P1.bn 0 _ rfl
      clear hX P1 hj
      gi_wp2
      refine ⟨by simp, .inl ⟨_, _, rfl, run_takeDeferred HP1.out.bd, ?_⟩⟩
      subst hnN
      exact ⟨_, results_tmp rfl _ _ _, rfl, HP1.out.fin⟩
    · refine ⟨⟨_, rfl⟩, .done, some (.exit 0), by simp, hj.bl, ?_⟩
      dsimp only
      have P1 := hj.put (lq := rec fn .exhausted (some (.exit 0)))
      obtain ⟨X, hX⟩ : ∃ X, W'.putObj (w.heap.size + 4) (.loop (rec fn .exhausted (some (.exit 0)))) = X := ⟨_, rfl⟩
      rw [hX] at P1 ⊢
      have HP1 := Aside0.mk P1
      have cn := blk_at P1.bn 0 _ rfl
      clear hX P1 hj
      gi_wp2
      refine ⟨by simp, .inl ⟨_, _, rfl, run_takeDeferred HP1.out.bd, ?_⟩⟩
      exact ⟨_, results_tmp rfl _ _ _, rfl, HP1.out.fin⟩
end Go.Proofs.Ytkdkdhbkmhkjfaa.Ch

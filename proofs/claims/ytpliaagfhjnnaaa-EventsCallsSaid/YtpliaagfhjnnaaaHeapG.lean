import Derived.Test.YtpliaagfhjnnaaaHeapF
namespace Go.Proofs.Ytpliaagfhjnnaaa.Heap
open Go.RowKit Go.Proofs.YtpliaagfhjnnaaaW.PrintWords Go.Proofs.Ytpliaagfhjnnaaa.Sep Go.Proofs.Ytpliaagfhjnnaaa.HeapP

theorem new_no (n : Int) (w : World) (hn : n < 0 ∨ 65536 < n) : Calls Try.prog 21 #[.int .i64 n] w fun e w' => e = .returned (.tuple #[.pointer none, .int .i64 1]) ∧ w' = w := by
  rcases hn with hn | hn
  · go_enter Try.func21, Try.ntmps21
    go_wp2
    go_ret2
    exact ⟨rfl, rfl⟩
  · have h0 : decide (n < 0) = false := decide_eq_false (by omega)
    go_enter Try.func21, Try.ntmps21
    go_wp2
    go_ret2
    exact ⟨rfl, rfl⟩
def plAt (n b : Nat) : List Int := List.replicate b (-1) ++ List.replicate (n - b) 0
theorem plAt_len {n b : Nat} (h : b ≤ n) : (plAt n b).length = n := by simp [plAt]; omega
theorem plAt_set {n b : Nat} (h : b < n) : (plAt n b).set b (-1) = plAt n (b + 1) := by
  unfold plAt
  apply List.ext_getElem
  · simp; omega
  · intro i h1 h2
    rw [List.getElem_set]
    by_cases c : b = i
    · subst c
      rw [if_pos rfl, List.getElem_append_left (by simp)]
      simp
    · rw [if_neg c]
      by_cases c2 : i < b
      · rw [List.getElem_append_left (by simpa using c2), List.getElem_append_left (by simp; omega)]
        simp
      · rw [List.getElem_append_right (by simp; omega), List.getElem_append_right (by simp; omega)]
        simp
def NewR (w : World) (p : Nat) (vk vp : Value) (n : Nat) (wr : World) (b : Nat) : Prop := HeapV wr p (.slice none 0 0) vk vp ⟨[], List.replicate n 0, plAt n b⟩ ∧ Below w.heap.size w wr ∧ (∀ k, Foot p (.slice none 0 0) vk vp k → w.heap.size ≤ k)
def NewPost (w : World) (n : Nat) (e : Ending) (w' : World) : Prop := ∃ p F, e = .returned (.tuple #[.pointer (some ⟨p, 0, none⟩), .int .i64 0]) ∧ HIs w' F p (List.replicate n false) (List.replicate n 0) ∧ Below w.heap.size w w' ∧ ∀ k, F k → w.heap.size ≤ k
theorem own_two {W : World} {g n : Nat} (h : W.heap[g]? = some (.cells (madeCells #[.int .i64 0] n) 3 (0, 0))) (hn : n ≤ 65536) : OwnI 3 W (.slice (some ⟨g, 0, none⟩) n n) (List.replicate n 0) := by
  refine ⟨by simp [nums], .inr ⟨g, n, _, by simp, Nat.zero_le _, h, by simp, by unfold maxLen; omega, by simp [size_madeCells], ?_⟩⟩
  have hl : (madeCells #[Value.int .i64 0] n).toList = nums .i64 (List.replicate n 0) := by
    apply List.ext_getElem
    · simp [nums, madeCells]
    · intro i h1 h2
      simp [nums, madeCells, Nat.mod_one]
  rw [hl]
  simp [nums]
theorem new_start (w : World) (n gk gp : Nat) (hn : n ≤ 65536) (hg : (gk = w.heap.size ∧ gp = w.heap.size + 1) ∨ (gk = w.heap.size + 1 ∧ gp = w.heap.size)) :
    NewR w (w.heap.size + 1 + 1) (.slice (some ⟨gk, 0, none⟩) n n) (.slice (some ⟨gp, 0, none⟩) n n) n ((((w.alloc (.cells (madeCells #[.int .i64 0] n) 3)).alloc (.cells (madeCells #[.int .i64 0] n) 3)).alloc (.cells #[.slice none 0 0, .slice (some ⟨gk, 0, none⟩) n n, .slice (some ⟨gp, 0, none⟩) n n] 68)).drew) 0 := by
  have b0 : ∀ o : Obj, (((w.alloc (.cells (madeCells #[.int .i64 0] n) 3)).alloc (.cells (madeCells #[.int .i64 0] n) 3)).alloc o).heap[w.heap.size]? = some (.cells (madeCells #[.int .i64 0] n) 3 (0, 0)) := fun o => by
    rw [Below.heap_alloc _ _ _ (by simp; omega), Below.heap_alloc _ _ _ (by simp)]
    exact heap_alloc_new w _
  have b1 : ∀ o : Obj, (((w.alloc (.cells (madeCells #[.int .i64 0] n) 3)).alloc (.cells (madeCells #[.int .i64 0] n) 3)).alloc o).heap[w.heap.size + 1]? = some (.cells (madeCells #[.int .i64 0] n) 3 (0, 0)) := fun o => by
    rw [Below.heap_alloc _ _ _ (by simp)]
    have := heap_alloc_new (w.alloc (.cells (madeCells #[.int .i64 0] n) 3)) (.cells (madeCells #[.int .i64 0] n) 3)
    simpa using this
  have b2 : ∀ o : Obj, (((w.alloc (.cells (madeCells #[.int .i64 0] n) 3)).alloc (.cells (madeCells #[.int .i64 0] n) 3)).alloc o).heap[w.heap.size + 1 + 1]? = some o := fun o => by
    have := heap_alloc_new ((w.alloc (.cells (madeCells #[.int .i64 0] n) 3)).alloc (.cells (madeCells #[.int .i64 0] n) 3)) o
    simpa using this
  have hk : ∀ o : Obj, OwnI 3 ((((w.alloc (.cells (madeCells #[.int .i64 0] n) 3)).alloc (.cells (madeCells #[.int .i64 0] n) 3)).alloc o).drew) (.slice (some ⟨gk, 0, none⟩) n n) (List.replicate n 0) := fun o => by
    rcases hg with ⟨rfl, _⟩ | ⟨rfl, _⟩
    · exact own_two (b0 o) hn
    · exact own_two (b1 o) hn
  have hp : ∀ o : Obj, OwnI 3 ((((w.alloc (.cells (madeCells #[.int .i64 0] n) 3)).alloc (.cells (madeCells #[.int .i64 0] n) 3)).alloc o).drew) (.slice (some ⟨gp, 0, none⟩) n n) (List.replicate n 0) := fun o => by
    rcases hg with ⟨_, rfl⟩ | ⟨_, rfl⟩
    · exact own_two (b1 o) hn
    · exact own_two (b0 o) hn
  have nil_ : ∀ W : World, OwnI 3 W (.slice none 0 0) [] := fun W => ⟨by simp [nums], .inl ⟨rfl, rfl⟩⟩
  refine ⟨⟨b2 _, nil_ _, hk _, by rw [show plAt n 0 = List.replicate n 0 by simp [plAt]]; exact hp _, .inl rfl, .inl rfl, .inr (fun e => ?_)⟩, ?_, fun k hk => ?_⟩
  · simp only [Value.ownBlock, Option.some.injEq] at e
    omega
  · exact ((((Below.refl _ _).alloc (Nat.le_refl _) _).alloc (by simp) _).alloc (by simp; omega) _).drew
  · rcases hk with rfl | e | e | e
    · omega
    · simp [Value.ownBlock] at e
    · have := ob e; omega
    · have := ob e; omega
theorem gi_repl (n i : Nat) (v : Int) (h : i < n) : gi (List.replicate n v) i = v := by simp [gi, List.getD_eq_getElem?_getD, h]
theorem gb_repl (n i : Nat) : gb (List.replicate n false) i = false := by
  simp only [gb, List.getD_eq_getElem?_getD, List.getElem?_replicate]
  split <;> rfl
theorem NewR.done {w : World} {p n : Nat} {vk vp : Value} {wr : World} (h : NewR w p vk vp n wr n) (hn : n ≤ 65536) : NewPost w n (.returned (.tuple #[.pointer (some ⟨p, 0, none⟩), .int .i64 0])) wr := by
  obtain ⟨hv, hb, hf⟩ := h
  refine ⟨p, Foot p (.slice none 0 0) vk vp, rfl, ⟨_, _, _, _, ⟨hv, ?_, fun j j0 jl => ?_, fun _ h => h, Foot.lt hv, by simpa using hn⟩, rfl⟩, hb, hf⟩
  · refine ⟨by simp, by simp [plAt], fun j hj => ?_, fun i hi hb => ?_, fun i hi _ => ?_, by simp [List.count_replicate]⟩
    · simp at hj
    · rw [gb_repl] at hb; cases hb
    · simp only [List.length_replicate] at hi
      have : plAt n n = List.replicate n (-1) := by simp [plAt]
      show gi (plAt n n) i = -1
      rw [this, gi_repl _ _ _ hi]
  · simp at jl
theorem NewR.step {w : World} {p n g c m : Nat} {vk : Value} {wr : World} {b : Nat} (h : NewR w p vk (.slice (some ⟨g, 0, none⟩) m c) n wr b) (hb : b < n) : NewR w p vk (.slice (some ⟨g, 0, none⟩) m c) n (wr.setCell ⟨g, b, none⟩ (.int .i64 (-1))) (b + 1) := by
  obtain ⟨hv, hbl, hf⟩ := h
  have h2 := hv.place b (-1)
  refine ⟨?_, hbl.setCell (p := ⟨g, b, none⟩) (hf g (.inr (.inr (.inr rfl)))) _, hf⟩
  have h3 := h2.1
  rw [show ({ it := [], ks := List.replicate n 0, pl := plAt n b } : HS).pl.set b (-1) = plAt n (b + 1) from plAt_set hb] at h3
  exact h3
set_option maxHeartbeats 2000000 in
set_option maxRecDepth 100000 in
theorem new_yes (n : Nat) (w : World) (hn : n ≤ 65536) : Calls Try.prog 21 #[.int .i64 (n : Int)] w fun e w' => NewPost w n e w' := by
  have hmk := print_make (P := Try.prog) 29 3 .i64 8 Try.underlying29 infoInt (by omega) n (by omega)
  have h0 : ¬ (n : Int) < 0 := by omega
  have h1 : decide ((n : Int) < 0) = false := decide_eq_false h0
  have h2 : decide (65536 < (n : Int)) = false := decide_eq_false (by omega)
  have h3 : (n : Int) ≤ 65536 := by omega
  have HN := Aside0.mk hn
  clear hn
  go_enter Try.func21, Try.ntmps21
  go_wp2
  go_region
  clear hmk
  · have R0 := Aside0.mk (new_start w n w.heap.size (w.heap.size + 1) HN.out (.inl ⟨rfl, rfl⟩))
    generalize hW : World.drew _ = W0 at R0 ⊢
    clear hW
    have f2 := blk_at R0.out.1.blk 2 _ rfl
    go_wp2
    go_loopg [23] n (fun g v wr => ∃ b : Nat, v = .int .i64 (b : Int) ∧ n - b ≤ g ∧ b ≤ n ∧ Aside0 (NewR w (w.heap.size + 1 + 1) (.slice (some ⟨w.heap.size, 0, none⟩) n n) (.slice (some ⟨w.heap.size + 1, 0, none⟩) n n) n wr b))
    case atStart => exact ⟨0, rfl, by omega, by omega, R0⟩
    case round =>
      obtain ⟨b, rfl, hbg, hbn, R⟩ := hrel
      clear f2
      have f2 := blk_at R.out.1.blk 2 _ rfl
      by_cases hlt : b < n
      · have cb := R.out.1.op.cell b (by rw [plAt_len hbn]; exact hlt)
        have fb := R.out.1.op.free b
        have hb1 : (b : Int) < (n : Int) := by omega
        have G1 := Aside0.mk (And.intro hbg (And.intro hbn hlt))
        clear hbg hbn hlt
        go_wp2
        go_roundg (n - (b + 1))
        case measure => have := G1.out; omega
        case rel => exact ⟨b + 1, by go_num, by omega, by have := G1.out; omega, ⟨R.out.step G1.out.2.2⟩⟩
      · have hbe : b = n := by omega
        subst hbe
        clear hbg hbn hlt
        go_wp2
        go_ret2
        exact R.out.done HN.out
  · have R0 := Aside0.mk (new_start w n (w.heap.size + 1) w.heap.size HN.out (.inr ⟨rfl, rfl⟩))
    generalize hW : World.drew _ = W0 at R0 ⊢
    clear hW
    have f2 := blk_at R0.out.1.blk 2 _ rfl
    go_wp2
    go_loopg [23] n (fun g v wr => ∃ b : Nat, v = .int .i64 (b : Int) ∧ n - b ≤ g ∧ b ≤ n ∧ Aside0 (NewR w (w.heap.size + 1 + 1) (.slice (some ⟨w.heap.size + 1, 0, none⟩) n n) (.slice (some ⟨w.heap.size, 0, none⟩) n n) n wr b))
    case atStart => exact ⟨0, rfl, by omega, by omega, R0⟩
    case round =>
      obtain ⟨b, rfl, hbg, hbn, R⟩ := hrel
      clear f2
      have f2 := blk_at R.out.1.blk 2 _ rfl
      by_cases hlt : b < n
      · have cb := R.out.1.op.cell b (by rw [plAt_len hbn]; exact hlt)
        have fb := R.out.1.op.free b
        have hb1 : (b : Int) < (n : Int) := by omega
        have G1 := Aside0.mk (And.intro hbg (And.intro hbn hlt))
        clear hbg hbn hlt
        go_wp2
        go_roundg (n - (b + 1))
        case measure => have := G1.out; omega
        case rel => exact ⟨b + 1, by go_num, by omega, by have := G1.out; omega, ⟨R.out.step G1.out.2.2⟩⟩
      · have hbe : b = n := by omega
        subst hbe
        clear hbg hbn hlt
        go_wp2
        go_ret2
        exact R.out.done HN.out
end Go.Proofs.Ytpliaagfhjnnaaa.Heap

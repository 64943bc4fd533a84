import Derived.Test.YtpgnefojifiopaaHeapR
namespace Go.Proofs.Ytpgnefojifiopaa.Heap
open Go.RowKit Go.Proofs.YtpgnefojifiopaaW.PrintWords Go.Proofs.Ytpgnefojifiopaa.Sep Go.Proofs.Ytpgnefojifiopaa.HeapP
set_option linter.unusedVariables false

def RPopPost (w : World) (G : Nat → Prop) (q : Nat) (Has : List Bool) (ks : List Int) (e : Ending) (w' : World) : Prop :=
  ((∀ k, k < Has.length → gb Has k = false) ∧ e = .returned (.tuple #[.int .i64 0, .int .i64 0, .bool false]) ∧ RIs w' G q Has ks ∧ Chg G w w') ∨
  ∃ i, Least Has ks i ∧ e = .returned (.tuple #[.int .i64 (i : Int), .int .i64 (gi ks i), .bool true]) ∧ RPost w G q (Has.set i false) ks w'
set_option maxHeartbeats 4000000 in
set_option maxRecDepth 100000 in
theorem rpop_calls {w : World} {G : Nat → Prop} {q : Nat} {Has : List Bool} {ks : List Int} (h : RIs w G q Has ks) : Calls Try.prog 16 #[.pointer (some ⟨q, 0, none⟩)] w fun e w' => RPopPost w G q Has ks e w' := by
  obtain ⟨vh, vk, h⟩ := h
  have HN := Aside0.mk h.nn
  obtain ⟨N, hN⟩ : ∃ N, Has.length = N := ⟨_, rfl⟩
  have hkl := h.kl
  have HO := Aside0.mk h
  obtain ⟨A, c, hA⟩ : ∃ A c, vh = .slice A N c := by rw [← hN]; exact h.oh.slice
  obtain ⟨B, d, hB⟩ : ∃ B d, vk = .slice B N d := by rw [← hN, ← hkl]; exact h.ok_.slice
  subst hA hB
  have HL := Aside0.mk hN
  have HK := Aside0.mk hkl
  have b1 : (N : Int) ≤ 65536 := by have := HN.out; omega
  clear h hN hkl
  go_enter Try.func16, Try.ntmps16
  go_wp2
  go_loopg [5, 6] N (fun g u v wr => ∃ (i : Nat) (b : Int) (n : Nat), v = .int .i64 (i : Int) ∧ u = .int .i64 b ∧ N - i ≤ g ∧ i ≤ N ∧ Aside0 (BestAt Has ks i b) ∧ wr = w.drewN n)
  case atStart => exact ⟨0, -1, 0, rfl, rfl, by omega, by omega, ⟨.inl ⟨rfl, fun k hk => absurd hk (by omega)⟩⟩, rfl⟩
  case round =>
    obtain ⟨i, b, n, rfl, rfl, hg, hi, hn, rfl⟩ := hrel
    have f0 := blk_at HO.out.blk 0 _ rfl
    have f1 := blk_at HO.out.blk 1 _ rfl
    by_cases hlt : i < N
    · obtain ⟨ga, ca, ea, _⟩ := HO.out.oh.form (by have := HL.out; omega)
      obtain ⟨gb', cb, eb, _⟩ := HO.out.ok_.form (by have := HL.out; have := HK.out; omega)
      injection ea with ea _ _
      injection eb with eb _ _
      subst ea eb
      have ci := HO.out.oh.cell i (by have := HL.out; omega)
      have ki := HO.out.ok_.cell i (by have := HL.out; have := HK.out; omega)
      obtain ⟨x, hx⟩ : ∃ x, gi ks i = x := ⟨_, rfl⟩
      rw [show ks.getD i 0 = x from hx] at ki
      have HX := Aside0.mk hx
      have GG := Aside0.mk (And.intro hg (And.intro hi hlt))
      have d1 : (i : Int) < (N : Int) := by omega
      clear hg hi hlt hx
      cases hb : gb Has i with
      | false =>
        rw [show Has.getD i false = false from hb] at ci
        have HB := Aside0.mk hb
        clear hb
        go_wp2
        go_quiet (fail)
        go_wp2
        go_roundg (N - (i + 1))
        case measure => have := GG.out; omega
        case rel => exact ⟨i + 1, b, _, by go_num, rfl, by omega, by have := GG.out; omega, ⟨hn.out.no HB.out⟩, rfl⟩
      | true =>
        rw [show Has.getD i false = true from hb] at ci
        have HB := Aside0.mk hb
        clear hb
        rcases hn.out with ⟨hb0, _⟩ | ⟨m, hm, hml, hmb, _⟩
        · subst hb0
          go_wp2
          go_quiet (fail)
          go_wp2
          go_roundg (N - (i + 1))
          case measure => have := GG.out; omega
          case rel => exact ⟨i + 1, (i : Int), _, by go_num, rfl, by omega, by have := GG.out; omega, ⟨hn.out.first HB.out⟩, rfl⟩
        · subst hm
          have km := HO.out.ok_.cell m (by have := HL.out; have := HK.out; have := GG.out; omega)
          obtain ⟨y, hy⟩ : ∃ y, gi ks m = y := ⟨_, rfl⟩
          rw [show ks.getD m 0 = y from hy] at km
          have HY := Aside0.mk hy
          have d2 : (m : Int) < (N : Int) := by have := GG.out; omega
          have d3 : decide ((m : Int) < 0) = false := decide_eq_false (by omega)
          clear hml hmb hy
          by_cases hxy : x < y
          · go_wp2
            go_quiet (fail)
            go_wp2
            go_roundg (N - (i + 1))
            case measure => have := GG.out; omega
            case rel => exact ⟨i + 1, (i : Int), _, by go_num, rfl, by omega, by have := GG.out; omega, ⟨hn.out.better HB.out (by rw [HX.out, HY.out]; omega)⟩, rfl⟩
          · have d4 : decide (x < y) = false := decide_eq_false hxy
            go_wp2
            go_quiet (fail)
            go_wp2
            go_roundg (N - (i + 1))
            case measure => have := GG.out; omega
            case rel => exact ⟨i + 1, (m : Int), _, by go_num, rfl, by omega, by have := GG.out; omega, ⟨hn.out.keep HB.out (by rw [HX.out, HY.out]; omega)⟩, rfl⟩
    · obtain rfl : i = N := by omega
      have HO2 : Aside0 (RObj (w.drewN n) G q (.slice A i c) (.slice B i d) Has ks) := by
        obtain ⟨a1, a2, a3, a4, a5, a6, a7, a8, a9⟩ := HO.out
        exact ⟨⟨a1, a2.blocks (fun _ _ => rfl), a3.blocks (fun _ _ => rfl), a4, a5, a6, a7, a8, a9⟩⟩
      clear hg hi hlt
      rcases hn.out with ⟨hb0, hnone⟩ | ⟨m, hm, hml, hmb, hmin⟩
      · subst hb0
        have NN := Aside0.mk hnone
        clear hnone
        go_wp2
        go_ret3
        exact .inl ⟨by rw [HL.out]; exact NN.out, rfl, ⟨_, _, HO2.out⟩, (Chg.refl _ _).drewN _⟩
      · subst hm
        obtain ⟨ga, ca, ea, _⟩ := HO.out.oh.form (by have := HL.out; omega)
        obtain ⟨gb', cb, eb, _⟩ := HO.out.ok_.form (by have := HL.out; have := HK.out; omega)
        injection ea with ea _ _
        injection eb with eb _ _
        subst ea eb
        have cm := HO.out.oh.cell m (by have := HL.out; omega)
        have zm := HO.out.oh.free m
        have km := HO.out.ok_.cell m (by have := HL.out; have := HK.out; omega)
        have ne : ga ≠ gb' := HO.out.hk_ne rfl rfl
        have ne' := ne.symm
        have n1 : ga ≠ q := own_ne_type HO.out.oh HO.out.blk (by decide) rfl
        have n2 := n1.symm
        obtain ⟨y, hy⟩ : ∃ y, gi ks m = y := ⟨_, rfl⟩
        rw [show ks.getD m 0 = y from hy] at km
        have hL : Least Has ks m := ⟨by rw [HL.out]; exact hml, hmb, fun k hk hb => hmin k (by rw [← HL.out]; exact hk) hb⟩
        have LL := Aside0.mk (And.intro hL hy)
        have d2 : (m : Int) < (i : Int) := by omega
        have d3 : ¬ ((m : Int) < 0) := by omega
        clear hml hmb hmin hL hy
        go_wp2
        go_quiet (fail)
        go_wp2
        go_ret3
        refine .inr ⟨m, LL.out.1, by rw [LL.out.2]; rfl, ?_⟩
        exact RPost.drewN ⟨(HO2.out.held m false).1, ((Chg.refl G w).drewN n).trans (HO2.out.held m false).2 (fun _ _ h => h)⟩ _
theorem own_twoB {W : World} {g n : Nat} (h : W.heap[g]? = some (.cells (madeCells #[.bool false] n) 4 (0, 0))) (hn : n ≤ 65536) : OwnB 4 W (.slice (some ⟨g, 0, none⟩) n n) (List.replicate n false) := by
  refine ⟨by simp [bools], .inr ⟨g, n, _, by simp, Nat.zero_le _, h, by simp, by unfold maxLen; omega, by simp [size_madeCells], ?_⟩⟩
  have hl : (madeCells #[Value.bool false] n).toList = bools (List.replicate n false) := by
    apply List.ext_getElem
    · simp [bools, madeCells]
    · intro i h1 h2
      simp [bools, madeCells, Nat.mod_one]
  rw [hl]
  simp [bools]
def RNewPost (w : World) (n : Nat) (e : Ending) (w' : World) : Prop := ∃ q G, e = .returned (.pointer (some ⟨q, 0, none⟩)) ∧ RIs w' G q (List.replicate n false) (List.replicate n 0) ∧ Below w.heap.size w w' ∧ ∀ k, G k → w.heap.size ≤ k
theorem rnew_done {w : World} {n : Nat} (o1 o2 : Obj) (gh gk : Nat) (hn : n ≤ 65536) (h1 : (gh = w.heap.size ∧ gk = w.heap.size + 1 ∧ o1 = .cells (madeCells #[.bool false] n) 4 ∧ o2 = .cells (madeCells #[.int .i64 0] n) 3) ∨ (gk = w.heap.size ∧ gh = w.heap.size + 1 ∧ o1 = .cells (madeCells #[.int .i64 0] n) 3 ∧ o2 = .cells (madeCells #[.bool false] n) 4)) :
    RNewPost w n (.returned (.pointer (some ⟨w.heap.size + 1 + 1, 0, none⟩))) ((((w.alloc o1).alloc o2).alloc (.cells #[.slice (some ⟨gh, 0, none⟩) n n, .slice (some ⟨gk, 0, none⟩) n n] 52)).drew) := by
  have b0 : ∀ o : Obj, (((w.alloc o1).alloc o2).alloc o).heap[w.heap.size]? = some o1 := fun o => by
    rw [Below.heap_alloc _ _ _ (by simp; omega), Below.heap_alloc _ _ _ (by simp)]
    exact heap_alloc_new w _
  have b1 : ∀ o : Obj, (((w.alloc o1).alloc o2).alloc o).heap[w.heap.size + 1]? = some o2 := fun o => by
    rw [Below.heap_alloc _ _ _ (by simp)]
    have := heap_alloc_new (w.alloc o1) o2
    simpa using this
  have b2 : ∀ o : Obj, (((w.alloc o1).alloc o2).alloc o).heap[w.heap.size + 1 + 1]? = some o := fun o => by
    have := heap_alloc_new ((w.alloc o1).alloc o2) o
    simpa using this
  have bb : ∀ o : Obj, Below w.heap.size w ((((w.alloc o1).alloc o2).alloc o).drew) := fun o => ((((Below.refl _ _).alloc (Nat.le_refl _) _).alloc (by simp) _).alloc (by simp; omega) _).drew
  refine ⟨_, fun k => w.heap.size ≤ k ∧ k < w.heap.size + 3, rfl, ⟨_, _, b2 _, ?_, ?_, by simp, by simpa using hn, ⟨by omega, by omega⟩, fun k hk => ?_, fun k hk => ?_, fun k hk => ?_⟩, bb _, fun k hk => hk.1⟩
  · rcases h1 with ⟨rfl, rfl, rfl, rfl⟩ | ⟨rfl, rfl, rfl, rfl⟩
    · exact own_twoB (b0 _) hn
    · exact own_twoB (b1 _) hn
  · rcases h1 with ⟨rfl, rfl, rfl, rfl⟩ | ⟨rfl, rfl, rfl, rfl⟩
    · exact own_two (b1 _) hn
    · exact own_two (b0 _) hn
  · rw [ob hk]; rcases h1 with ⟨rfl, rfl, _⟩ | ⟨rfl, rfl, _⟩ <;> constructor <;> omega
  · rw [ob hk]; rcases h1 with ⟨rfl, rfl, _⟩ | ⟨rfl, rfl, _⟩ <;> constructor <;> omega
  · show k < ((((w.alloc o1).alloc o2).alloc _).drew).heap.size
    simp [World.drew]
    omega
set_option maxHeartbeats 2000000 in
theorem rnew_calls (n : Nat) (w : World) (hn : n ≤ 65536) : Calls Try.prog 12 #[.int .i64 (n : Int)] w fun e w' => RNewPost w n e w' := by
  have hmk := print_make (P := Try.prog) 22 3 .i64 8 Try.underlying22 infoInt (by omega) n (by omega)
  have hmb := fun W => Go.run_make_row' (P := Try.prog) 29 4 (.bool false) 1 Try.underlying29 infoBool rfl .i64 .i64 n (by omega) (by omega) W
  have HN := Aside0.mk hn
  clear hn
  go_enter Try.func12, Try.ntmps12
  go_wp2
  go_region
  · go_wp2
    go_ret
    exact rnew_done _ _ _ _ HN.out (.inl ⟨rfl, rfl, rfl, rfl⟩)
  · go_wp2
    go_ret
    exact rnew_done _ _ _ _ HN.out (.inr ⟨rfl, rfl, rfl, rfl⟩)
end Go.Proofs.Ytpgnefojifiopaa.Heap

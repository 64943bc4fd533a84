import Derived.Test.YtpliaagfhjnnaaaEvB
import Derived.Deep.Cut
import Derived.Deep.RegionHeld3
namespace Go.Proofs.Ytpliaagfhjnnaaa.Ev
open Go.RowKit Go.Proofs.YtpliaagfhjnnaaaW.PrintWords Go.Proofs.Ytpliaagfhjnnaaa.Sep Go.Proofs.Ytpliaagfhjnnaaa.HeapP Go.Proofs.Ytpliaagfhjnnaaa.Heap Go.Proofs.Ytpliaagfhjnnaaa.EvP
set_option linter.unusedVariables false

set_option maxHeartbeats 1000000 in
theorem rank_calls (x : EvP.Ev) (w : World) (ht : 0 ≤ x.time ∧ x.time ≤ 1073741824) (hi : 0 ≤ x.id ∧ x.id < 4294967296) : Calls Try.prog 24 #[.agg #[.int .i64 x.id, .int .i64 x.time, .int .i64 x.data]] w fun e w' => e = .returned (.int .i64 (rank x)) ∧ w' = w.alloc (.cells #[.int .i64 x.id, .int .i64 x.time, .int .i64 x.data] 60) := by
  have ho := rank_or x.time x.id ht hi
  rw [show x.time * 4294967296 + x.id = rank x from rfl] at ho
  obtain ⟨r, hr⟩ : ∃ r, rank x = r := ⟨_, rfl⟩
  rw [hr] at ho ⊢
  obtain ⟨i, t, d⟩ := x
  simp only at ho ht hi ⊢
  obtain ⟨m, hm⟩ : ∃ m, t * 4294967296 = m := ⟨_, rfl⟩
  have hm2 : wrap64 (t * 4294967296) = m := by unfold wrap64; omega
  rw [hm] at ho
  clear hr ht hi hm
  go_enter Try.func24, Try.ntmps24
  go_wp2
  go_ret
  exact ⟨by first | rfl | simp [*], rfl⟩
theorem qlen_nil (w : World) : Calls Try.prog 13 #[.pointer none] w fun e w' => e = .returned (.int .i64 0) ∧ w = w' := by
  go_enter Try.func13, Try.ntmps13
  go_wp2
  go_ret
  exact ⟨rfl, rfl⟩
theorem now_nil (w : World) : Calls Try.prog 15 #[.pointer none] w fun e w' => e = .returned (.int .i64 0) ∧ w = w' := by
  go_enter Try.func15, Try.ntmps15
  go_wp2
  go_ret
  exact ⟨rfl, rfl⟩
theorem peek_nil (w : World) : Calls Try.prog 19 #[.pointer none] w fun e w' => e = .returned (.tuple #[.int .i64 0, .bool false]) ∧ w = w' := by
  go_enter Try.func19, Try.ntmps19
  go_wp2
  go_ret2
  exact ⟨rfl, rfl⟩
theorem next_nil (w : World) : Calls Try.prog 12 #[.pointer none] w fun e w' => e = .returned (.tuple #[.int .i64 0, .int .i64 0, .bool false]) ∧ w = w' := by
  go_enter Try.func12, Try.ntmps12
  go_wp2
  go_ret3
  exact ⟨rfl, rfl⟩
theorem cancel_nil (id : Int) (w : World) : Calls Try.prog 14 #[.pointer none, .int .i64 id] w fun e w' => e = .returned (.int .i64 7) ∧ w = w' := by
  go_enter Try.func14, Try.ntmps14
  go_wp2
  go_ret
  exact ⟨rfl, rfl⟩
set_option maxRecDepth 100000 in
theorem add_nil (t d : Int) (w : World) : Calls Try.prog 11 #[.pointer none, .int .i64 t, .int .i64 d] w fun e w' => e = .returned (.tuple #[.int .i64 0, .int .i64 7]) ∧ w = w' := by
  go_enter Try.func11, Try.ntmps11
  go_wp2
  go_ret2
  exact ⟨rfl, rfl⟩
theorem qlen_calls {w : World} {G : Nat → Prop} {q : Nat} {E : List EvP.Ev} {last now : Int} (h : QIs w G q E last now) : Calls Try.prog 13 #[.pointer (some ⟨q, 0, none⟩)] w fun e w' => e = .returned (.int .i64 (E.length : Int)) ∧ w = w' := by
  obtain ⟨ph, b, vp, vf, F, PL, FR, Has, ks, M, c, hv, hi, _⟩ := h
  have f0 := blk_at hv.blk 0 _ rfl
  rw [← hi.cnt]
  have H := Aside0.mk hv.hp
  clear hv hi
  go_enter Try.func13, Try.ntmps13
  go_wp2_with (go_at_call 22; (with_reducible refine (len_calls H.out).mono ?_); rintro e w1 ⟨rfl, h1⟩; obtain rfl := h1.symm)
  go_ret
  exact ⟨rfl, rfl⟩
theorem now_calls {w : World} {G : Nat → Prop} {q : Nat} {E : List EvP.Ev} {last now : Int} (h : QIs w G q E last now) : Calls Try.prog 15 #[.pointer (some ⟨q, 0, none⟩)] w fun e w' => e = .returned (.int .i64 now) ∧ w = w' := by
  obtain ⟨ph, b, vp, vf, F, PL, FR, Has, ks, M, c, hv, hi, _⟩ := h
  have f0 := blk_at hv.blk 5 _ rfl
  clear hv hi
  go_enter Try.func15, Try.ntmps15
  go_wp2
  go_ret
  exact ⟨rfl, rfl⟩
theorem qnew_done {w w1 : World} {p : Nat} (h : HAt w w1 p (List.replicate 65536 false) (List.replicate 65536 0)) : ∃ G, QIs ((w1.alloc (.map #[] 0)).alloc (.cells #[.pointer (some ⟨p, 0, none⟩), .slice none 0 0, .slice none 0 0, .map (some w1.heap.size), .int .i64 0, .int .i64 0] 58)) G (w1.heap.size + 1) [] 0 0 ∧ Below w.heap.size w ((w1.alloc (.map #[] 0)).alloc (.cells #[.pointer (some ⟨p, 0, none⟩), .slice none 0 0, .slice none 0 0, .map (some w1.heap.size), .int .i64 0, .int .i64 0] 58)) ∧ ∀ k, G k → w.heap.size ≤ k := by
  obtain ⟨F, a, b, c⟩ := h
  have hF : ∀ k, F k → k < w1.heap.size := fun k hk => by
    obtain ⟨_, _, _, _, ho, _⟩ := a
    exact ho.lt k hk
  have hs := b.size
  have mp := MapI.made (P := Try.prog) (k := 3) (e := 3) w1
  have hq : ∀ o : Obj, ((w1.alloc (.map #[] 0)).alloc o).heap[w1.heap.size + 1]? = some o := fun o => by
    have := heap_alloc_new (w1.alloc (.map #[] 0)) o
    simpa using this
  have hm : ∀ o : Obj, ((w1.alloc (.map #[] 0)).alloc o).heap[w1.heap.size]? = (w1.alloc (.map #[] 0)).heap[w1.heap.size]? := fun o => Below.heap_alloc _ _ _ (by simp)
  have hsz : ∀ o : Obj, ((w1.alloc (.map #[] 0)).alloc o).heap.size = w1.heap.size + 2 := fun o => by simp
  have hc : ∀ o : Obj, Chg (fun _ => False) w1 ((w1.alloc (.map #[] 0)).alloc o) := fun o => ((Chg.refl _ _).alloc _).alloc _
  have hb2 : ∀ o : Obj, Below w.heap.size w ((w1.alloc (.map #[] 0)).alloc o) := fun o => (b.alloc hs _).alloc (by simp; omega) _
  refine ⟨fun k => w.heap.size ≤ k ∧ k < w1.heap.size + 2, ⟨p, w1.heap.size, .slice none 0 0, .slice none 0 0, F, [], [], _, _, fun _ => none, 0, ⟨hq _, a.kept (hc _) (fun _ _ h => h), ⟨rfl, .inl ⟨rfl, rfl⟩⟩, ⟨rfl, .inl ⟨rfl, rfl⟩⟩, mp.blocks (hm _), fun hf => by have := hF _ hf; omega, (fun k hk => by cases hk), (fun k hk => by cases hk), fun hf => by have := hF _ hf; omega⟩, Inv.start, by omega, fun k hk => ?_, fun k hk => by rw [hsz]; exact hk.2⟩, hb2 _, fun k hk => hk.1⟩
  rcases hk with rfl | rfl | hf | e | e
  · omega
  · omega
  · have := hF k hf; have := c k hf; omega
  · cases e
  · cases e
def QNewPost (w : World) (e : Ending) (w' : World) : Prop := ∃ q G, e = .returned (.pointer (some ⟨q, 0, none⟩)) ∧ QIs w' G q [] 0 0 ∧ Below w.heap.size w w' ∧ ∀ k, G k → w.heap.size ≤ k
set_option maxHeartbeats 1000000 in
theorem qnew_calls (w : World) : Calls Try.prog 10 #[] w fun e w' => QNewPost w e w' := by
  have hmm := @run_makeMap Try.prog
  go_enter Try.func10, Try.ntmps10
  go_wp2_with (go_at_call 21; (with_reducible refine (new_lit w _ (Below.refl _ _) 65536 65536 rfl (Nat.le_refl _)).mono ?_); rintro e w1 ⟨p, rfl, h1⟩; have H1 := Aside0.mk h1; clear h1)
  go_ret
  obtain ⟨G, h1, h2, h3⟩ := qnew_done H1.out
  exact ⟨w1.heap.size + 1, G, rfl, h1, h2, h3⟩
end Go.Proofs.Ytpliaagfhjnnaaa.Ev

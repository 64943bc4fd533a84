import Derived.Test.YtpliaagfhjnnaaaSep
import Derived.Test.YtpliaagfhjnnaaaHeapP
import Derived.Test.YtpliaagfhjnnaaaProg
import Derived.WalkKit
import Derived.RegionTactic
import Derived.BigRegion
import Derived.Deep.QuietTactic
import Derived.BigQuiet
import Derived.Deep.LoopGhost
namespace Go.Proofs.Ytpliaagfhjnnaaa.Heap
open Go.RowKit Go.Proofs.YtpliaagfhjnnaaaW.PrintWords Go.Proofs.Ytpliaagfhjnnaaa.Sep Go.Proofs.Ytpliaagfhjnnaaa.HeapP

/-- The heap at p, its three slices, what they hold. -/
structure HeapV (w : World) (p : Nat) (vi vk vp : Value) (s : HS) : Prop where
  blk : w.heap[p]? = some (.cells #[vi, vk, vp] 68 (0, 0))
  oi : OwnI 3 w vi s.it
  ok_ : OwnI 3 w vk s.ks
  op : OwnI 3 w vp s.pl
  aik : Ap vi vk
  aip : Ap vi vp
  akp : Ap vk vp
def Foot (p : Nat) (vi vk vp : Value) (k : Nat) : Prop := k = p ∨ vi.ownBlock = some k ∨ vk.ownBlock = some k ∨ vp.ownBlock = some k
/-- Does item i come before item k? -/
def ltB (ks : List Int) (i k : Nat) : Bool := decide (gi ks i < gi ks k) || (decide (gi ks i = gi ks k) && decide (i < k))
theorem ltB_iff (ks : List Int) (i k : Nat) : ltB ks i k = true ↔ HeapP.lt ks i k := by
  unfold ltB HeapP.lt
  simp
set_option maxHeartbeats 1000000 in
theorem before_calls (i k p g c : Nat) (vi vp : Value) (ks : List Int) (w : World) (hb : w.heap[p]? = some (.cells #[vi, .slice (some ⟨g, 0, none⟩) ks.length c, vp] 68 (0, 0))) (ho : OwnI 3 w (.slice (some ⟨g, 0, none⟩) ks.length c) ks) (hi : i < ks.length) (hk : k < ks.length) :
    Calls Try.prog 34 #[.pointer (some ⟨p, 0, none⟩), .int .i64 (i : Int), .int .i64 (k : Int)] w fun e w' => e = .returned (.bool (ltB ks i k)) ∧ ∃ n, w' = w.drewN n := by
  have f1 := blk_at hb 1 _ rfl
  have ci := ho.cell i hi
  have ck := ho.cell k hk
  obtain ⟨x, hx⟩ : ∃ x, ks.getD i 0 = x := ⟨_, rfl⟩
  obtain ⟨y, hy⟩ : ∃ y, ks.getD k 0 = y := ⟨_, rfl⟩
  rw [hx] at ci
  rw [hy] at ck
  have e : ltB ks i k = (decide (x < y) || (decide (x = y) && decide (i < k))) := by unfold ltB gi; rw [hx, hy]
  rw [e]
  have E := Aside0.mk e
  clear e hx hy
  have hi' : (i : Int) < (ks.length : Int) := by omega
  have hk' : (k : Int) < (ks.length : Int) := by omega
  clear hb ho
  by_cases h1 : x < y
  · go_enter Try.func34, Try.ntmps34
    go_wp2_with fail
    go_quiet (fail)
    go_wp2
    go_ret
    exact ⟨by simp [h1], _, rfl⟩
  · have d1 : decide (x < y) = false := decide_eq_false h1
    by_cases h2 : x = y
    · subst h2
      have d2 : (x == x) = true := by simp
      go_enter Try.func34, Try.ntmps34
      go_wp2_with fail
      go_quiet (fail)
      go_wp2
      go_ret
      exact ⟨by simp, _, rfl⟩
    · have d2 : (x == y) = false := beq_eq_false_iff_ne.2 h2
      go_enter Try.func34, Try.ntmps34
      go_wp2_with fail
      go_quiet (fail)
      go_wp2
      go_ret
      exact ⟨by simp [h1, h2], _, rfl⟩
theorem Ap.of {a b : Value} {x y : Nat} (h : Ap a b) (hx : a.ownBlock = some x) (hy : b.ownBlock = some y) : x ≠ y := by
  rcases h with h | h
  · rw [h] at hx; cases hx
  · intro e; subst e; exact h (hx.trans hy.symm)
theorem ob {g n c k : Nat} (h : (Value.slice (some ⟨g, 0, none⟩) n c).ownBlock = some k) : k = g := by
  have : g = k := by simpa [Value.ownBlock] using h
  exact this.symm
theorem HeapV.far {w : World} {p : Nat} {vi vk vp : Value} {s : HS} (h : HeapV w p vi vk vp s) (k : Nat) (v : Value) (hv : v = vi ∨ v = vk ∨ v = vp) (hk : v.ownBlock = some k) : k ≠ p := by
  intro e
  subst e
  have : ∀ xs, OwnI 3 w v xs → False := fun xs ho => by
    rcases ho.2 with ⟨rfl, _⟩ | ⟨g, cap, cur, rfl, _, hh, _⟩
    · simp [Value.ownBlock] at hk
    · have : g = k := by simpa [Value.ownBlock] using hk
      subst this
      rw [h.blk] at hh
      injection hh with hh
      injection hh with _ ht
      exact absurd ht (by decide)
  rcases hv with rfl | rfl | rfl
  · exact this _ h.oi
  · exact this _ h.ok_
  · exact this _ h.op
/-- Two stores, one into the items, one into the places. -/
theorem HeapV.stored {w : World} {p gi_ ci gp cp ni np : Nat} {vk : Value} {s : HS} (h : HeapV w p (.slice (some ⟨gi_, 0, none⟩) ni ci) vk (.slice (some ⟨gp, 0, none⟩) np cp) s) (a : Nat) (i : Nat) (x y : Int) :
    HeapV ((w.setCell ⟨gi_, a, none⟩ (.int .i64 x)).setCell ⟨gp, i, none⟩ (.int .i64 y)) p (.slice (some ⟨gi_, 0, none⟩) ni ci) vk (.slice (some ⟨gp, 0, none⟩) np cp) ⟨s.it.set a x, s.ks, s.pl.set i y⟩ ∧
    Chg (Foot p (.slice (some ⟨gi_, 0, none⟩) ni ci) vk (.slice (some ⟨gp, 0, none⟩) np cp)) w ((w.setCell ⟨gi_, a, none⟩ (.int .i64 x)).setCell ⟨gp, i, none⟩ (.int .i64 y)) := by
  have n1 : gi_ ≠ p := h.far _ _ (.inl rfl) rfl
  have n2 : gp ≠ p := h.far _ _ (.inr (.inr rfl)) rfl
  have n3 : gi_ ≠ gp := Ap.of h.aip rfl rfl
  have k1 : ∀ k, k ≠ gi_ → (w.setCell ⟨gi_, a, none⟩ (.int .i64 x)).heap[k]? = w.heap[k]? := fun k hk => blk_other _ _ hk
  have k2 : ∀ k, k ≠ gp → ((w.setCell ⟨gi_, a, none⟩ (.int .i64 x)).setCell ⟨gp, i, none⟩ (.int .i64 y)).heap[k]? = (w.setCell ⟨gi_, a, none⟩ (.int .i64 x)).heap[k]? := fun k hk => blk_other _ _ hk
  have c1 : Chg (Foot p (.slice (some ⟨gi_, 0, none⟩) ni ci) vk (.slice (some ⟨gp, 0, none⟩) np cp)) w (w.setCell ⟨gi_, a, none⟩ (.int .i64 x)) := (Chg.refl _ w).setCell ⟨gi_, a, none⟩ (fun _ => .inr (.inl rfl)) _
  have o1 : OwnI 3 (w.setCell ⟨gi_, a, none⟩ (.int .i64 x)) (.slice (some ⟨gi_, 0, none⟩) ni ci) (s.it.set a x) := h.oi.store a x
  have o2 : OwnI 3 (w.setCell ⟨gi_, a, none⟩ (.int .i64 x)) (.slice (some ⟨gp, 0, none⟩) np cp) s.pl := h.op.blocks (fun k hk => k1 k (by rw [ob hk]; exact Ne.symm n3))
  have c2 : Chg (Foot p (.slice (some ⟨gi_, 0, none⟩) ni ci) vk (.slice (some ⟨gp, 0, none⟩) np cp)) w ((w.setCell ⟨gi_, a, none⟩ (.int .i64 x)).setCell ⟨gp, i, none⟩ (.int .i64 y)) := c1.setCell ⟨gp, i, none⟩ (fun _ => .inr (.inr (.inr rfl))) _
  have o3 : OwnI 3 ((w.setCell ⟨gi_, a, none⟩ (.int .i64 x)).setCell ⟨gp, i, none⟩ (.int .i64 y)) (.slice (some ⟨gp, 0, none⟩) np cp) (s.pl.set i y) := o2.store i y
  have o4 : OwnI 3 ((w.setCell ⟨gi_, a, none⟩ (.int .i64 x)).setCell ⟨gp, i, none⟩ (.int .i64 y)) (.slice (some ⟨gi_, 0, none⟩) ni ci) (s.it.set a x) := o1.blocks (fun k hk => k2 k (by rw [ob hk]; exact n3))
  generalize (w.setCell ⟨gi_, a, none⟩ (.int .i64 x)) = W1 at *
  generalize (W1.setCell ⟨gp, i, none⟩ (.int .i64 y)) = W2 at *
  refine ⟨⟨?_, o4, ?_, o3, h.aik, h.aip, h.akp⟩, c2⟩
  · exact (k2 _ (Ne.symm n2)).trans ((k1 _ (Ne.symm n1)).trans h.blk)
  · exact h.ok_.blocks (fun k hk => (k2 k (Ap.of h.akp hk rfl)).trans (k1 k (Ne.symm (Ap.of h.aik rfl hk))))
theorem HeapV.drew {w : World} {p : Nat} {vi vk vp : Value} {s : HS} (h : HeapV w p vi vk vp s) : HeapV w.drew p vi vk vp s := ⟨h.blk, h.oi.blocks (fun _ _ => rfl), h.ok_.blocks (fun _ _ => rfl), h.op.blocks (fun _ _ => rfl), h.aik, h.aip, h.akp⟩
theorem HeapV.drewN {w : World} {p : Nat} {vi vk vp : Value} {s : HS} (h : HeapV w p vi vk vp s) (n : Nat) : HeapV (w.drewN n) p vi vk vp s := ⟨h.blk, h.oi.blocks (fun _ _ => rfl), h.ok_.blocks (fun _ _ => rfl), h.op.blocks (fun _ _ => rfl), h.aik, h.aip, h.akp⟩
set_option maxHeartbeats 1000000 in
theorem put_calls (i a p : Nat) (vi vk vp : Value) (s : HS) (w : World) (h : HeapV w p vi vk vp s) (ha : a < s.it.length) (hi : i < s.pl.length) :
    Calls Try.prog 35 #[.pointer (some ⟨p, 0, none⟩), .int .i64 (i : Int), .int .i64 (a : Int)] w fun e w' => e = .returned (.tuple #[]) ∧ HeapV w' p vi vk vp (put s i a) ∧ Chg (Foot p vi vk vp) w w' := by
  obtain ⟨g1, c1, rfl, _⟩ := h.oi.form (by omega)
  obtain ⟨g2, c2, rfl, _⟩ := h.op.form (by omega)
  have f0 := blk_at h.blk 0 _ rfl
  have f2 := blk_at h.blk 2 _ rfl
  have ca := h.oi.cell a ha
  have cp := h.op.cell i hi
  have fa := h.oi.free a
  have fp := h.op.free i
  have ne : g1 ≠ g2 := Ap.of h.aip rfl rfl
  have ne' : g2 ≠ g1 := Ne.symm ne
  have ha' : (a : Int) < (s.it.length : Int) := by omega
  have hi' : (i : Int) < (s.pl.length : Int) := by omega
  have H := Aside0.mk h
  clear h
  go_enter Try.func35, Try.ntmps35
  go_wp2_with fail
  go_region
  all_goals go_end0
  all_goals exact ⟨rfl, (H.out.stored a i _ _).1.drew, (H.out.stored a i _ _).2.drew⟩
end Go.Proofs.Ytpliaagfhjnnaaa.Heap

import Derived.Test.YtpgnefojifiopaaHeapJ
import Derived.Deep.OwnRows
namespace Go.Proofs.Ytpgnefojifiopaa.Heap
open Go.RowKit Go.Proofs.YtpgnefojifiopaaW.PrintWords Go.Proofs.Ytpgnefojifiopaa.Sep Go.Proofs.Ytpgnefojifiopaa.HeapP
set_option linter.unusedVariables false

/-! The reference's heap. -/
theorem infoBool : (Try.prog.info? 4).map (fun i => (i.zero, i.size, i.bytes)) = some (some (.bool false), 1, 1) := by kernel_rfl
structure RObj (w : World) (G : Nat → Prop) (q : Nat) (vh vk : Value) (Has : List Bool) (ks : List Int) : Prop where
  blk : w.heap[q]? = some (.cells #[vh, vk] 52 (0, 0))
  oh : OwnB 4 w vh Has
  ok_ : OwnI 3 w vk ks
  kl : ks.length = Has.length
  nn : Has.length ≤ 65536
  fq : G q
  fh : ∀ k, vh.ownBlock = some k → G k
  fk : ∀ k, vk.ownBlock = some k → G k
  lt : ∀ k, G k → k < w.heap.size
def RIs (w : World) (G : Nat → Prop) (q : Nat) (Has : List Bool) (ks : List Int) : Prop := ∃ vh vk, RObj w G q vh vk Has ks
theorem own_ne_type {w : World} {g p : Nat} {e t : TypeId} {v : Value} {cs : Array Value} {n : Nat} {xs : List Value} (h : w.ownsRow 0 e 1 v n xs) (hb : w.heap[p]? = some (.cells cs t (0, 0))) (hne : e ≠ t) (hk : v.ownBlock = some g) : g ≠ p := by
  intro e1
  subst e1
  rcases h.2 with ⟨rfl, _⟩ | ⟨g', cap, cur, rfl, _, hh, _⟩
  · simp [Value.ownBlock] at hk
  · have : g' = g := by simpa [Value.ownBlock] using hk
    subst this
    rw [hb] at hh
    injection hh with hh
    injection hh with _ ht
    exact hne ht.symm
theorem RObj.hk_ne {w : World} {G : Nat → Prop} {q : Nat} {vh vk : Value} {Has : List Bool} {ks : List Int} (h : RObj w G q vh vk Has ks) {a b : Nat} (ha : vh.ownBlock = some a) (hb : vk.ownBlock = some b) : a ≠ b := by
  rcases own_type_ne h.oh h.ok_ (by decide) with e | e
  · rw [e] at ha; cases ha
  · intro c; subst c; exact e (ha.trans hb.symm)
theorem RIs.drewN {w : World} {G : Nat → Prop} {q : Nat} {Has : List Bool} {ks : List Int} (h : RIs w G q Has ks) (n : Nat) : RIs (w.drewN n) G q Has ks := by
  obtain ⟨vh, vk, a, b, c, d, e, f, g, i, j⟩ := h
  exact ⟨vh, vk, a, b.blocks (fun _ _ => rfl), c.blocks (fun _ _ => rfl), d, e, f, g, i, j⟩
theorem RIs.kept {w w1 : World} {F G : Nat → Prop} {q : Nat} {Has : List Bool} {ks : List Int} (h : RIs w G q Has ks) (hc : Chg F w w1) (hd : ∀ k, G k → ¬ F k) : RIs w1 G q Has ks := by
  obtain ⟨vh, vk, a, b, c, d, e, f, g, i, j⟩ := h
  have kb : ∀ k, G k → w1.heap[k]? = w.heap[k]? := fun k hk => hc.block k (j k hk) (hd k hk)
  exact ⟨vh, vk, (kb q f).trans a, b.blocks (fun k hk => kb k (g k hk)), c.blocks (fun k hk => kb k (i k hk)), d, e, f, g, i, fun k hk => Nat.lt_of_lt_of_le (j k hk) hc.size⟩
theorem in_yes {w : World} {G : Nat → Prop} {q : Nat} {Has : List Bool} {ks : List Int} (h : RIs w G q Has ks) (i : Nat) (hi : i < Has.length) : Calls Try.prog 25 #[.pointer (some ⟨q, 0, none⟩), .int .i64 (i : Int)] w fun e w' => e = .returned (.bool true) ∧ w = w' := by
  obtain ⟨vh, vk, h⟩ := h
  obtain ⟨A, c, rfl⟩ := h.oh.slice
  have f0 := blk_at h.blk 0 _ rfl
  have d1 : (0 : Int) ≤ (i : Int) := by omega
  have d2 : (i : Int) < (Has.length : Int) := by omega
  clear h hi
  go_enter Try.func25, Try.ntmps25
  go_wp2
  go_ret
  exact ⟨rfl, rfl⟩
theorem in_no {w : World} {G : Nat → Prop} {q : Nat} {Has : List Bool} {ks : List Int} (h : RIs w G q Has ks) (i : Int) (hi : i < 0 ∨ (Has.length : Int) ≤ i) : Calls Try.prog 25 #[.pointer (some ⟨q, 0, none⟩), .int .i64 i] w fun e w' => e = .returned (.bool false) ∧ w = w' := by
  obtain ⟨vh, vk, h⟩ := h
  obtain ⟨A, c, rfl⟩ := h.oh.slice
  have f0 := blk_at h.blk 0 _ rfl
  clear h
  rcases hi with hi | hi
  · have d1 : ¬ (0 : Int) ≤ i := by omega
    have d2 : decide ((0 : Int) ≤ i) = false := decide_eq_false d1
    go_enter Try.func25, Try.ntmps25
    go_wp2
    go_ret
    exact ⟨rfl, rfl⟩
  · have d1 : (0 : Int) ≤ i := by omega
    have d2 : decide (i < (Has.length : Int)) = false := decide_eq_false (by omega)
    clear hi
    go_enter Try.func25, Try.ntmps25
    go_wp2
    go_ret
    exact ⟨rfl, rfl⟩
theorem rset_no {w : World} {G : Nat → Prop} {q : Nat} {Has : List Bool} {ks : List Int} (h : RIs w G q Has ks) (i key : Int) (hi : i < 0 ∨ (Has.length : Int) ≤ i) : Calls Try.prog 13 #[.pointer (some ⟨q, 0, none⟩), .int .i64 i, .int .i64 key] w fun e w' => e = .returned (.int .i64 2) ∧ w = w' := by
  have H := Aside0.mk h
  have HI := Aside0.mk hi
  clear h hi
  go_enter Try.func13, Try.ntmps13
  go_wp2_with (go_at_call 25; (with_reducible refine (in_no H.out i HI.out).mono ?_); rintro e w2 ⟨rfl, rfl⟩)
  go_ret
  exact ⟨rfl, rfl⟩
/-- Two stores. -/
theorem RObj.stored {w : World} {G : Nat → Prop} {q gh ch gk ck n m : Nat} {Has : List Bool} {ks : List Int} (h : RObj w G q (.slice (some ⟨gh, 0, none⟩) n ch) (.slice (some ⟨gk, 0, none⟩) m ck) Has ks) (i : Nat) (b : Bool) (key : Int) :
    RIs ((w.setCell ⟨gh, i, none⟩ (.bool b)).setCell ⟨gk, i, none⟩ (.int .i64 key)) G q (Has.set i b) (ks.set i key) ∧ Chg G w ((w.setCell ⟨gh, i, none⟩ (.bool b)).setCell ⟨gk, i, none⟩ (.int .i64 key)) := by
  have n1 : gh ≠ q := own_ne_type h.oh h.blk (by decide) rfl
  have n2 : gk ≠ q := own_ne_type h.ok_ h.blk (by decide) rfl
  have n3 : gh ≠ gk := h.hk_ne rfl rfl
  have k1 : ∀ k, k ≠ gh → (w.setCell ⟨gh, i, none⟩ (.bool b)).heap[k]? = w.heap[k]? := fun k hk => blk_other _ _ hk
  have k2 : ∀ k, k ≠ gk → ((w.setCell ⟨gh, i, none⟩ (.bool b)).setCell ⟨gk, i, none⟩ (.int .i64 key)).heap[k]? = (w.setCell ⟨gh, i, none⟩ (.bool b)).heap[k]? := fun k hk => blk_other _ _ hk
  have c1 : Chg G w (w.setCell ⟨gh, i, none⟩ (.bool b)) := (Chg.refl _ w).setCell ⟨gh, i, none⟩ (fun _ => h.fh gh rfl) _
  have c2 : Chg G w ((w.setCell ⟨gh, i, none⟩ (.bool b)).setCell ⟨gk, i, none⟩ (.int .i64 key)) := c1.setCell ⟨gk, i, none⟩ (fun _ => h.fk gk rfl) _
  have o1 : OwnB 4 (w.setCell ⟨gh, i, none⟩ (.bool b)) (.slice (some ⟨gh, 0, none⟩) n ch) (Has.set i b) := h.oh.store i b
  have o2 : OwnI 3 (w.setCell ⟨gh, i, none⟩ (.bool b)) (.slice (some ⟨gk, 0, none⟩) m ck) ks := h.ok_.blocks (fun k hk => k1 k (by rw [ob hk]; exact Ne.symm n3))
  have o3 : OwnI 3 ((w.setCell ⟨gh, i, none⟩ (.bool b)).setCell ⟨gk, i, none⟩ (.int .i64 key)) (.slice (some ⟨gk, 0, none⟩) m ck) (ks.set i key) := o2.store i key
  have o4 : OwnB 4 ((w.setCell ⟨gh, i, none⟩ (.bool b)).setCell ⟨gk, i, none⟩ (.int .i64 key)) (.slice (some ⟨gh, 0, none⟩) n ch) (Has.set i b) := o1.blocks (fun k hk => k2 k (by rw [ob hk]; exact n3))
  generalize (w.setCell ⟨gh, i, none⟩ (.bool b)) = W1 at *
  generalize (W1.setCell ⟨gk, i, none⟩ (.int .i64 key)) = W2 at *
  exact ⟨⟨_, _, (k2 _ (Ne.symm n2)).trans ((k1 _ (Ne.symm n1)).trans h.blk), o4, o3, by simpa using h.kl, by simpa using h.nn, h.fq, h.fh, h.fk, fun k hk => Nat.lt_of_lt_of_le (h.lt k hk) c2.size⟩, c2⟩
/-- One store into what is held. -/
theorem RObj.held {w : World} {G : Nat → Prop} {q gh ch n : Nat} {vk : Value} {Has : List Bool} {ks : List Int} (h : RObj w G q (.slice (some ⟨gh, 0, none⟩) n ch) vk Has ks) (i : Nat) (b : Bool) :
    RIs (w.setCell ⟨gh, i, none⟩ (.bool b)) G q (Has.set i b) ks ∧ Chg G w (w.setCell ⟨gh, i, none⟩ (.bool b)) := by
  have n1 : gh ≠ q := own_ne_type h.oh h.blk (by decide) rfl
  have k1 : ∀ k, k ≠ gh → (w.setCell ⟨gh, i, none⟩ (.bool b)).heap[k]? = w.heap[k]? := fun k hk => blk_other _ _ hk
  have c1 : Chg G w (w.setCell ⟨gh, i, none⟩ (.bool b)) := (Chg.refl _ w).setCell ⟨gh, i, none⟩ (fun _ => h.fh gh rfl) _
  have o1 : OwnB 4 (w.setCell ⟨gh, i, none⟩ (.bool b)) (.slice (some ⟨gh, 0, none⟩) n ch) (Has.set i b) := h.oh.store i b
  have o2 : OwnI 3 (w.setCell ⟨gh, i, none⟩ (.bool b)) vk ks := h.ok_.blocks (fun k hk => k1 k (fun e => h.hk_ne rfl hk e.symm))
  generalize (w.setCell ⟨gh, i, none⟩ (.bool b)) = W1 at *
  exact ⟨⟨_, _, (k1 _ (Ne.symm n1)).trans h.blk, o1, o2, by simpa using h.kl, by simpa using h.nn, h.fq, h.fh, h.fk, fun k hk => Nat.lt_of_lt_of_le (h.lt k hk) c1.size⟩, c1⟩
def RPost (w : World) (G : Nat → Prop) (q : Nat) (Has : List Bool) (ks : List Int) (w' : World) : Prop := RIs w' G q Has ks ∧ Chg G w w'
theorem RPost.drew {w : World} {G : Nat → Prop} {q : Nat} {Has : List Bool} {ks : List Int} {w' : World} (h : RIs w' G q Has ks ∧ Chg G w w') : RPost w G q Has ks w'.drew := ⟨h.1.drewN 1, h.2.drew⟩
theorem RPost.drewN {w : World} {G : Nat → Prop} {q : Nat} {Has : List Bool} {ks : List Int} {w' : World} (h : RIs w' G q Has ks ∧ Chg G w w') (n : Nat) : RPost w G q Has ks (w'.drewN n) := ⟨h.1.drewN n, h.2.drewN n⟩
set_option maxHeartbeats 1000000 in
theorem rset_yes {w : World} {G : Nat → Prop} {q : Nat} {Has : List Bool} {ks : List Int} (h : RIs w G q Has ks) (i : Nat) (key : Int) (hi : i < Has.length) : Calls Try.prog 13 #[.pointer (some ⟨q, 0, none⟩), .int .i64 (i : Int), .int .i64 key] w fun e w' => e = .returned (.int .i64 0) ∧ RPost w G q (Has.set i true) (ks.set i key) w' := by
  obtain ⟨vh, vk, h⟩ := h
  have hkl := h.kl
  obtain ⟨gh, ch, rfl, _⟩ := h.oh.form (by omega)
  obtain ⟨gk, ck, rfl, _⟩ := h.ok_.form (by omega)
  have f0 := blk_at h.blk 0 _ rfl
  have f1 := blk_at h.blk 1 _ rfl
  have c0 := h.oh.cell i hi
  have c1 := h.ok_.cell i (by omega)
  have z0 := h.oh.free i
  have z1 := h.ok_.free i
  have ne : gh ≠ gk := h.hk_ne rfl rfl
  have ne' := ne.symm
  have d1 : (i : Int) < (Has.length : Int) := by omega
  have d2 : (i : Int) < (ks.length : Int) := by omega
  have H := Aside0.mk h
  have HR : Aside0 (RIs w G q Has ks) := ⟨⟨_, _, h⟩⟩
  have HI := Aside0.mk hi
  clear h hi hkl
  go_enter Try.func13, Try.ntmps13
  go_wp2_with (go_at_call 25; (with_reducible refine (in_yes HR.out i HI.out).mono ?_); rintro e w2 ⟨rfl, rfl⟩)
  go_region
  all_goals go_wp2
  all_goals go_ret
  all_goals exact ⟨rfl, RPost.drew (H.out.stored i true key)⟩
theorem rremove_no {w : World} {G : Nat → Prop} {q : Nat} {Has : List Bool} {ks : List Int} (h : RIs w G q Has ks) (i : Int) (hi : i < 0 ∨ (Has.length : Int) ≤ i) : Calls Try.prog 15 #[.pointer (some ⟨q, 0, none⟩), .int .i64 i] w fun e w' => e = .returned (.int .i64 2) ∧ w = w' := by
  have H := Aside0.mk h
  have HI := Aside0.mk hi
  clear h hi
  go_enter Try.func15, Try.ntmps15
  go_wp2_with (go_at_call 25; (with_reducible refine (in_no H.out i HI.out).mono ?_); rintro e w2 ⟨rfl, rfl⟩)
  go_ret
  exact ⟨rfl, rfl⟩
theorem rremove_none {w : World} {G : Nat → Prop} {q : Nat} {Has : List Bool} {ks : List Int} (h : RIs w G q Has ks) (i : Nat) (hi : i < Has.length) (hb : gb Has i = false) : Calls Try.prog 15 #[.pointer (some ⟨q, 0, none⟩), .int .i64 (i : Int)] w fun e w' => e = .returned (.int .i64 8) ∧ w = w' := by
  obtain ⟨vh, vk, h⟩ := h
  obtain ⟨gh, ch, rfl, _⟩ := h.oh.form (by omega)
  have f0 := blk_at h.blk 0 _ rfl
  have c0 := h.oh.cell i hi
  rw [show Has.getD i false = false from hb] at c0
  have d1 : (i : Int) < (Has.length : Int) := by omega
  have H := Aside0.mk h
  have HR : Aside0 (RIs w G q Has ks) := ⟨⟨_, _, h⟩⟩
  have HI := Aside0.mk hi
  clear h hi hb
  go_enter Try.func15, Try.ntmps15
  go_wp2_with (go_at_call 25; (with_reducible refine (in_yes HR.out i HI.out).mono ?_); rintro e w2 ⟨rfl, rfl⟩)
  go_ret
  exact ⟨rfl, rfl⟩
theorem rremove_yes {w : World} {G : Nat → Prop} {q : Nat} {Has : List Bool} {ks : List Int} (h : RIs w G q Has ks) (i : Nat) (hi : i < Has.length) (hb : gb Has i = true) : Calls Try.prog 15 #[.pointer (some ⟨q, 0, none⟩), .int .i64 (i : Int)] w fun e w' => e = .returned (.int .i64 0) ∧ RPost w G q (Has.set i false) ks w' := by
  obtain ⟨vh, vk, h⟩ := h
  obtain ⟨gh, ch, rfl, _⟩ := h.oh.form (by omega)
  have f0 := blk_at h.blk 0 _ rfl
  have c0 := h.oh.cell i hi
  have z0 := h.oh.free i
  rw [show Has.getD i false = true from hb] at c0
  have d1 : (i : Int) < (Has.length : Int) := by omega
  have H := Aside0.mk h
  have HR : Aside0 (RIs w G q Has ks) := ⟨⟨_, _, h⟩⟩
  have HI := Aside0.mk hi
  clear h hi hb
  go_enter Try.func15, Try.ntmps15
  go_wp2_with (go_at_call 25; (with_reducible refine (in_yes HR.out i HI.out).mono ?_); rintro e w2 ⟨rfl, rfl⟩)
  go_ret
  exact ⟨rfl, H.out.held i false⟩
theorem rkey_no {w : World} {G : Nat → Prop} {q : Nat} {Has : List Bool} {ks : List Int} (h : RIs w G q Has ks) (i : Int) (hi : i < 0 ∨ (Has.length : Int) ≤ i) : Calls Try.prog 19 #[.pointer (some ⟨q, 0, none⟩), .int .i64 i] w fun e w' => e = .returned (.tuple #[.int .i64 0, .bool false]) ∧ w = w' := by
  have H := Aside0.mk h
  have HI := Aside0.mk hi
  clear h hi
  go_enter Try.func19, Try.ntmps19
  go_wp2_with (go_at_call 25; (with_reducible refine (in_no H.out i HI.out).mono ?_); rintro e w2 ⟨rfl, rfl⟩)
  go_ret2
  exact ⟨rfl, rfl⟩
theorem rkey_none {w : World} {G : Nat → Prop} {q : Nat} {Has : List Bool} {ks : List Int} (h : RIs w G q Has ks) (i : Nat) (hi : i < Has.length) (hb : gb Has i = false) : Calls Try.prog 19 #[.pointer (some ⟨q, 0, none⟩), .int .i64 (i : Int)] w fun e w' => e = .returned (.tuple #[.int .i64 0, .bool false]) ∧ w = w' := by
  obtain ⟨vh, vk, h⟩ := h
  obtain ⟨gh, ch, rfl, _⟩ := h.oh.form (by omega)
  have f0 := blk_at h.blk 0 _ rfl
  have c0 := h.oh.cell i hi
  rw [show Has.getD i false = false from hb] at c0
  have d1 : (i : Int) < (Has.length : Int) := by omega
  have H := Aside0.mk h
  have HR : Aside0 (RIs w G q Has ks) := ⟨⟨_, _, h⟩⟩
  have HI := Aside0.mk hi
  clear h hi hb
  go_enter Try.func19, Try.ntmps19
  go_wp2_with (go_at_call 25; (with_reducible refine (in_yes HR.out i HI.out).mono ?_); rintro e w2 ⟨rfl, rfl⟩)
  go_ret2
  exact ⟨rfl, rfl⟩
theorem rkey_some {w : World} {G : Nat → Prop} {q : Nat} {Has : List Bool} {ks : List Int} (h : RIs w G q Has ks) (i : Nat) (hi : i < Has.length) (hb : gb Has i = true) : Calls Try.prog 19 #[.pointer (some ⟨q, 0, none⟩), .int .i64 (i : Int)] w fun e w' => e = .returned (.tuple #[.int .i64 (gi ks i), .bool true]) ∧ w = w' := by
  obtain ⟨vh, vk, h⟩ := h
  have hkl := h.kl
  obtain ⟨gh, ch, rfl, _⟩ := h.oh.form (by omega)
  obtain ⟨gk, ck, rfl, _⟩ := h.ok_.form (by omega)
  have f0 := blk_at h.blk 0 _ rfl
  have f1 := blk_at h.blk 1 _ rfl
  have c0 := h.oh.cell i hi
  rw [show Has.getD i false = true from hb] at c0
  have c1 := h.ok_.cell i (by omega)
  obtain ⟨x, hx⟩ : ∃ x, ks.getD i 0 = x := ⟨_, rfl⟩
  rw [show gi ks i = x from hx]
  rw [hx] at c1
  have d1 : (i : Int) < (Has.length : Int) := by omega
  have d2 : (i : Int) < (ks.length : Int) := by omega
  have H := Aside0.mk h
  have HR : Aside0 (RIs w G q Has ks) := ⟨⟨_, _, h⟩⟩
  have HI := Aside0.mk hi
  clear h hi hb hkl hx
  go_enter Try.func19, Try.ntmps19
  go_wp2_with (go_at_call 25; (with_reducible refine (in_yes HR.out i HI.out).mono ?_); rintro e w2 ⟨rfl, rfl⟩)
  go_ret2
  exact ⟨rfl, rfl⟩
/-- How many of the first are held. -/
theorem count_take (xs : List Bool) (i : Nat) (hi : i < xs.length) : (xs.take (i + 1)).count true = (xs.take i).count true + (if gb xs i = true then 1 else 0) := by
  rw [List.take_succ_eq_append_getElem hi, List.count_append]
  congr 1
  simp only [gb, List.getD_eq_getElem?_getD, List.getElem?_eq_getElem hi, Option.getD_some]
  cases xs[i] <;> simp
set_option maxHeartbeats 1000000 in
theorem rlen_calls {w : World} {G : Nat → Prop} {q : Nat} {Has : List Bool} {ks : List Int} (h : RIs w G q Has ks) : Calls Try.prog 20 #[.pointer (some ⟨q, 0, none⟩)] w fun e w' => e = .returned (.int .i64 (Has.count true : Int)) ∧ w = w' := by
  obtain ⟨vh, vk, h⟩ := h
  have HN := Aside0.mk h.nn
  obtain ⟨N, hN⟩ : ∃ N, Has.length = N := ⟨_, rfl⟩
  obtain ⟨A, c, hA⟩ : ∃ A c, vh = .slice A N c := by rw [← hN]; exact h.oh.slice
  have f0 := blk_at h.blk 0 _ rfl
  rw [show #[vh, vk][0] = vh from rfl, hA] at f0
  have HC : Aside0 (∀ i, i < N → ∃ g, A = some ⟨g, 0, none⟩ ∧ w.cell? ⟨g, i, none⟩ = some (.bool (gb Has i))) := ⟨fun i hi => by
    obtain ⟨g, c', e, _⟩ := h.oh.form (by omega)
    rw [hA] at e
    injection e with e1 e2 e3
    refine ⟨g, e1, ?_⟩
    have ho := h.oh
    rw [hA, e1] at ho
    exact ho.cell i (by omega)⟩
  have HL := Aside0.mk hN
  have b1 : (N : Int) ≤ 65536 := by have := HN.out; omega
  clear h hA hN
  go_enter Try.func20, Try.ntmps20
  go_wp2
  go_loopg [3, 4] N (fun g u v wr => ∃ i n : Nat, v = .int .i64 (i : Int) ∧ u = .int .i64 (n : Int) ∧ N - i ≤ g ∧ i ≤ N ∧ Aside0 ((Has.take i).count true = n) ∧ wr = w)
  case atStart => exact ⟨0, 0, rfl, rfl, by omega, by omega, ⟨by simp⟩, rfl⟩
  case round =>
    obtain ⟨i, n, rfl, rfl, hg, hi, hn, rfl⟩ := hrel
    by_cases hlt : i < N
    · obtain ⟨gg, rfl, ci⟩ := HC.out i hlt
      have GG := Aside0.mk (And.intro hg (And.intro hi hlt))
      have d1 : (i : Int) < (N : Int) := by omega
      have b2 : (n : Int) ≤ 65536 := by
        have h1 := hn.out
        have h2 : ((Has.take i).count true) ≤ (Has.take i).length := List.count_le_length
        have h3 := List.length_take_le i Has
        omega
      have HK := count_take Has i (by have := HL.out; omega)
      cases hb : gb Has i with
      | true =>
        rw [hb] at ci HK
        have HT := Aside0.mk HK
        clear hg hi hlt hb HK
        go_wp2
        go_roundg (N - (i + 1))
        case measure => have := GG.out; omega
        case rel => exact ⟨i + 1, n + 1, by go_num, by go_num, by omega, by have := GG.out; omega, ⟨by rw [HT.out, hn.out]; simp⟩, rfl⟩
      | false =>
        rw [hb] at ci HK
        have HT := Aside0.mk HK
        clear hg hi hlt hb HK
        go_wp2
        go_roundg (N - (i + 1))
        case measure => have := GG.out; omega
        case rel => exact ⟨i + 1, n, by go_num, rfl, by omega, by have := GG.out; omega, ⟨by rw [HT.out, hn.out]; simp⟩, rfl⟩
    · obtain rfl : i = N := by omega
      clear hg hi hlt
      go_wp2
      go_ret
      have e := hn.out
      rw [List.take_of_length_le (by have := HL.out; omega)] at e
      exact ⟨by rw [e]; rfl, rfl⟩
/-- The best of the first i. -/
def BestAt (Has : List Bool) (ks : List Int) (i : Nat) (b : Int) : Prop := (b = -1 ∧ ∀ k, k < i → gb Has k = false) ∨ ∃ m : Nat, b = (m : Int) ∧ m < i ∧ gb Has m = true ∧ ∀ k, k < i → gb Has k = true → ¬ lt ks (k : Int) (m : Int)
theorem BestAt.no {Has : List Bool} {ks : List Int} {i : Nat} {b : Int} (h : BestAt Has ks i b) (hb : gb Has i = false) : BestAt Has ks (i + 1) b := by
  rcases h with ⟨e, h⟩ | ⟨m, e, hm, hb2, h⟩
  · refine .inl ⟨e, fun k hk => ?_⟩
    by_cases c : k = i
    · subst c; exact hb
    · exact h k (by omega)
  · refine .inr ⟨m, e, by omega, hb2, fun k hk hbk => ?_⟩
    by_cases c : k = i
    · subst c; rw [hb] at hbk; cases hbk
    · exact h k (by omega) hbk
theorem BestAt.first {Has : List Bool} {ks : List Int} {i : Nat} (h : BestAt Has ks i (-1)) (hb : gb Has i = true) : BestAt Has ks (i + 1) (i : Int) := by
  rcases h with ⟨e, h⟩ | ⟨m, e, _⟩
  · refine .inr ⟨i, rfl, by omega, hb, fun k hk hbk => ?_⟩
    by_cases c : k = i
    · subst c; unfold lt; omega
    · rw [h k (by omega)] at hbk; cases hbk
  · omega
theorem BestAt.better {Has : List Bool} {ks : List Int} {i m : Nat} (h : BestAt Has ks i (m : Int)) (hb : gb Has i = true) (hl : gi ks i < gi ks m) : BestAt Has ks (i + 1) (i : Int) := by
  rcases h with ⟨e, h⟩ | ⟨m', e, hm, hb2, h⟩
  · omega
  · obtain rfl : m' = m := by omega
    refine .inr ⟨i, rfl, by omega, hb, fun k hk hbk => ?_⟩
    by_cases c : k = i
    · subst c; unfold lt; omega
    · have := h k (by omega) hbk
      unfold lt at this ⊢
      simp only [Int.toNat_natCast] at this ⊢
      omega
theorem BestAt.keep {Has : List Bool} {ks : List Int} {i m : Nat} (h : BestAt Has ks i (m : Int)) (hb : gb Has i = true) (hl : ¬ gi ks i < gi ks m) : BestAt Has ks (i + 1) (m : Int) := by
  rcases h with ⟨e, h⟩ | ⟨m', e, hm, hb2, h⟩
  · omega
  · obtain rfl : m' = m := by omega
    refine .inr ⟨m', rfl, by omega, hb2, fun k hk hbk => ?_⟩
    by_cases c : k = i
    · subst c
      unfold lt
      simp only [Int.toNat_natCast]
      omega
    · exact h k (by omega) hbk
end Go.Proofs.Ytpgnefojifiopaa.Heap

import Derived.Test.YtpliaagfhjnnaaaHeapC
namespace Go.Proofs.Ytpliaagfhjnnaaa.Heap
open Go.RowKit Go.Proofs.YtpliaagfhjnnaaaW.PrintWords Go.Proofs.Ytpliaagfhjnnaaa.Sep Go.Proofs.Ytpliaagfhjnnaaa.HeapP

theorem infoInt : (Try.prog.info? 3).map (fun i => (i.zero, i.size, i.bytes)) = some (some (.int .i64 0), 1, 8) := by kernel_rfl
/-- A store into the keys. -/
theorem HeapV.key {w : World} {p g n c : Nat} {vi vp : Value} {s : HS} (h : HeapV w p vi (.slice (some ⟨g, 0, none⟩) n c) vp s) (i : Nat) (x : Int) :
    HeapV (w.setCell ⟨g, i, none⟩ (.int .i64 x)) p vi (.slice (some ⟨g, 0, none⟩) n c) vp ⟨s.it, s.ks.set i x, s.pl⟩ ∧ Chg (Foot p vi (.slice (some ⟨g, 0, none⟩) n c) vp) w (w.setCell ⟨g, i, none⟩ (.int .i64 x)) := by
  have n1 : g ≠ p := h.far _ _ (.inr (.inl rfl)) rfl
  have k1 : ∀ k, k ≠ g → (w.setCell ⟨g, i, none⟩ (.int .i64 x)).heap[k]? = w.heap[k]? := fun k hk => blk_other _ _ hk
  have c1 : Chg (Foot p vi (.slice (some ⟨g, 0, none⟩) n c) vp) w (w.setCell ⟨g, i, none⟩ (.int .i64 x)) := (Chg.refl _ w).setCell ⟨g, i, none⟩ (fun _ => .inr (.inr (.inl rfl))) _
  have o1 : OwnI 3 (w.setCell ⟨g, i, none⟩ (.int .i64 x)) (.slice (some ⟨g, 0, none⟩) n c) (s.ks.set i x) := h.ok_.store i x
  generalize (w.setCell ⟨g, i, none⟩ (.int .i64 x)) = W1 at *
  exact ⟨⟨(k1 _ (Ne.symm n1)).trans h.blk, h.oi.blocks (fun k hk => k1 k (Ap.of h.aik hk rfl)), o1, h.op.blocks (fun k hk => k1 k (Ne.symm (Ap.of h.akp rfl hk))), h.aik, h.aip, h.akp⟩, c1⟩
/-- A store into the places. -/
theorem HeapV.place {w : World} {p g n c : Nat} {vi vk : Value} {s : HS} (h : HeapV w p vi vk (.slice (some ⟨g, 0, none⟩) n c) s) (i : Nat) (x : Int) :
    HeapV (w.setCell ⟨g, i, none⟩ (.int .i64 x)) p vi vk (.slice (some ⟨g, 0, none⟩) n c) ⟨s.it, s.ks, s.pl.set i x⟩ ∧ Chg (Foot p vi vk (.slice (some ⟨g, 0, none⟩) n c)) w (w.setCell ⟨g, i, none⟩ (.int .i64 x)) := by
  have n1 : g ≠ p := h.far _ _ (.inr (.inr rfl)) rfl
  have k1 : ∀ k, k ≠ g → (w.setCell ⟨g, i, none⟩ (.int .i64 x)).heap[k]? = w.heap[k]? := fun k hk => blk_other _ _ hk
  have c1 : Chg (Foot p vi vk (.slice (some ⟨g, 0, none⟩) n c)) w (w.setCell ⟨g, i, none⟩ (.int .i64 x)) := (Chg.refl _ w).setCell ⟨g, i, none⟩ (fun _ => .inr (.inr (.inr rfl))) _
  have o1 : OwnI 3 (w.setCell ⟨g, i, none⟩ (.int .i64 x)) (.slice (some ⟨g, 0, none⟩) n c) (s.pl.set i x) := h.op.store i x
  generalize (w.setCell ⟨g, i, none⟩ (.int .i64 x)) = W1 at *
  exact ⟨⟨(k1 _ (Ne.symm n1)).trans h.blk, h.oi.blocks (fun k hk => k1 k (Ap.of h.aip hk rfl)), h.ok_.blocks (fun k hk => k1 k (Ap.of h.akp hk rfl)), o1, h.aik, h.aip, h.akp⟩, c1⟩
/-- A store of another row of items into the struct. -/
theorem HeapV.items {w w1 : World} {p : Nat} {vi vk vp v1 : Value} {s : HS} (h : HeapV w p vi vk vp s) (xs : List Int) (ho : OwnI 3 w1 v1 xs) (hg : w.grownBy w1 vi.ownBlock) (hat : v1.ownBlock = vi.ownBlock ∨ ∃ b, v1.ownBlock = some b ∧ w.heap.size ≤ b) :
    HeapV (w1.setCell ⟨p, 0, none⟩ v1) p v1 vk vp ⟨xs, s.ks, s.pl⟩ ∧ Chg (Foot p vi vk vp) w (w1.setCell ⟨p, 0, none⟩ v1) := by
  have pn : ∀ k, vi.ownBlock = some k → k ≠ p := fun k hk => h.far k _ (.inl rfl) hk
  have b1 : w1.heap[p]? = some (.cells #[vi, vk, vp] 68 (0, 0)) := (hg.block p (Array.getElem?_eq_some_iff.1 h.blk).1 (fun e => pn p e.symm rfl)).trans h.blk
  have k1 : ∀ k, k ≠ p → (w1.setCell ⟨p, 0, none⟩ v1).heap[k]? = w1.heap[k]? := fun k hk => blk_other _ _ hk
  have hn : ∀ k, v1.ownBlock = some k → k ≠ p := fun k hk => by
    rcases hat with e | ⟨b, e, hb⟩
    · exact pn k (e ▸ hk)
    · have hlt := (Array.getElem?_eq_some_iff.1 h.blk).1
      rw [hk] at e
      injection e with e
      omega
  have kk : ∀ k, vk.ownBlock = some k → w1.heap[k]? = w.heap[k]? := fun k hk => hg.block k (h.ok_.lt k hk) (fun e => Ap.of h.aik e.symm hk rfl)
  have kp : ∀ k, vp.ownBlock = some k → w1.heap[k]? = w.heap[k]? := fun k hk => hg.block k (h.op.lt k hk) (fun e => Ap.of h.aip e.symm hk rfl)
  have ap : ∀ (v : Value), (∀ k, v.ownBlock = some k → k < w.heap.size) → Ap vi v → Ap v1 v := fun v hv ha => by
    rcases hat with e | ⟨b, e, hb⟩
    · unfold Ap; rw [e]; exact ha
    · refine .inr (fun e2 => ?_)
      rw [e] at e2
      have := hv b e2.symm
      omega
  have c1 : Chg (Foot p vi vk vp) w (w1.setCell ⟨p, 0, none⟩ v1) := ((Chg.refl _ w).grown hg (fun k e _ => .inr (.inl e))).setCell ⟨p, 0, none⟩ (fun _ => .inl rfl) _
  have b2 : (w1.setCell ⟨p, 0, none⟩ v1).heap[p]? = some (.cells #[v1, vk, vp] 68 (0, 0)) := Sep.blk_set b1 0 v1
  generalize (w1.setCell ⟨p, 0, none⟩ v1) = W2 at *
  exact ⟨⟨b2, ho.blocks (fun k hk => k1 k (hn k hk)), h.ok_.blocks (fun k hk => (k1 k (h.far k _ (.inr (.inl rfl)) hk)).trans (kk k hk)), h.op.blocks (fun k hk => (k1 k (h.far k _ (.inr (.inr rfl)) hk)).trans (kp k hk)), ap vk h.ok_.lt h.aik, ap vp h.op.lt h.aip, h.akp⟩, c1⟩
/-- A heap with these items and keys. F: blocks that it may hold. -/
structure HObj (w : World) (F : Nat → Prop) (p : Nat) (vi vk vp : Value) (s : HS) (Has : List Bool) : Prop where
  hv : HeapV w p vi vk vp s
  co : Core Has s
  he : HeapP.Heap s
  ft : ∀ k, Foot p vi vk vp k → F k
  lt : ∀ k, F k → k < w.heap.size
  nn : Has.length ≤ 65536
def HIs (w : World) (F : Nat → Prop) (p : Nat) (Has : List Bool) (ks : List Int) : Prop := ∃ vi vk vp s, HObj w F p vi vk vp s Has ∧ s.ks = ks
/-- F, and what is new. -/
def Gr (F : Nat → Prop) (w w' : World) (k : Nat) : Prop := F k ∨ (w.heap.size ≤ k ∧ k < w'.heap.size)
theorem Foot.lt {w : World} {p : Nat} {vi vk vp : Value} {s : HS} (h : HeapV w p vi vk vp s) (k : Nat) (hf : Foot p vi vk vp k) : k < w.heap.size := by
  rcases hf with rfl | e | e | e
  · exact (Array.getElem?_eq_some_iff.1 h.blk).1
  · exact h.oi.lt k e
  · exact h.ok_.lt k e
  · exact h.op.lt k e
theorem HIs.drewN {w : World} {F : Nat → Prop} {p : Nat} {Has : List Bool} {ks : List Int} (h : HIs w F p Has ks) (n : Nat) : HIs (w.drewN n) F p Has ks := by
  obtain ⟨vi, vk, vp, s, ⟨a, b, c, d, e, f⟩, g⟩ := h
  exact ⟨vi, vk, vp, s, ⟨a.drewN n, b, c, d, e, f⟩, g⟩
/-- Something else has turned. -/
theorem HIs.kept {w w1 : World} {F G : Nat → Prop} {p : Nat} {Has : List Bool} {ks : List Int} (h : HIs w F p Has ks) (hc : Chg G w w1) (hd : ∀ k, F k → ¬ G k) : HIs w1 F p Has ks := by
  obtain ⟨vi, vk, vp, s, ⟨a, b, c, d, e, f⟩, g⟩ := h
  have kb : ∀ k, Foot p vi vk vp k → w1.heap[k]? = w.heap[k]? := fun k hk => hc.block k (e k (d k hk)) (hd k (d k hk))
  exact ⟨vi, vk, vp, s, ⟨⟨(kb p (.inl rfl)).trans a.blk, a.oi.blocks (fun k hk => kb k (.inr (.inl hk))), a.ok_.blocks (fun k hk => kb k (.inr (.inr (.inl hk)))), a.op.blocks (fun k hk => kb k (.inr (.inr (.inr hk)))), a.aik, a.aip, a.akp⟩, b, c, d, fun k hk => Nat.lt_of_lt_of_le (e k hk) hc.size, f⟩, g⟩
/-- What a call leaves. -/
theorem HIs.new {w w1 : World} {F : Nat → Prop} {p : Nat} {vi vk vp vi' : Value} {s s' : HS} {Has Has' : List Bool} {ks : List Int} (h : HObj w F p vi vk vp s Has) (hv : HeapV w1 p vi' vk vp s') (hc : Chg (Foot p vi vk vp) w w1) (hi : vi' = vi ∨ ∀ k, vi'.ownBlock = some k → vi.ownBlock = some k ∨ w.heap.size ≤ k) (hco : Core Has' s') (hh : HeapP.Heap s') (hk : s'.ks = ks) (hn : Has'.length = Has.length) :
    HIs w1 (Gr F w w1) p Has' ks ∧ Chg F w w1 := by
  refine ⟨⟨vi', vk, vp, s', ⟨hv, hco, hh, fun k hf => ?_, fun k hf => ?_, by rw [hn]; exact h.nn⟩, hk⟩, hc.mono (fun k _ hf => h.ft k hf)⟩
  · have hl := Foot.lt hv k hf
    rcases hf with e | e | e | e
    · exact .inl (h.ft k (.inl e))
    · rcases hi with rfl | hi
      · exact .inl (h.ft k (.inr (.inl e)))
      · rcases hi k e with q | q
        · exact .inl (h.ft k (.inr (.inl q)))
        · exact .inr ⟨q, hl⟩
    · exact .inl (h.ft k (.inr (.inr (.inl e))))
    · exact .inl (h.ft k (.inr (.inr (.inr e))))
  · rcases hf with q | q
    · exact Nat.lt_of_lt_of_le (h.lt k q) hc.size
    · exact q.2
set_option maxHeartbeats 400000 in
theorem has_nil (i : Int) (w : World) : Calls Try.prog 30 #[.pointer none, .int .i64 i] w fun e w' => e = .returned (.bool false) ∧ w' = w := by
  go_enter Try.func30, Try.ntmps30
  go_wp2
  go_ret
  exact ⟨rfl, rfl⟩
set_option maxHeartbeats 400000 in
theorem has_yes {w : World} {p : Nat} {vi vk vp : Value} {s : HS} (h : HeapV w p vi vk vp s) (i : Nat) (hi : i < s.pl.length) : Calls Try.prog 30 #[.pointer (some ⟨p, 0, none⟩), .int .i64 (i : Int)] w fun e w' => e = .returned (.bool true) ∧ w' = w := by
  obtain ⟨A, c, rfl⟩ := h.op.slice
  have f2 := blk_at h.blk 2 _ rfl
  clear h
  have d1 : (0 : Int) ≤ (i : Int) := by omega
  have d2 : (i : Int) < (s.pl.length : Int) := by omega
  go_enter Try.func30, Try.ntmps30
  go_wp2
  go_ret
  exact ⟨rfl, rfl⟩
set_option maxHeartbeats 400000 in
theorem has_no {w : World} {p : Nat} {vi vk vp : Value} {s : HS} (h : HeapV w p vi vk vp s) (i : Int) (hi : i < 0 ∨ (s.pl.length : Int) ≤ i) : Calls Try.prog 30 #[.pointer (some ⟨p, 0, none⟩), .int .i64 i] w fun e w' => e = .returned (.bool false) ∧ w' = w := by
  obtain ⟨A, c, rfl⟩ := h.op.slice
  have f2 := blk_at h.blk 2 _ rfl
  clear h
  rcases hi with hi | hi
  · have d1 : ¬ (0 : Int) ≤ i := by omega
    have d2 : decide ((0 : Int) ≤ i) = false := decide_eq_false d1
    go_enter Try.func30, Try.ntmps30
    go_wp2
    go_ret
    exact ⟨rfl, rfl⟩
  · have d1 : (0 : Int) ≤ i := by omega
    have d2 : decide (i < (s.pl.length : Int)) = false := decide_eq_false (by omega)
    clear hi
    go_enter Try.func30, Try.ntmps30
    go_wp2
    go_ret
    exact ⟨rfl, rfl⟩
set_option maxHeartbeats 400000 in
theorem len_nil (w : World) : Calls Try.prog 22 #[.pointer none] w fun e w' => e = .returned (.int .i64 0) ∧ w' = w := by
  go_enter Try.func22, Try.ntmps22
  go_wp2
  go_ret
  exact ⟨rfl, rfl⟩
set_option maxHeartbeats 400000 in
theorem len_calls {w : World} {F : Nat → Prop} {p : Nat} {Has : List Bool} {ks : List Int} (h : HIs w F p Has ks) : Calls Try.prog 22 #[.pointer (some ⟨p, 0, none⟩)] w fun e w' => e = .returned (.int .i64 (Has.count true : Int)) ∧ w' = w := by
  obtain ⟨vi, vk, vp, s, ho, _⟩ := h
  rw [← ho.co.len]
  obtain ⟨A, c, rfl⟩ := ho.hv.oi.slice
  have f2 := blk_at ho.hv.blk 0 _ rfl
  clear ho
  go_enter Try.func22, Try.ntmps22
  go_wp2
  go_ret
  exact ⟨rfl, rfl⟩
theorem set_nil (i key : Int) (w : World) : Calls Try.prog 23 #[.pointer none, .int .i64 i, .int .i64 key] w fun e w' => e = .returned (.int .i64 7) ∧ w' = w := by
  go_enter Try.func23, Try.ntmps23
  go_wp2
  go_ret
  exact ⟨rfl, rfl⟩
theorem set_no {w : World} {F : Nat → Prop} {p : Nat} {Has : List Bool} {ks : List Int} (h : HIs w F p Has ks) (i key : Int) (hi : i < 0 ∨ (Has.length : Int) ≤ i) : Calls Try.prog 23 #[.pointer (some ⟨p, 0, none⟩), .int .i64 i, .int .i64 key] w fun e w' => e = .returned (.int .i64 2) ∧ w' = w := by
  obtain ⟨vi, vk, vp, s, ho, _⟩ := h
  rw [← ho.co.pn] at hi
  have H := Aside0.mk ho.hv
  have HI := Aside0.mk hi
  clear ho hi
  go_enter Try.func23, Try.ntmps23
  go_wp2_with (go_at_call 30; refine (has_no H.out i HI.out).mono ?_; rintro e w2 ⟨rfl, rfl⟩)
  go_ret
  exact ⟨rfl, rfl⟩
theorem remove_nil (i : Int) (w : World) : Calls Try.prog 27 #[.pointer none, .int .i64 i] w fun e w' => e = .returned (.int .i64 7) ∧ w' = w := by
  go_enter Try.func27, Try.ntmps27
  go_wp2
  go_ret
  exact ⟨rfl, rfl⟩
theorem remove_no {w : World} {F : Nat → Prop} {p : Nat} {Has : List Bool} {ks : List Int} (h : HIs w F p Has ks) (i : Int) (hi : i < 0 ∨ (Has.length : Int) ≤ i) : Calls Try.prog 27 #[.pointer (some ⟨p, 0, none⟩), .int .i64 i] w fun e w' => e = .returned (.int .i64 2) ∧ w' = w := by
  obtain ⟨vi, vk, vp, s, ho, _⟩ := h
  rw [← ho.co.pn] at hi
  have H := Aside0.mk ho.hv
  have HI := Aside0.mk hi
  clear ho hi
  go_enter Try.func27, Try.ntmps27
  go_wp2_with (go_at_call 30; refine (has_no H.out i HI.out).mono ?_; rintro e w2 ⟨rfl, rfl⟩)
  go_ret
  exact ⟨rfl, rfl⟩
theorem remove_none {w : World} {F : Nat → Prop} {p : Nat} {Has : List Bool} {ks : List Int} (h : HIs w F p Has ks) (i : Nat) (hi : i < Has.length) (hb : gb Has i = false) : Calls Try.prog 27 #[.pointer (some ⟨p, 0, none⟩), .int .i64 (i : Int)] w fun e w' => e = .returned (.int .i64 8) ∧ w' = w := by
  obtain ⟨vi, vk, vp, s, ho, _⟩ := h
  have hpn := ho.co.pn
  obtain ⟨g, c, rfl, _⟩ := ho.hv.op.form (by omega)
  have f2 := blk_at ho.hv.blk 2 _ rfl
  have cp := ho.hv.op.cell i (by omega)
  rw [show s.pl.getD i 0 = -1 from ho.co.off i hi hb] at cp
  have hi' : (i : Int) < (s.pl.length : Int) := by omega
  have H := Aside0.mk ho.hv
  have HI := Aside0.mk (show i < s.pl.length by omega)
  clear ho hi hb hpn
  go_enter Try.func27, Try.ntmps27
  go_wp2_with (go_at_call 30; refine (has_yes H.out i HI.out).mono ?_; rintro e w2 ⟨rfl, rfl⟩)
  go_ret
  exact ⟨rfl, rfl⟩
end Go.Proofs.Ytpliaagfhjnnaaa.Heap

import Derived.Test.YtpliaagfhjnnaaaEvC
namespace Go.Proofs.Ytpliaagfhjnnaaa.Ev
open Go.RowKit Go.Proofs.YtpliaagfhjnnaaaW.PrintWords Go.Proofs.Ytpliaagfhjnnaaa.Sep Go.Proofs.Ytpliaagfhjnnaaa.HeapP Go.Proofs.Ytpliaagfhjnnaaa.Heap Go.Proofs.Ytpliaagfhjnnaaa.EvP
set_option linter.unusedVariables false

abbrev evAgg (x : EvP.Ev) : Value := .agg #[.int .i64 x.id, .int .i64 x.time, .int .i64 x.data]
def ForgetPost (w : World) (q ph b : Nat) (vp vf : Value) (F : Nat → Prop) (PL : List EvP.Ev) (FR : List Int) (Has : List Bool) (ks : List Int) (M : Int → Option Int) (last now : Int) (c : Nat) (w' : World) : Prop :=
  ∃ v1, QV w' q ph b vp v1 F PL FR Has ks M last now c ∧ Chg (QF q b vp vf F) w w' ∧ (v1.ownBlock = vf.ownBlock ∨ ∃ d, v1.ownBlock = some d ∧ w.heap.size ≤ d)
set_option maxHeartbeats 2000000 in
set_option maxRecDepth 100000 in
theorem forget_calls {w : World} {q ph b c : Nat} {vp vf : Value} {F : Nat → Prop} {PL : List EvP.Ev} {FR : List Int} {Has : List Bool} {ks : List Int} {M : Int → Option Int} {last now : Int} (h : QV w q ph b vp vf F PL FR Has ks M last now c) (a : Nat) (ha : a < PL.length) (hid : (Lit.int .i64 (pe PL a).id).wf = true) (hfr : FR.length ≤ 70000) :
    Calls Try.prog 26 #[.pointer (some ⟨q, 0, none⟩), .int .i64 (a : Int)] w fun e w' => e = .returned (evAgg (pe PL a)) ∧ ForgetPost w q ph b vp vf F PL (FR ++ [(a : Int)]) Has ks (fun x => if x = (pe PL a).id then none else M x) last now c w' := by
  obtain ⟨g, cp, rfl, _⟩ := h.op.form (by omega)
  obtain ⟨⟨id, t, d⟩, hx⟩ : ∃ x, pe PL a = x := ⟨_, rfl⟩
  have H := Aside0.mk h
  have HX := Aside0.mk (And.intro hx ha)
  have d1 : (a : Int) < (PL.length : Int) := by omega
  rw [hx] at hid ⊢
  simp only at hid ⊢
  have HID := Aside0.mk hid
  have HF := Aside0.mk hfr
  clear h ha hx hid hfr
  go_enter Try.func26, Try.ntmps26
  go_upto_region 1 with (fail)
  obtain ⟨b4, hb4⟩ : ∃ n, w.heap.size = n := ⟨_, rfl⟩
  have bk4 := heap_alloc_new w (.cells #[.int .i64 0, .int .i64 0, .int .i64 0] 60)
  have hv1 := H.out.alloc (.cells #[.int .i64 0, .int .i64 0, .int .i64 0] 60)
  have ch1 := (Chg.refl (QF q b (.slice (some ⟨g, 0, none⟩) PL.length cp) vf F) w).alloc (.cells #[.int .i64 0, .int .i64 0, .int .i64 0] 60)
  have sz1 : (w.alloc (.cells #[.int .i64 0, .int .i64 0, .int .i64 0] 60)).heap.size = b4 + 1 := by simp [hb4]
  rw [hb4] at bk4 ⊢
  generalize w.alloc (.cells #[.int .i64 0, .int .i64 0, .int .i64 0] 60) = wa at bk4 hv1 ch1 sz1 ⊢
  have f1 := blk_at hv1.blk 1 _ rfl
  obtain ⟨c0, c1, c2⟩ := hv1.op.cells a HX.out.2
  rw [HX.out.1] at c0 c1 c2
  simp only at c0 c1 c2
  have H1 := Aside0.mk (And.intro hv1 (And.intro ch1 (And.intro bk4 (And.intro sz1 hb4))))
  clear hv1 ch1 bk4 sz1 hb4
  go_wp2_with fail
  obtain ⟨hv1, ch1, bk4, sz1, hb4⟩ := H1.out
  have bk5 := heap_alloc_new wa (.cells #[.int .i64 id, .int .i64 t, .int .i64 d] 60)
  have bk4' : (wa.alloc (.cells #[.int .i64 id, .int .i64 t, .int .i64 d] 60)).heap[b4]? = some (.cells #[.int .i64 0, .int .i64 0, .int .i64 0] 60 (0, 0)) := (Below.heap_alloc _ _ _ (by omega)).trans bk4
  have hv2 := hv1.alloc (.cells #[.int .i64 id, .int .i64 t, .int .i64 d] 60)
  have ch2 := ch1.alloc (.cells #[.int .i64 id, .int .i64 t, .int .i64 d] 60)
  have sz2 : (wa.alloc (.cells #[.int .i64 id, .int .i64 t, .int .i64 d] 60)).heap.size = b4 + 2 := by simp [sz1]
  rw [sz1] at bk5 ⊢
  generalize wa.alloc (.cells #[.int .i64 id, .int .i64 t, .int .i64 d] 60) = wb at bk4' bk5 hv2 ch2 sz2 ⊢
  clear hv1 ch1 bk4 sz1 f1 c0 c1 c2 H1
  obtain ⟨wd, hrun, hM, hg⟩ := hv2.drew.mp.delete Try.underlying3 Try.underlying55 id HID.out 0
  have f3 := blk_at hv2.blk 3 _ rfl
  have g0 := blk_at bk5 0 _ rfl
  have M2 := hv2.drew.mapped hM hg
  have ch3 := ch2.drew.trans M2.2 (fun _ _ h => h)
  have hv3 := M2.1
  have bl := hv2.mp.lt
  have e4 : b4 ≠ b := fun e => by subst e; obtain ⟨_, _, ⟨es, cl, q1, _⟩, _⟩ := hv2.mp; rw [bk4'] at q1; cases q1
  have e5 : b4 + 1 ≠ b := fun e => by subst e; obtain ⟨_, _, ⟨es, cl, q1, _⟩, _⟩ := hv2.mp; rw [bk5] at q1; cases q1
  have bk43 : wd.heap[b4]? = some (.cells #[.int .i64 0, .int .i64 0, .int .i64 0] 60 (0, 0)) := (hg.block b4 (by show b4 < wb.heap.size; omega) (fun e => e4 (by injection e))).trans bk4'
  have bk53 : wd.heap[b4 + 1]? = some (.cells #[.int .i64 id, .int .i64 t, .int .i64 d] 60 (0, 0)) := (hg.block (b4 + 1) (by show b4 + 1 < wb.heap.size; omega) (fun e => e5 (by injection e))).trans bk5
  have sz3 : b4 + 2 ≤ wd.heap.size := by have := hg.size; have : wb.heap.size ≤ wd.heap.size := this; omega
  have H3 := Aside0.mk (And.intro hv3 (And.intro ch3 (And.intro bk43 (And.intro bk53 (And.intro sz3 hb4)))))
  clear hv2 ch2 bk4' bk5 hM hg M2 ch3 hv3 bl e4 e5 bk43 bk53 sz3 sz2 hb4
  go_region
  clear hrun f3 g0
  obtain ⟨A, cf, rfl⟩ := H.out.of_.slice
  have f2 := blk_at H3.out.1.blk 2 _ rfl
  go_upto_region 4 with (at_builtin; refine print_append_num 0 rfl (.tmp 23) (.tmp 25) 29 3 .i64 8 rfl Try.underlying29 infoInt (by omega) (.slice A FR.length cf) FR (a : Int) rfl (by simp [Act.eval]) H3.out.1.of_ (Below.refl _ _) (Nat.zero_le _) (by have := HF.out; omega) ?_; intro v1 w4 hown hB hg hat; obtain ⟨g4, c4, rfl, _⟩ := OwnI.form (e := 3) hown (by simp); have P4 := H3.out.1.setFree _ hown hg hat; have q4 : w4.heap[q]? = _ := (hg.block q H3.out.1.ql (fun e => H3.out.1.fq q e.symm rfl)).trans H3.out.1.blk; have m0 := blk_at q4 2 _ rfl; have m1 := blk_free q4 2; have b5 : w4.heap[b4 + 1]? = _ := (hg.block (b4 + 1) (Nat.lt_of_lt_of_le (Nat.lt_succ_self _) H3.out.2.2.2.2.1) (fun e => own_ne H3.out.1.of_ H3.out.2.2.2.1 (by decide) e.symm rfl)).trans H3.out.2.2.2.1; have b4_ : w4.heap[b4]? = _ := (hg.block b4 (Nat.lt_of_lt_of_le (Nat.lt_succ_of_lt (Nat.lt_succ_self _)) H3.out.2.2.2.2.1) (fun e => own_ne H3.out.1.of_ H3.out.2.2.1 (by decide) e.symm rfl)).trans H3.out.2.2.1; have P4a := Aside0.mk P4; have B4a := Aside0.mk (And.intro b4_ (And.intro b5 hat)); clear hown hB hg hat P4 q4 b5 b4_)
  have el : (FR ++ [(a : Int)]).length = FR.length + 1 := by simp
  have qb4 : b4 ≠ q := fun e => by have h1 := B4a.out.1; have h2 := H3.out.1.blk; have h3 := H3.out.2.2.1; rw [e] at h3; rw [h2] at h3; cases h3
  have qb5 : b4 + 1 ≠ q := fun e => by have h2 := H3.out.1.blk; have h3 := H3.out.2.2.2.1; rw [e] at h3; rw [h2] at h3; cases h3
  have hv5 := P4a.out.1
  have ch5 := H3.out.2.1.trans P4a.out.2 (fun _ _ h => h)
  have hat5 := B4a.out.2.2
  have s1 := (blk_other ⟨q, 2, none⟩ (.slice (some ⟨g4, 0, none⟩) (FR ++ [(a : Int)]).length c4) qb4).trans B4a.out.1
  have s2 := (blk_other ⟨q, 2, none⟩ (.slice (some ⟨g4, 0, none⟩) (FR ++ [(a : Int)]).length c4) qb5).trans B4a.out.2.1
  rw [el] at hv5 ch5 s1 s2 hat5
  generalize w4.setCell ⟨q, 2, none⟩ (.slice (some ⟨g4, 0, none⟩) (FR.length + 1) c4) = W5 at hv5 ch5 s1 s2 ⊢
  have l0 := blk_at s2 0 _ rfl
  have l1 := blk_at s2 1 _ rfl
  have l2 := blk_at s2 2 _ rfl
  have k0 := blk_at s1 0 _ rfl
  have k1 := blk_at s1 1 _ rfl
  have k2 := blk_at s1 2 _ rfl
  have z0 := blk_free s1 0
  have z1 := blk_free s1 1
  have z2 := blk_free s1 2
  have H5 := Aside0.mk (And.intro hv5 (And.intro ch5 (And.intro s1 (And.intro hat5 (And.intro H3.out.2.2.2.2.1 (And.intro H3.out.2.2.2.2.2 qb4))))))
  clear hv5 ch5 s1 s2 hat5 P4a B4a m0 m1 f2 qb4 qb5 el
  go_wp2
  have r1 := Sep.blk_set H5.out.2.2.1 0 (.int .i64 id)
  have r2 := Sep.blk_set r1 1 (.int .i64 t)
  have r3 := Sep.blk_set r2 2 (.int .i64 d)
  have ch6 := (((Chg.refl (fun k => k = b4) W5).setCell ⟨b4, 0, none⟩ (fun _ => rfl) (.int .i64 id)).setCell ⟨b4, 1, none⟩ (fun _ => rfl) (.int .i64 t)).setCell ⟨b4, 2, none⟩ (fun _ => rfl) (.int .i64 d)
  refine bodyPost_ret (results_single rfl (.cell b4 60 #[.int .i64 id, .int .i64 t, .int .i64 d] (0, 0) _ rfl r3 Try.underlying60 rfl (by kernel_rfl) .nil)) rfl ?_
  obtain ⟨hv5, ch5, _, hat5, sz5, hb4, qb4⟩ := H5.out
  have nf : ∀ k, QF q b (.slice (some ⟨g, 0, none⟩) PL.length cp) (.slice (some ⟨g4, 0, none⟩) (FR.length + 1) c4) F k → ¬ k = b4 := fun k hk e => by
    subst e
    rcases hk with e | e | e | e | e
    · exact qb4 e
    · have h2 := H5.out.2.2.1
      obtain ⟨_, _, ⟨es, cl, q1, _⟩, _⟩ := hv5.mp
      rw [← e, h2] at q1
      cases q1
    · have := H.out.lt k (.inr (.inr (.inl e))); omega
    · have := H.out.lt k (.inr (.inr (.inr (.inl e)))); omega
    · exact own_ne hv5.of_ H5.out.2.2.1 (by decide) e rfl
  refine ⟨rfl, _, hv5.kept ch6 nf, ch5.trans ch6 (fun i hi e => by omega), ?_⟩
  rcases hat5 with e | ⟨dd, e, hd⟩
  · exact .inl e
  · exact .inr ⟨dd, e, by have := H3.out.2.1.size; omega⟩
end Go.Proofs.Ytpliaagfhjnnaaa.Ev

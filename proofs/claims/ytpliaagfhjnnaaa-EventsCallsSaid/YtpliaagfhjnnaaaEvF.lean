import Derived.Test.YtpliaagfhjnnaaaEvE
namespace Go.Proofs.Ytpliaagfhjnnaaa.Ev
open Go.RowKit Go.Proofs.YtpliaagfhjnnaaaW.PrintWords Go.Proofs.Ytpliaagfhjnnaaa.Sep Go.Proofs.Ytpliaagfhjnnaaa.HeapP Go.Proofs.Ytpliaagfhjnnaaa.Heap Go.Proofs.Ytpliaagfhjnnaaa.EvP
set_option linter.unusedVariables false

theorem set_selfB (xs : List Bool) (a : Nat) (v : Bool) (h : gb xs a = v) : xs.set a v = xs := by
  apply List.ext_getElem
  · simp
  · intro n h1 h2
    rw [List.getElem_set]
    split
    · rename_i e
      subst e
      rw [← h]
      simp [gb, List.getD_eq_getElem?_getD, List.getElem?_eq_getElem h2]
    · rfl
theorem gb_lt {xs : List Bool} {a : Nat} (h : gb xs a = true) : a < xs.length := by
  rcases Nat.lt_or_ge a xs.length with q | q
  · exact q
  · simp [gb, List.getElem?_eq_none q] at h
def PeekPost (w : World) (G : Nat → Prop) (q : Nat) (E : List EvP.Ev) (last now : Int) (e : Ending) (w' : World) : Prop :=
  ∃ x, MinE E x ∧ e = .returned (.tuple #[.int .i64 x.time, .bool true]) ∧ QPost w G q E last now w'
set_option maxHeartbeats 2000000 in
set_option maxRecDepth 100000 in
theorem peek_some {w : World} {G : Nat → Prop} {q : Nat} {E : List EvP.Ev} {last now : Int} (h : QIs w G q E last now) (hE : 0 < E.length) (hlast : last < 4294967296) : Calls Try.prog 19 #[.pointer (some ⟨q, 0, none⟩)] w fun e w' => PeekPost w G q E last now e w' := by
  obtain ⟨ph, b, vp, vf, F, PL, FR, Has, ks, M, c, hv, hi, hc, hG, hGl⟩ := h
  have f0 := blk_at hv.blk 0 _ rfl
  have H := Aside0.mk hv
  have I := Aside0.mk hi
  have GG := Aside0.mk (And.intro hc (And.intro hG hGl))
  have EE := Aside0.mk (And.intro hE hlast)
  clear hv hi hc hG hGl hE hlast
  go_enter Try.func19, Try.ntmps19
  go_upto_region 7 with (first | (go_at_call 25; (with_reducible refine (pop_some H.out.hp (by rw [I.out.cnt]; exact EE.out.1)).mono ?_); rintro e w1 hq; obtain ⟨i, hL, rfl, hp⟩ := hq; have Q1 := Aside0.mk (And.intro hL (H.out.heapPost hp)); have A1 := Aside0.mk (show i < (Has.set i false).length by simpa using hL.1); have f1 := blk_at Q1.out.2.1.blk 0 _ rfl; clear hL hp) | (go_at_call 23; (with_reducible refine (set_yes Q1.out.2.1.hp i (gi ks i) A1.out).mono ?_); rintro e w2 ⟨rfl, hp2⟩; have Q2 := Aside0.mk (Q1.out.2.1.heapPost hp2); clear hp2))
  have hb := Q1.out.1.2.1
  have hk := (I.out.on i hb).2.2
  have hids := I.out.ids _ (I.out.on i hb).2.1
  obtain ⟨x, hx⟩ : ∃ x, pe PL i = x := ⟨_, rfl⟩
  rw [hx] at hk hids
  obtain ⟨K, hK⟩ : ∃ K, gi ks i = K := ⟨_, rfl⟩
  rw [hK] at hk ⊢
  have hdiv : K / 4294967296 = x.time := by rw [hk]; unfold rank; have := EE.out.2; omega
  have XX := Aside0.mk (And.intro hx (And.intro hK hb))
  clear hk hids hx hK hb f0 f1
  go_wp2
  go_ret2
  have hv2 := Q2.out.1
  have e1 : (Has.set i false).set i true = Has := by rw [List.set_set]; exact set_selfB _ _ _ XX.out.2.2
  have e2 : ks.set i (gi ks i) = ks := set_self _ _ _ rfl
  rw [e1, e2] at hv2
  refine ⟨x, by have := I.out.min Q1.out.1; rw [XX.out.1] at this; exact this, rfl, ?_⟩
  refine QIs.new (vp := vp) (vf := vf) (F := F) GG.out.2.1 GG.out.2.2 hv2 I.out GG.out.1 (Q1.out.2.2.trans Q2.out.2 QF.grow) (.inl rfl) (.inl rfl) (fun k hk => ?_)
  rcases hk with e | e
  · exact Gr.back k e
  · exact .inr (Nat.le_trans Q1.out.2.2.size e.1)
theorem zeroInt (w : World) : (zeroValue 3).run Try.prog w = .ok (.int .i64 0) w := by kernel_rfl
theorem Inv.none {E : List EvP.Ev} {last now : Int} {PL : List EvP.Ev} {FR : List Int} {Has : List Bool} {ks : List Int} {M : Int → Option Int} (h : Inv E last now PL FR Has ks M) {id : Int} (hm : M id = none) : ∀ e ∈ E, e.id ≠ id := by
  intro e he hid
  obtain ⟨a, ha, e1⟩ := h.ex e he
  have := (h.mp id (a : Int)).2 ⟨a, rfl, ha, by rw [e1]; exact hid⟩
  rw [hm] at this
  cases this
theorem drop_none {E : List EvP.Ev} {id : Int} (h : ∀ e ∈ E, e.id ≠ id) : EvP.drop E id = E := by
  unfold EvP.drop
  rw [List.filter_eq_self]
  intro e he
  simpa using h e he
def CancelPost (w : World) (G : Nat → Prop) (q : Nat) (E : List EvP.Ev) (last now id : Int) (e : Ending) (w' : World) : Prop :=
  ((∀ x ∈ E, x.id ≠ id) ∧ e = .returned (.int .i64 8) ∧ QPost w G q E last now w') ∨ ((∃ x ∈ E, x.id = id) ∧ e = .returned (.int .i64 0) ∧ QPost w G q (EvP.drop E id) last now w')
set_option maxHeartbeats 2000000 in
set_option maxRecDepth 100000 in
theorem cancel_calls {w : World} {G : Nat → Prop} {q : Nat} {E : List EvP.Ev} {last now : Int} (h : QIs w G q E last now) (id : Int) (hid : (Lit.int .i64 id).wf = true) (hlast : last < 4294967296) : Calls Try.prog 14 #[.pointer (some ⟨q, 0, none⟩), .int .i64 id] w fun e w' => CancelPost w G q E last now id e w' := by
  have HQ := Aside0.mk h
  obtain ⟨ph, b, vp, vf, F, PL, FR, Has, ks, M, c, hv, hi, hc, hG, hGl⟩ := h
  have f3 := blk_at hv.blk 3 _ rfl
  have f0 := blk_at hv.blk 0 _ rfl
  have hlook := hv.mp.look Try.underlying3 Try.underlying3 Try.underlying55 (zeroInt w) id hid
  have H := Aside0.mk hv
  have I := Aside0.mk hi
  have GG := Aside0.mk (And.intro hc (And.intro hG hGl))
  have LL := Aside0.mk hlast
  cases hm : M id with
  | none =>
    rw [hm] at hlook
    simp only [Option.getD_none, Option.isSome_none] at hlook
    have MM := Aside0.mk (Inv.none hi hm)
    clear hv hi hc hG hGl hlast hm hid
    go_enter Try.func14, Try.ntmps14
    go_wp2
    go_ret
    exact .inl ⟨MM.out, rfl, QPost.refl HQ.out⟩
  | some v =>
    rw [hm] at hlook
    simp only [Option.getD_some, Option.isSome_some] at hlook
    obtain ⟨a, rfl, hb, hae⟩ := (hi.mp id v).1 hm
    have hal := hi.on a hb
    have hids := hi.ids _ hal.2.1
    have AA := Aside0.mk (And.intro hb (And.intro hae (And.intro hal.1 (And.intro (gb_lt hb) (And.intro (show (Lit.int .i64 (pe PL a).id).wf = true by rw [hae]; exact hid) (show FR.length ≤ 70000 by have := hi.fl; have := hi.pm; omega))))))
    have XE := Aside0.mk hal.2.1
    clear hv hi hc hG hGl hlast hm hid hb hae hal hids
    go_enter Try.func14, Try.ntmps14
    go_wp2_with (first | (go_at_call 27; (with_reducible refine (remove_yes H.out.hp a AA.out.2.2.2.1 AA.out.1).mono ?_); rintro e w1 ⟨rfl, hp⟩; have Q1 := Aside0.mk (H.out.heapPost hp); clear hp) | (go_at_call 26; (with_reducible refine (forget_calls Q1.out.1 a AA.out.2.2.1 AA.out.2.2.2.2.1 AA.out.2.2.2.2.2).mono ?_); rintro e w2 ⟨rfl, v1, hv2, hc2, hat2⟩; have Q2 := Aside0.mk (And.intro hv2 (And.intro hc2 hat2)); clear hv2 hc2 hat2))
    go_ret
    refine .inr ⟨⟨_, XE.out, AA.out.2.1⟩, rfl, ?_⟩
    have hR := I.out.remove AA.out.1 now (.inl rfl) LL.out
    have hv2 := Q2.out.1
    rw [AA.out.2.1] at hR hv2
    refine QIs.new (vp := vp) (vf := vf) (F := F) GG.out.2.1 GG.out.2.2 hv2 hR GG.out.1 (Q1.out.2.trans Q2.out.2.1 QF.grow) (.inl rfl) ?_ Gr.back
    rcases Q2.out.2.2 with e | ⟨d, e, hd⟩
    · exact .inl e
    · exact .inr ⟨d, e, by have := Q1.out.2.size; omega⟩
end Go.Proofs.Ytpliaagfhjnnaaa.Ev

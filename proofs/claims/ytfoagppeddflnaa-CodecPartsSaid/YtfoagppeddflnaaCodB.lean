import Derived.Test.YtfoagppeddflnaaPT074
import Derived.RangeFuncNested
import Derived.RangeFuncBound
import Derived.RangeFuncCalls
import Derived.RangeFuncLeaves
import Derived.RangeFuncBox
import Derived.Shelf.Abstract
import Derived.Shelf.RegionOpen
import Derived.WalkKit
import Derived.OwnWalkIn
import Derived.TacticsInMore
import Derived.Maps.OwnIn
namespace Go.Proofs.Ytfoagppeddflnaa.PT07
open Go.RowKit Go.Shelf Go.Proofs.YtfoagppeddflnaaW.PrintWords Go.Proofs.YtfoagppeddflnaaW.PrintLast

theorem S_append_in {α : Type} {F : Fence} {nF : Nat} {P : Program} {ops : Array Oper} {rest : List Oper} {o : Oper} {a : Act} {Q : Exit → Act → World → Prop}
    (d : Kd α) {w0 W : World} (base : Nat) (hgd : o.guard = none) (s x : Operand) (t e : TypeId) (z : Value) (bytes : Nat)
    (ho : o.op = .call { callee := .builtin .append, args := #[s, x], argTypes := #[t, t] })
    (ht : P.underlying t = some (.slice e)) (hinfo : (P.info? e).map (fun i => (i.zero, i.size, i.bytes)) = some (some z, d.sz, bytes)) (hz : z.cells.size = d.sz) (hs0 : 0 < d.sz) (hb0 : 0 < bytes)
    (v : Value) (xs : List α) (p : α) (cs : List Value) (ok okp : Nat → Prop) (hs : a.eval s = v) (hx : a.eval x = .slice (some ⟨W.heap.size, 0, none⟩) 1 1) (hp : d.M W base okp p cs) (hokp : ∀ k, okp k → ok k ∧ some k ≠ v.ownBlock) (hfresh : ∀ k, W.heap.size ≤ k → ok k)
    (HO : Kd.S d e W base (fun k => ok k ∧ ¬ okp k) v xs) (HB : Below base w0 W) (hbase : base ≤ W.heap.size) (hl : (xs.length + 1) * bytes ≤ 140737488355328)
    (h : ∀ v1 w1, Kd.S d e w1 base ok v1 (xs ++ [p]) → Below base w0 w1 → W.grownBy w1 v.ownBlock → (v1.ownBlock = v.ownBlock ∨ ∃ b, v1.ownBlock = some b ∧ W.heap.size ≤ b) → wpListIn F nF P ops Q rest (a.put o.dst v1) w1) :
    wpListIn F nF P ops Q (o :: rest) a (W.alloc (.cells cs.toArray e)) := by
  obtain ⟨f, hf, hR⟩ := Kd.S_tag HO xs.length okp (fun _ hk h2 => h2.2 hk)
  obtain ⟨h0, inner, hown, hr⟩ := Kd.R_mono hR (fun _ hk => hk.1)
  obtain ⟨i0, hi, hzz⟩ := Option.map_eq_some_iff.1 hinfo
  simp only [Prod.mk.injEq] at hzz
  obtain ⟨hz0, hz1, hz2⟩ := hzz
  rw [List.length_zipIdx] at hown
  have hys := d.K_len (d.K_of_M hp)
  have hlen : xs.length + 1 ≤ 140737488355328 := Nat.le_trans (Nat.le_mul_of_pos_right _ hb0) hl
  refine wpListIn_append_own_at (W.alloc (.cells cs.toArray e)) hgd s x t ho base e i0 z d.sz bytes ht hi hz0 hz1 hz2 hz hs0 v xs.length inner hs (hown.alloc _) ⟨W.heap.size, 0, none⟩ 1 1 cs hx (by rw [hys]; simp)
    (by simpa using World.news_of_block (cs := cs.toArray) (t := e) (fr := (0, 0)) (heap_alloc_new W (.cells cs.toArray e))) (d.K_one (d.K_of_M hp)) (by simp only [maxLen]; omega) hl (by simp; omega) ?_
  intro v1 w1 hown1 hg _ hat
  have hat' : v1.ownBlock = v.ownBlock ∨ ∃ b, v1.ownBlock = some b ∧ W.heap.size ≤ b := by
    rcases hat with hat | hat
    · exact .inl hat
    · exact .inr ⟨_, hat, by simp⟩
  have hg' : W.grownBy w1 v.ownBlock := World.grownBy.trans (World.grownBy_alloc W _ _) hg
  refine h v1 w1 ?_ ((HB.alloc hbase _).grown hg (by simp; omega) (own_base hown)) hg' hat'
  have h9 := Kd.R_appended (d := Kd.tag f d) (ok := ok) (okp := okp) (p := (p, xs.length)) (xs := xs.zipIdx) h0 hr (d.M_mono (fun k hk => ⟨hk, hf k hk⟩) hp) hokp hfresh (by rw [List.length_zipIdx]; exact hown1) hg' hat'
  rw [← Kd.zip_snoc] at h9
  exact ⟨f, h9⟩

/-- The statement, on a program of the wide fence: the record, and what is left to be shown. -/
theorem range_mine {P : Program} {g : Operand} {ps : Array Tmp} {assign body : Code} {Q : Exit → Act → World → Prop} {a : Act} {w : World} {gf : Nat} {lb : Array Value} {n : Nat}
    (hg : a.eval g = .func (.func gf) #[] lb) (eg : ∀ args w, (callFunc gf args).run P w = .ok (.enter gf args) w)
    (h : ∀ (rec : FuncId → LoopState → Option Code → Loop), rec = (fun fn st pe => { state := st, pending := pe, fn, tmps := a.tmps, params := ps, assign, body, defers := w.heap.size }) → ∀ fn,
      CallsIn Fence.wide (n - 1) P gf (#[.func (.yield (w.heap.size + 1)) #[] #[]] ++ lb) ((w.alloc (.deferred (some []))).alloc (.loop (rec fn .ready none))) fun e W' => (∃ v, e = .returned v) ∧
        ∃ st pe, st ≠ .busy ∧ W'.heap[w.heap.size + 1]? = some (.loop (rec fn st pe)) ∧
          (match pe with
            | none => Q .normal { a with defers := { target := .collected w.heap.size, args := #[] } :: a.defers } (W'.putObj (w.heap.size + 1) (.loop (rec fn .exhausted pe)))
            | some c => c.wpIn Fence.wide n P Q { a with defers := { target := .collected w.heap.size, args := #[] } :: a.defers } (W'.putObj (w.heap.size + 1) (.loop (rec fn .exhausted pe))))) :
    (Code.rangeFunc g ps assign body).wpIn Fence.wide n P Q a w := by
  refine wpIn_rangeFunc ?_
  intro fn _
  obtain ⟨rec, hrec⟩ : ∃ rec : FuncId → LoopState → Option Code → Loop, rec = fun fn st pe => { state := st, pending := pe, fn, tmps := a.tmps, params := ps, assign, body, defers := w.heap.size } := ⟨_, rfl⟩
  have hh := h rec hrec fn
  obtain ⟨W1, hW1⟩ : ∃ W1, (w.alloc (.deferred (some []))).alloc (.loop (rec fn .ready none)) = W1 := ⟨_, rfl⟩
  rw [hW1] at hh
  refine ⟨w.heap.size + 1, [{ target := .collected w.heap.size, args := #[] }], W1, { target := .fn (.func gf) lb, args := #[.func (.yield (w.heap.size + 1)) #[] #[]] }, W1, gf, #[.func (.yield (w.heap.size + 1)) #[] #[]] ++ lb, W1, ?_, ?_, ?_, ?_, (fun h => by cases h), ?_⟩
  · rw [← hW1, hrec]; exact run_enterLoop_outer _ _ _ _ _
  · simp only [resolve, hg]
    simp [go_sem]
  · intro f' _; trivial
  · simp [invoke, go_sem, eg]
  · refine hh.mono ?_
    rintro e W2 ⟨⟨v, rfl⟩, st, pe, hst, hl, hq⟩
    subst hrec
    have he := run_endLoop (P := P) hl hst
    refine ⟨pe, _, he, ?_⟩
    cases pe with
    | none => exact hq
    | some c => exact hq
/-- One round, its assignment and its body walked. -/
theorem round_mine {P : Program} {ps : Array Tmp} {assign body : Code} {tm : Array Value} {D l m : Nat} {fn : FuncId} {args : Array Value} {W : World} {R : Ending → World → Prop} {rec : FuncId → LoopState → Option Code → Loop}
    (hrec : rec = (fun fn st pe => { state := st, pending := pe, fn, tmps := tm, params := ps, assign, body, defers := D })) (hl : W.heap[l]? = some (.loop (rec fn .ready none))) (hs : args.size = ps.size)
    (h : assign.wpIn (Fence.wide.inRound l) m P (Exit.then (fun a₁ w₁ => w₁.heap[l]? = some (.loop (rec fn .ready none)) ∧ body.wpIn (Fence.wide.inRound l) m P (fun e _ W3 => match e with
        | .normal => W3.heap[l]? = some (.loop (rec fn .busy none)) ∧ R (.returned (.bool true)) (W3.putObj l (.loop (rec fn .ready none)))
        | .ret => W3.heap[l]? = some (.loop (rec fn .busy none)) ∧ R (.returned (.bool false)) (W3.putObj l (.loop (rec fn .done (some .ret))))
        | _ => False) a₁ (w₁.putObj l (.loop (rec fn .busy none)))) (fun _ _ _ => False)) { tmps := (ps.zip args).foldl (fun t (p, v) => t.setIfInBounds p v) tm, defers := [] } W) :
    YieldAt Fence.wide m P l args W R := by
  subst hrec
  have hy := run_yield (P := P) (args := args) hl hs
  refine ⟨fn, _, assign, body, hy, roundIn_of_wpIn trivial (wpIn_mono h ?_)⟩
  rintro e a1 w1 hp
  cases e with
  | normal =>
    obtain ⟨hl1, hb⟩ := hp
    refine ⟨_, run_beginRound hl1 rfl, ?_⟩
    refine wpIn_mono hb ?_
    rintro e2 a2 W3 hq
    cases e2 with
    | normal =>
      obtain ⟨hl3, hr⟩ := hq
      exact ⟨_, _, run_endRound (P := P) none hl3, hr⟩
    | ret =>
      obtain ⟨hl3, hr⟩ := hq
      exact ⟨_, _, run_endRound (P := P) (some .ret) hl3, hr⟩
    | exit id => exact False.elim hq
    | goto t => exact False.elim hq
    | panic ch => exact False.elim hq
    | outgrown => exact False.elim hq
  | ret => exact hp
  | exit id => exact hp
  | goto t => exact hp
  | panic ch => exact hp
  | outgrown => exact hp
end Go.Proofs.Ytfoagppeddflnaa.PT07

/- A range over slices.Backward: the iterator, and the laws of the loop. -/
import Derived.Test.YtkdkdhbkmhkjfaaSep
import Derived.Test.YtkdkdhbkmhkjfaaProg
import Derived.RangeFuncNested
import Derived.RangeFuncBound
import Derived.RangeFuncCalls
import Derived.RangeFuncLeaves
import Derived.RangeFuncBox
import Derived.Shelf.Abstract
import Derived.Shelf.RegionOpen
import Derived.WalkKit
import Derived.OwnWalkIn
import Derived.TacticsInMore
import Derived.LoopNIn
import Derived.LoopIn
namespace Go.Proofs.Ytkdkdhbkmhkjfaa.Ch
open Go.RowKit Go.Shelf Go.Proofs.YtkdkdhbkmhkjfaaW.PrintWords Go.Proofs.Ytkdkdhbkmhkjfaa.Sep

/-- The statement, on a program of the wide fence: the record, and what is left to be shown. -/
theorem range_mine {P : Program} {g : Operand} {ps : Array Tmp} {assign body : Code} {Q : Exit → Act → World → Prop} {a : Act} {w : World} {gf : Nat} {lb : Array Value} {n : Nat}
    (hg : a.eval g = .func (.func gf) #[] lb) (eg : ∀ args w, (callFunc gf args).run P w = .ok (.enter gf args) w)
    (h : ∀ (rec : FuncId → LoopState → Option Code → Loop), rec = (fun fn st pe => { state := st, pending := pe, fn, tmps := a.tmps, params := ps, assign, body, defers := w.heap.size }) → ∀ fn,
      CallsIn Fence.wide (n - 1) P gf (#[.func (.yield (w.heap.size + 1)) #[] #[]] ++ lb) ((w.alloc (.deferred (some []))).alloc (.loop (rec fn .ready none))) fun e W' => (∃ v, e = .returned v) ∧
        ∃ st pe, st ≠ .busy ∧ W'.heap[w.heap.size + 1]? = some (.loop (rec fn st pe)) ∧
          (match pe with
            | none => Q .normal { a with defers := { target := .collected w.heap.size, args := #[] } :: a.defers } (W'.putObj (w.heap.size + 1) (.loop (rec fn .exhausted pe)))
            | some c => c.wpIn Fence.wide n P Q { a with defers := { target := .collected w.heap.size, args := #[] } :: a.defers } (W'.putObj (w.heap.size + 1) (.loop (rec fn .exhausted pe))))) :
    (Code.rangeFunc g ps assign body).wpIn Fence.wide n P Q a w := by
  refine wpIn_rangeFunc ?_
  intro fn _
  obtain ⟨rec, hrec⟩ : ∃ rec : FuncId → LoopState → Option Code → Loop, rec = fun fn st pe => { state := st, pending := pe, fn, tmps := a.tmps, params := ps, assign, body, defers := w.heap.size } := ⟨_, rfl⟩
  have hh := h rec hrec fn
  obtain ⟨W1, hW1⟩ : ∃ W1, (w.alloc (.deferred (some []))).alloc (.loop (rec fn .ready none)) = W1 := ⟨_, rfl⟩
  rw [hW1] at hh
  refine ⟨w.heap.size + 1, [{ target := .collected w.heap.size, args := #[] }], W1, { target := .fn (.func gf) lb, args := #[.func (.yield (w.heap.size + 1)) #[] #[]] }, W1, gf, #[.func (.yield (w.heap.size + 1)) #[] #[]] ++ lb, W1, ?_, ?_, ?_, ?_, (fun h => by cases h), ?_⟩
  · rw [← hW1, hrec]; exact run_enterLoop_outer _ _ _ _ _
  · simp only [resolve, hg]
    simp [go_sem]
  · intro f' _; trivial
  · simp [invoke, go_sem, eg]
  · refine hh.mono ?_
    rintro e W2 ⟨⟨v, rfl⟩, st, pe, hst, hl, hq⟩
    subst hrec
    have he := run_endLoop (P := P) hl hst
    refine ⟨pe, _, he, ?_⟩
    cases pe with
    | none => exact hq
    | some c => exact hq
/-- One round, its assignment and its body walked: on, back, or out of a block. -/
theorem round_mine {P : Program} {ps : Array Tmp} {assign body : Code} {tm : Array Value} {D l m : Nat} {fn : FuncId} {args : Array Value} {W : World} {R : Ending → World → Prop} {rec : FuncId → LoopState → Option Code → Loop}
    (hrec : rec = (fun fn st pe => { state := st, pending := pe, fn, tmps := tm, params := ps, assign, body, defers := D })) (hl : W.heap[l]? = some (.loop (rec fn .ready none))) (hs : args.size = ps.size)
    (h : assign.wpIn (Fence.wide.inRound l) m P (Exit.then (fun a₁ w₁ => w₁.heap[l]? = some (.loop (rec fn .ready none)) ∧ body.wpIn (Fence.wide.inRound l) m P (fun e _ W3 => match e with
        | .normal => W3.heap[l]? = some (.loop (rec fn .busy none)) ∧ R (.returned (.bool true)) (W3.putObj l (.loop (rec fn .ready none)))
        | .ret => W3.heap[l]? = some (.loop (rec fn .busy none)) ∧ R (.returned (.bool false)) (W3.putObj l (.loop (rec fn .done (some .ret))))
        | .exit id => W3.heap[l]? = some (.loop (rec fn .busy none)) ∧ R (.returned (.bool false)) (W3.putObj l (.loop (rec fn .done (some (.exit id)))))
        | _ => False) a₁ (w₁.putObj l (.loop (rec fn .busy none)))) (fun _ _ _ => False)) { tmps := (ps.zip args).foldl (fun t (p, v) => t.setIfInBounds p v) tm, defers := [] } W) :
    YieldAt Fence.wide m P l args W R := by
  subst hrec
  have hy := run_yield (P := P) (args := args) hl hs
  refine ⟨fn, _, assign, body, hy, roundIn_of_wpIn trivial (wpIn_mono h ?_)⟩
  rintro e a1 w1 hp
  cases e with
  | normal =>
    obtain ⟨hl1, hb⟩ := hp
    refine ⟨_, run_beginRound hl1 rfl, ?_⟩
    refine wpIn_mono hb ?_
    rintro e2 a2 W3 hq
    cases e2 with
    | normal =>
      obtain ⟨hl3, hr⟩ := hq
      exact ⟨_, _, run_endRound (P := P) none hl3, hr⟩
    | ret =>
      obtain ⟨hl3, hr⟩ := hq
      exact ⟨_, _, run_endRound (P := P) (some .ret) hl3, hr⟩
    | exit id =>
      obtain ⟨hl3, hr⟩ := hq
      exact ⟨_, _, run_endRound (P := P) (some (.exit id)) hl3, hr⟩
    | goto t => exact False.elim hq
    | panic ch => exact False.elim hq
    | outgrown => exact False.elim hq
  | ret => exact hp
  | exit id => exact hp
  | goto t => exact hp
  | panic ch => exact hp
  | outgrown => exact hp
attribute [local go_sem] Oper.semAt_some
set_option maxHeartbeats 4000000 in
set_option maxRecDepth 100000 in
/-- The iterator: the first n of N elements from behind; then it stops, or is stopped. -/
theorem back_calls (m l Bb N n : Nat) (v : Value) (x : Nat → Int) (hN : N ≤ 1000000) (hn : n ≤ N) (J : Nat → World → Prop) (Jx : World → Prop)
    (hJ : ∀ j W, J j W → Boxed W Bb 23 v ∧ (∃ A c, v = .slice A N c ∧ ∀ i, i < N → ∃ ad, A = some ad ∧ W.cell? (ad.add i) = some (.int .i64 (x i))))
    (hYes : ∀ j W, j < n → J j W → YieldAt Fence.wide (m + 2) Try.prog l #[.int .i64 ((N : Int) - 1 - (j : Int)), .int .i64 (x (N - 1 - j))] W fun e W' => e = .returned (.bool true) ∧ J (j + 1) W')
    (hNo : ∀ W, n < N → J n W → YieldAt Fence.wide (m + 2) Try.prog l #[.int .i64 ((N : Int) - 1 - (n : Int)), .int .i64 (x (N - 1 - n))] W fun e W' => e = .returned (.bool false) ∧ Jx W')
    (W : World) (h0 : J 0 W) :
    CallsIn Fence.wide (m + 3) Try.prog 35 #[.func (.yield l) #[] #[], .pointer (some ⟨Bb, 0, none⟩)] W fun e W' => (∃ v, e = .returned v) ∧ ((n = N ∧ J n W') ∨ (n < N ∧ Jx W')) := by
  have HJ := Aside0.mk hJ
  clear hJ
  have bN : (N : Int) ≤ 1000000 := by omega
  obtain ⟨hb0, A, c, rfl, hx0⟩ := HJ.out 0 W h0
  have hc0 := hb0.cell
  have HX0 := Aside0.mk hx0
  clear hx0
  refine callsIn_of_wp Try.func35 rfl trivial ?_ rfl
  simp only [Try.ntmps35, List.size_toArray, List.length_cons, List.length_nil, Nat.reduceAdd, Nat.reduceSub, Array.replicate_succ, Array.replicate_zero, List.push_toArray, List.append_toArray, List.nil_append, List.cons_append]
  gi_wp2
  gi_loopw [3] (fun (u : Value) wr => ∃ j : Nat, u = .int .i64 ((N : Int) - 1 - (j : Int)) ∧ j ≤ n ∧ J j wr) (fun (u : Value) _ => (intOf u + 1).toNat)
  case atStart => exact ⟨0, by simp, Nat.zero_le _, h0⟩
  case round =>
    obtain ⟨j, rfl, hj, hJj⟩ := hrel
    obtain ⟨hb, A', c', e, hx⟩ := HJ.out j _ hJj
    injection e with e1 _ e2
    subst e1
    subst e2
    have hcell := hb.cell
    by_cases hjN : j < N
    · obtain ⟨ad, rfl, hxc⟩ := hx (N - 1 - j) (by omega)
      obtain ⟨i, hi⟩ : ∃ i : Nat, N - 1 - j = i := ⟨_, rfl⟩
      have hi2 : (N : Int) - 1 - (j : Int) = (i : Int) := by omega
      rw [hi] at hxc
      rw [hi2]
      have HI := Aside0.mk (And.intro hi hi2)
      have d1 : (0 : Int) ≤ (i : Int) := by omega
      have d2 : (i : Int) < (N : Int) := by omega
      by_cases hjn : j < n
      · have hY := hYes j _ hjn hJj
        rw [HI.out.1, HI.out.2] at hY
        obtain ⟨fn, tmps, assign, body, hy, hR⟩ := hY
        have GG := Aside0.mk (And.intro hj (And.intro hjN hjn))
        clear hj hjN hjn hi hi2 hx
        gi_wp2
        refine hR.mono ?_
        rintro e W3 ⟨rfl, hj3⟩
        gi_wp2
        go_roundw
        case rel => exact ⟨j + 1, by rw [show ((N : Int) - 1 - ((j + 1 : Nat) : Int)) = (i : Int) - 1 from by have := HI.out; omega], by have := GG.out; omega, hj3⟩
        case measure => simp [intOf]
      · obtain rfl : j = n := by omega
        have hY := hNo _ (by omega) hJj
        rw [HI.out.1, HI.out.2] at hY
        obtain ⟨fn, tmps, assign, body, hy, hR⟩ := hY
        have GG := Aside0.mk hjN
        clear hj hjN hjn hi hi2 hx
        gi_wp2
        refine hR.mono ?_
        rintro e W3 ⟨rfl, hj3⟩
        gi_wp2
        refine bodyPost_ret (results_none rfl _ _ _) rfl ?_
        exact ⟨⟨_, rfl⟩, .inr ⟨GG.out, hj3⟩⟩
    · have hjj : j = n := by omega
      subst hjj
      have hnN : j = N := by omega
      subst hnN
      have d1 : decide ((0 : Int) ≤ (j : Int) - 1 - (j : Int)) = false := decide_eq_false (by omega)
      have d2 : ¬ (0 : Int) ≤ (j : Int) - 1 - (j : Int) := by omega
      clear hj hjN hx hN hn
      gi_wp2
      go_end0
      first | exact ⟨⟨_, rfl⟩, Or.inl ⟨rfl, hJj⟩⟩ | exact ⟨⟨_, rfl⟩, hJj⟩ | exact hJj
end Go.Proofs.Ytkdkdhbkmhkjfaa.Ch

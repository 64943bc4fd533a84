/- Two channels; the example of the document. -/
import Derived.Test.YtkdkdhbkmhkjfaaChU
namespace Go.Proofs.Ytkdkdhbkmhkjfaa.Ch
open Go.RowKit Go.Proofs.YtkdkdhbkmhkjfaaW.PrintWords Go.Proofs.YtkdkdhbkmhkjfaaW.PrintLast Go.Proofs.Ytkdkdhbkmhkjfaa.Sep Go.Proofs.Ytkdkdhbkmhkjfaa.ChP Go.Proofs.Ytkdkdhbkmhkjfaa.PT52
set_option linter.unusedVariables false
set_option linter.unusedSimpArgs false

def Tw (w0 w : World) (O : Nat → Prop) (c : Nat) (s : St) (d : Nat) (t : St) : Prop := Two 55 50 55 50 w0 w O c s d t
section
variable {w0 w w1 : World} {O : Nat → Prop} {c d : Nat} {s t s' t' : St}
theorem Tw.swap (h : Tw w0 w O c s d t) : Tw w0 w O d t c s := Two.swap h
theorem Tw.keep (h : Tw w0 w O c s d t) (hb : Below w.heap.size w w1) : Tw w0 w1 O c s d t := Two.keep h (Chg.of_below hb)
theorem Tw.less {O' : Nat → Prop} (h : Tw w0 w O c s d t) (ho : ∀ k, O' k → O k) : Tw w0 w O' c s d t := Two.less h ho
theorem tw_new (h : CS 55 50 w0 w O c s) (dl rt rm : Int) (v : Value) (sc : List Ft) (ho : OwnF 50 w v sc) (hl : sc.length ≤ 100000) (hv : valid dl rt rm sc = true) :
    Calls Try.prog 11 #[.int .i64 dl, .int .i64 rt, .int .i64 rm, v] w fun e w' => ∃ d, e = .returned (.tuple #[.pointer (some ⟨d, 0, none⟩), .int .i64 0]) ∧ Tw w0 w' (fun _ => False) c s d ⟨dl, rt, rm, sc, [], 0, 0⟩ ∧ Below w.heap.size w w' := by
  refine (new_calls dl rt rm v sc w ho hl).mono fun e w' he => ?_
  rcases he with ⟨_, d, rfl, ⟨G, h1, h2⟩, h3⟩ | ⟨h1, _⟩
  · obtain ⟨G1, a, b, hG, hO⟩ := h
    exact ⟨d, rfl, ⟨G1, G, a.keep (Chg.of_below h3), h1, below_then b b.size h3, hG, fun k hk => Nat.le_trans b.size (h2 k hk), fun k h4 h5 => by have := a.lt k h4; have := h2 k h5; omega, fun _ h => h.elim⟩, h3⟩
  · rw [hv] at h1; cases h1
theorem tw_send (h : Tw w0 w O c s d t) (ok : Ok s) (now er : Int) (L : List Int) (s' : St) (hE : sErr s now = er) (hL : sArr s now = L) (hS : sSt s now = s') :
    Calls Try.prog 13 #[.pointer (some ⟨c, 0, none⟩), .int .i64 now] w fun e w' => ∃ A cc, e = .returned (.tuple #[.slice A L.length cc, .int .i64 er]) ∧ OwnI 3 w' (.slice A L.length cc) L ∧ Tw w0 w' (fun k => O k ∨ (Value.slice A L.length cc).ownBlock = some k) c s' d t ∧ Chg (Oth w0 O) w w' := by
  obtain ⟨O1, hs, hk⟩ := Two.left h
  refine (cs_send hs ok now er L s' hE hL hS).mono fun e w' he => ?_
  obtain ⟨A, cc, rfl, h1, h2, h3, h4⟩ := he
  have := hk w' s' (fun k => (Value.slice A L.length cc).ownBlock = some k) h2 h4 h3
  exact ⟨A, cc, rfl, h1, this.1, this.2⟩
theorem tw_send2 (h : Tw w0 w O c s d t) (ok : Ok t) (now er : Int) (L : List Int) (t' : St) (hE : sErr t now = er) (hL : sArr t now = L) (hS : sSt t now = t') :
    Calls Try.prog 13 #[.pointer (some ⟨d, 0, none⟩), .int .i64 now] w fun e w' => ∃ A cc, e = .returned (.tuple #[.slice A L.length cc, .int .i64 er]) ∧ OwnI 3 w' (.slice A L.length cc) L ∧ Tw w0 w' (fun k => O k ∨ (Value.slice A L.length cc).ownBlock = some k) c s d t' ∧ Chg (Oth w0 O) w w' := by
  refine (tw_send h.swap ok now er L t' hE hL hS).mono fun e w' he => ?_
  obtain ⟨A, cc, rfl, h1, h2, h3⟩ := he
  exact ⟨A, cc, rfl, h1, h2.swap, h3⟩
end
theorem same_c {w : World} {A B : Option Addr} {c d n n2 : Nat} (l m : List Int) (hl : l.length ≤ 100000) (hn : l.length = n) (hm : m.length = n2) (h1 : l.length ≤ c ∧ Kd.C (Kd.int .i64) w A l.length l) (h2 : m.length ≤ d ∧ Kd.C (Kd.int .i64) w B m.length m) (r : Bool) (hr : decide (l = m) = r) :
    Calls Try.prog 15 #[.slice A n c, .slice B n2 d] w fun e w' => e = .returned (.bool r) ∧ Below w.heap.size w w' := by
  subst hn hm
  exact same_calls l m hl h1 h2 r hr
theorem own_stay {w w1 : World} {v : Value} {L : List Int} {F : Nat → Prop} (h : OwnI 3 w v L) (hc : Chg F w w1) (hd : ∀ k, v.ownBlock = some k → ¬ F k) : OwnI 3 w1 v L := OwnI.blocks h (fun k hk => hc.block k (OwnI.lt h k hk) (hd k hk))
theorem own_rd {w W : World} {A : Option Addr} {n c : Nat} {L : List Int} (h : OwnI 3 w (.slice A n c) L) (hb : Below w.heap.size w W) : L.length ≤ c ∧ Kd.C (Kd.int .i64) W A L.length L := by
  obtain ⟨h1, h2, h3⟩ := OwnI.readable h
  exact ⟨by omega, Kd.C_below h3 hb⟩
def sA : List Ft := [⟨3, 4⟩]
theorem own_lit (W : World) : OwnF 50 (W.alloc (.cells #[.int .i64 3, .int .i64 4] 50)) (.slice (some ⟨W.heap.size, 0, none⟩) 1 1) sA := ⟨rfl, .inr ⟨W.heap.size, 1, #[.int .i64 3, .int .i64 4], rfl, Nat.zero_le _, heap_alloc_new W _, Nat.le_refl _, by decide, rfl, rfl⟩⟩
theorem lit_reads (W : World) (x : Int) : [x].length ≤ 1 ∧ Kd.C (Kd.int .i64) (W.alloc (.cells #[.int .i64 x] 3)) (some ⟨W.heap.size, 0, none⟩) [x].length [x] := by
  have h := OwnI.readable (own_new1 W x (b := 0) rfl (Nat.zero_le _))
  exact ⟨h.2.1, h.2.2⟩
def c0 : St := ⟨3, 1, 1, [], [], 0, 0⟩
def c1 : St := ⟨3, 1, 1, [], [5], 1, 5⟩
def c2 : St := ⟨3, 1, 1, [], [5, 6], 2, 5⟩
def c3 : St := ⟨3, 1, 1, [], [5, 6], 3, 5⟩
def c4 : St := ⟨3, 1, 1, [], [5, 6, 7], 4, 6⟩
def d0 : St := ⟨3, 1, 1, sA, [], 0, 0⟩
def d1 : St := ⟨3, 1, 1, sA, [5], 1, 5⟩
theorem ok0 : Ok c0 := ok_new (by decide) (by decide)
theorem ok1 : Ok c1 := by have := ok0.step (by decide) (by decide) 5; exact this
theorem ok2 : Ok c2 := by have := ok1.step (by decide) (by decide) 5; exact this
theorem ok3 : Ok c3 := by have := ok2.step (by decide) (by decide) 5; exact this
theorem okd : Ok d0 := ok_new (by decide) (by decide)
set_option maxHeartbeats 8000000 in
set_option maxRecDepth 100000 in
theorem awake_calls (w : World) : Calls Try.prog 9 #[] w fun e w' => e = .returned (.bool true) ∧ Below w.heap.size w w' := by
  go_enter Try.func9, Try.ntmps9
  go_upto_region 11 with (first | (go_at_call 11; (with_reducible refine (cs_new (Below.refl _ w) 3 1 1 (.slice none 0 0) [] (OwnF.nil _ _) (by decide) (by decide)).mono ?_); rintro e w1 ⟨c, rfl, h1, b1⟩; have H1 := Aside0.mk (And.intro h1 b1); clear h1 b1) | (go_at_call 11; (with_reducible refine (tw_new (H1.out.1.keep ((Chg.refl _ _).alloc _)) 3 1 1 _ sA (own_lit w1) (by decide) (by decide)).mono ?_); rintro e w2 ⟨d, rfl, h2, b2⟩; have H2 : Aside0 (Tw w w2 (fun _ => False) c c0 d d0) := ⟨h2⟩; clear h2 b2) | (go_at_call 13; (with_reducible refine (tw_send H2.out ok0 5 0 [8] c1 (by decide) (by decide) rfl).mono ?_); rintro e w3 ⟨A3, k3, rfl, r3, h3, g3⟩; have H3 := Aside0.mk h3; have R3 := Aside0.mk r3; clear h3 r3 g3) | (go_at_call 13; (with_reducible refine (tw_send H3.out ok1 5 0 [9] c2 (by decide) (by decide) rfl).mono ?_); rintro e w4 ⟨A4, k4, rfl, r4, h4, g4⟩; have H4 := Aside0.mk h4; have R4 := Aside0.mk (And.intro r4 (own_stay R3.out g4 (fun k hk q => q.2 (.inr hk)))); clear h4 r4 g4) | (go_at_call 13; (with_reducible refine (tw_send H4.out ok2 5 12 [] c3 (by decide) (by decide) rfl).mono ?_); rintro e w5 ⟨A5, k5, rfl, r5, h5, g5⟩; have H5 := Aside0.mk h5; have R5 := Aside0.mk (And.intro (own_stay R4.out.1 g5 (fun k hk q => q.2 (.inr hk))) (own_stay R4.out.2 g5 (fun k hk q => q.2 (.inl (.inr hk))))); clear h5 r5 g5) | (go_at_call 13; (with_reducible refine (tw_send H5.out ok3 6 0 [10] c4 (by decide) (by decide) rfl).mono ?_); rintro e w6 ⟨A6, k6, rfl, r6, h6, g6⟩; have H6 := Aside0.mk h6; have R6 := Aside0.mk (And.intro r6 (And.intro (own_stay R5.out.1 g6 (fun k hk q => q.2 (.inl (.inr hk)))) (own_stay R5.out.2 g6 (fun k hk q => q.2 (.inl (.inl (.inr hk))))))); clear h6 r6 g6) | (go_at_call 13; (with_reducible refine (tw_send2 H6.out okd 5 0 [12] d1 (by decide) (by decide) rfl).mono ?_); rintro e w7 ⟨A7, k7, rfl, r7, h7, g7⟩; have H7 := Aside0.mk h7; have R7 := Aside0.mk (And.intro r7 (And.intro (own_stay R6.out.1 g7 (fun k hk q => q.2 (.inr hk))) (And.intro (own_stay R6.out.2.1 g7 (fun k hk q => q.2 (.inl (.inl (.inr hk))))) (own_stay R6.out.2.2 g7 (fun k hk q => q.2 (.inl (.inl (.inl (.inr hk))))))))); clear h7 r7 g7))
  have B7 := Aside0.mk (Two.below H7.out)
  go_wp2_with (first | (go_at_call 15; (with_reducible refine (same_c (n := 1) (n2 := 1) [8] [8] (by decide) rfl rfl (own_rd R7.out.2.2.2 ((Below.refl _ _).alloc (Nat.le_refl _) _)) (lit_reads w7 8) true (by decide)).mono ?_); rintro e w8 ⟨rfl, h8⟩; have H8 := Aside0.mk (below_step ((Below.refl _ w7).alloc (Nat.le_refl _) _) h8); clear h8) | (go_at_call 15; (with_reducible refine (same_c (n := 1) (n2 := 1) [9] [9] (by decide) rfl rfl (own_rd R7.out.2.2.1 (H8.out.alloc H8.out.size _)) (lit_reads w8 9) true (by decide)).mono ?_); rintro e w9 ⟨rfl, h9⟩; have H9 := Aside0.mk (below_step (H8.out.alloc H8.out.size _) h9); clear h9) | (go_at_call 15; (with_reducible refine (same_c (n := 1) (n2 := 1) [10] [10] (by decide) rfl rfl (own_rd R7.out.2.1 (H9.out.alloc H9.out.size _)) (lit_reads w9 10) true (by decide)).mono ?_); rintro e w10 ⟨rfl, h10⟩; have H10 := Aside0.mk (below_step (H9.out.alloc H9.out.size _) h10); clear h10) | (go_at_call 15; (with_reducible refine (same_c (n := 1) (n2 := 1) [12] [12] (by decide) rfl rfl (own_rd R7.out.1 (H10.out.alloc H10.out.size _)) (lit_reads w10 12) true (by decide)).mono ?_); rintro e w11 ⟨rfl, h11⟩; have H11 := Aside0.mk (below_step (H10.out.alloc H10.out.size _) h11); clear h11))
  go_ret
  exact ⟨rfl, below_step B7.out H11.out⟩
end Go.Proofs.Ytkdkdhbkmhkjfaa.Ch

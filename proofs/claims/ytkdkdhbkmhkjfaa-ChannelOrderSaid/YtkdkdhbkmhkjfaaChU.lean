/- The contracts beside other things; the example of the document. -/
import Derived.Test.YtkdkdhbkmhkjfaaChS
namespace Go.Proofs.Ytkdkdhbkmhkjfaa.Ch
open Go.RowKit Go.Proofs.YtkdkdhbkmhkjfaaW.PrintWords Go.Proofs.YtkdkdhbkmhkjfaaW.PrintLast Go.Proofs.Ytkdkdhbkmhkjfaa.Sep Go.Proofs.Ytkdkdhbkmhkjfaa.ChP Go.Proofs.Ytkdkdhbkmhkjfaa.PT52
set_option linter.unusedVariables false
set_option linter.unusedSimpArgs false

theorem OwnI.readable {w : World} {A : Option Addr} {n c : Nat} {L : List Int} (h : OwnI 3 w (.slice A n c) L) : n = L.length ∧ n ≤ c ∧ Kd.C (Kd.int .i64) w A L.length L := by
  have hR : Kd.R (Kd.int .i64) 3 w 0 (fun _ => True) (.slice A n c) L := Kd.R_of_own (enc := Value.int .i64) (h1 := fun _ => rfl) h (fun _ _ => trivial)
  exact Kd.R_reads' hR
theorem OwnI.kept {w w1 : World} {v : Value} {L : List Int} {F : Nat → Prop} (h : OwnI 3 w v L) (hc : Chg F w w1) (hd : ∀ k, v.ownBlock = some k → ¬ F k) : OwnI 3 w1 v L := h.blocks (fun k hk => hc.block k (h.lt k hk) (hd k hk))
theorem Ok.off {s : St} (h : Ok s) (hoff : s.off + 1 ≤ 10000) (x : Int) : Ok { s with off := s.off + 1, la := x } := ⟨h.inv, h.nums, h.fates, by have := h.off0; show 0 ≤ s.off + 1; omega, hoff, h.len, h.scl⟩
theorem err_time {s : St} {now : Int} (h : sErr s now = 0) : 0 ≤ now ∧ now ≤ 1073741824 ∧ s.la ≤ now := by
  unfold sErr at h
  by_cases c1 : now < 0
  · rw [if_pos c1] at h; cases h
  rw [if_neg c1] at h
  by_cases c2 : 1073741824 < now
  · rw [if_pos c2] at h; cases h
  rw [if_neg c2] at h
  by_cases c3 : now < s.la
  · rw [if_pos c3] at h; cases h
  omega
theorem Ok.step {s : St} (h : Ok s) (hoff : s.off + 1 ≤ 10000) (hl : s.ds.length + 1 ≤ 10000) (now : Int) : Ok (sSt s now) := by
  unfold sSt
  by_cases e0 : sErr s now = 0
  · rw [if_pos e0]
    have ht := err_time e0
    exact ⟨h.inv.push ht.1 ht.2.1 (by omega), h.nums, h.fates, by have := h.off0; show 0 ≤ s.off + 1; omega, hoff, by show (s.ds ++ [dep s.rt s.ds now]).length ≤ 10000; rw [List.length_append]; simpa using hl, h.scl⟩
  · rw [if_neg e0]
    by_cases e1 : sErr s now = 12
    · rw [if_pos e1]
      exact h.off hoff now
    · rw [if_neg e1]
      exact h
section
variable {w0 w w1 : World} {O : Nat → Prop} {c d : Nat} {s t s' t' : St}
theorem cs_new (hb : Below w0.heap.size w0 w) (dl rt rm : Int) (v : Value) (sc : List Ft) (ho : OwnF 50 w v sc) (hl : sc.length ≤ 100000) (hv : valid dl rt rm sc = true) :
    Calls Try.prog 11 #[.int .i64 dl, .int .i64 rt, .int .i64 rm, v] w fun e w' => ∃ c, e = .returned (.tuple #[.pointer (some ⟨c, 0, none⟩), .int .i64 0]) ∧ CS 55 50 w0 w' (fun _ => False) c ⟨dl, rt, rm, sc, [], 0, 0⟩ ∧ Below w.heap.size w w' := by
  refine (new_calls dl rt rm v sc w ho hl).mono fun e w' he => ?_
  rcases he with ⟨_, c, rfl, ⟨G, h1, h2⟩, h3⟩ | ⟨h1, _⟩
  · exact ⟨c, rfl, ⟨G, h1, below_then hb hb.size h3, fun k hk => Nat.le_trans hb.size (h2 k hk), fun _ h => h.elim⟩, h3⟩
  · rw [hv] at h1; cases h1
theorem cs_new_no (dl rt rm : Int) (v : Value) (sc : List Ft) (ho : OwnF 50 w v sc) (hl : sc.length ≤ 100000) (hv : valid dl rt rm sc = false) :
    Calls Try.prog 11 #[.int .i64 dl, .int .i64 rt, .int .i64 rm, v] w fun e w' => e = .returned (.tuple #[.pointer none, .int .i64 1]) ∧ Below w.heap.size w w' := by
  refine (new_calls dl rt rm v sc w ho hl).mono fun e w' he => ?_
  rcases he with ⟨h1, _⟩ | ⟨_, rfl, h3⟩
  · rw [hv] at h1; cases h1
  · exact ⟨rfl, h3⟩
theorem ok_new {dl rt rm : Int} {sc : List Ft} (hv : valid dl rt rm sc = true) (hl : sc.length ≤ 100000) : Ok ⟨dl, rt, rm, sc, [], 0, 0⟩ := by
  simp only [valid, Bool.and_eq_true] at hv
  exact ⟨Inv.nil, hv.1, hv.2, Int.le_refl _, show (0 : Int) ≤ 10000 by decide, Nat.zero_le _, hl⟩
theorem cs_send (h : CS 55 50 w0 w O c s) (ok : Ok s) (now er : Int) (L : List Int) (s' : St) (hE : sErr s now = er) (hL : sArr s now = L) (hS : sSt s now = s') :
    Calls Try.prog 13 #[.pointer (some ⟨c, 0, none⟩), .int .i64 now] w fun e w' => ∃ A cc, e = .returned (.tuple #[.slice A L.length cc, .int .i64 er]) ∧ OwnI 3 w' (.slice A L.length cc) L ∧ CS 55 50 w0 w' (fun k => O k ∨ (Value.slice A L.length cc).ownBlock = some k) c s' ∧ Chg (Oth w0 O) w w' ∧ ∀ k, (Value.slice A L.length cc).ownBlock = some k → w.heap.size ≤ k := by
  subst hE hL hS
  obtain ⟨G, a, b, hG, hO⟩ := h
  refine (send_calls a ok now).mono fun e w' he => ?_
  obtain ⟨v, rfl, h1, h2⟩ := he
  obtain ⟨A, cc, rfl⟩ := h1.slice
  have hp := CS.post hG hO b h2
  obtain ⟨_, _, _, _, hv⟩ := h2
  exact ⟨A, cc, rfl, h1, hp.1, hp.2, fun k hk => (hv k hk).1⟩
theorem cs_wait (h : CS 55 50 w0 w O c s) (ok : Ok s) (now : Int) :
    Calls Try.prog 16 #[.pointer (some ⟨c, 0, none⟩), .int .i64 now] w fun e w' => e = .returned (.int .i64 (wait s.ds now : Int)) ∧ Below w.heap.size w w' := by
  obtain ⟨G, ⟨vs, vd, hv, _⟩, _⟩ := h
  exact wait_c hv ok.inv now _ rfl
theorem cs_off (h : CS 55 50 w0 w O c s) :
    Calls Try.prog 20 #[.pointer (some ⟨c, 0, none⟩)] w fun e w' => e = .returned (.int .i64 s.off) ∧ w = w' := by
  obtain ⟨G, ⟨vs, vd, hv, _⟩, _⟩ := h
  exact offered_calls hv
theorem CS.old (h : CS 55 50 w0 w O c s) (hb : Below w.heap.size w w1) : CS 55 50 w0 w1 O c s := h.keep (Chg.of_below hb)
end
theorem wait_nil (now : Int) (w : World) : Calls Try.prog 16 #[.pointer none, .int .i64 now] w fun e w' => e = .returned (.int .i64 0) ∧ Below w.heap.size w w' := by
  have hb : Below w.heap.size w (w.alloc (.cells #[.int .i64 now] 3)) := (Below.refl _ _).alloc (Nat.le_refl _) _
  have HB := Aside0.mk hb
  clear hb
  go_enter Try.func16, Try.ntmps16
  go_wp2
  go_ret
  exact ⟨rfl, HB.out⟩
/-- SameInts of two rows that can be read. -/
theorem same_any (l m : List Int) (hl : l.length ≤ 100000) : ∀ (d i k : Nat), d + i = l.length → l.length = m.length → d < k → waypointref09_SameInts.l0 k l m (i : Int) = some (decide (l.drop i = m.drop i)) := by
  intro d
  induction d with
  | zero =>
    intro i k hd hm hk
    obtain ⟨k, rfl⟩ : ∃ q, k = q + 1 := ⟨k - 1, by omega⟩
    rw [List.drop_eq_nil_of_le (by omega), List.drop_eq_nil_of_le (by omega)]
    simp only [waypointref09_SameInts.l0]
    rw [if_neg (by omega)]
    rfl
  | succ d ih =>
    intro i k hd hm hk
    obtain ⟨k, rfl⟩ : ∃ q, k = q + 1 := ⟨k - 1, by omega⟩
    have hi : i < l.length := by omega
    have e1 : l.drop i = rd l (i : Int) :: l.drop (i + 1) := by
      rw [List.drop_eq_getElem_cons hi]; congr 1; simp [rd, hi]
    have e2 : m.drop i = rd m (i : Int) :: m.drop (i + 1) := by
      rw [List.drop_eq_getElem_cons (by omega)]; congr 1; simp [rd, show i < m.length by omega]
    rw [e1, e2]
    simp only [waypointref09_SameInts.l0]
    rw [if_pos (by omega), if_pos (by omega), if_pos (by omega)]
    have hw : wrap64 ((i : Int) + 1) = ((i + 1 : Nat) : Int) := by unfold wrap64; omega
    by_cases c : rd l (i : Int) = rd m (i : Int)
    · rw [if_pos c, hw, ih (i + 1) k (by omega) hm (by omega), c]
      simp
    · rw [if_neg c]
      simp [c]
theorem same_calls {w : World} {A B : Option Addr} {c d : Nat} (l m : List Int) (hl : l.length ≤ 100000) (h1 : l.length ≤ c ∧ Kd.C (Kd.int .i64) w A l.length l) (h2 : m.length ≤ d ∧ Kd.C (Kd.int .i64) w B m.length m) (r : Bool) (hr : decide (l = m) = r) :
    Calls Try.prog 15 #[.slice A l.length c, .slice B m.length d] w fun e w' => e = .returned (.bool r) ∧ Below w.heap.size w w' := by
  have hf : waypointref09_SameInts.f (l.length + 1) l m = some r := by
    unfold waypointref09_SameInts.f
    by_cases e : (l.length : Int) = (m.length : Int)
    · rw [if_pos e, ← hr]
      have := same_any l m hl l.length 0 (l.length + 1) (by omega) (by omega) (by omega)
      simpa using this
    · rw [if_neg e, ← hr]
      congr 1
      symm
      exact decide_eq_false (fun q => e (by rw [q]))
  refine (waypointref09_SameInts.calls (l.length + 1) A c l B d m r w h1.2 h1.1 h2.2 h2.1 hf).mono ?_
  rintro e w' ⟨rfl, ⟨nd, rfl⟩⟩
  exact ⟨rfl, pw_below_drewN (Below.refl _ _) nd⟩
end Go.Proofs.Ytkdkdhbkmhkjfaa.Ch

/- What a round of a law needs: a channel, the row of the times. -/
import Derived.Test.YtkdkdhbkmhkjfaaChX
namespace Go.Proofs.Ytkdkdhbkmhkjfaa.Ch
open Go.RowKit Go.Proofs.YtkdkdhbkmhkjfaaW.PrintWords Go.Proofs.YtkdkdhbkmhkjfaaW.PrintLast Go.Proofs.Ytkdkdhbkmhkjfaa.Sep Go.Proofs.Ytkdkdhbkmhkjfaa.ChP Go.Proofs.Ytkdkdhbkmhkjfaa.PT52
set_option linter.unusedVariables false
set_option linter.unusedSimpArgs false

def byOk (l : List Int) : Bool := l.all fun x => decide (0 ≤ x) && decide (x ≤ 255)
theorem byOk_by {l : List Int} (h : byOk l = true) : By l := fun x hx => by
  simp only [byOk, List.all_eq_true, Bool.and_eq_true, decide_eq_true_eq] at h
  exact h x hx
structure SameCfg (s t : St) : Prop where
  dl : t.dl = s.dl
  rt : t.rt = s.rt
  rm : t.rm = s.rm
  sc : t.sc = s.sc
theorem step_facts {s : St} {x : Int} (h0 : 0 ≤ x) (h1 : x ≤ 1073741824) (h2 : s.la ≤ x) : (sSt s x).off = s.off + 1 ∧ (sSt s x).la = x ∧ (sSt s x).ds.length ≤ s.ds.length + 1 ∧ SameCfg s (sSt s x) ∧ ((sErr s x = 0 ∧ (sSt s x).ds = s.ds ++ [dep s.rt s.ds x]) ∨ (sErr s x = 12 ∧ (sSt s x).ds = s.ds)) := by
  unfold sSt
  rcases err_cases h0 h1 h2 with ⟨e, _⟩ | ⟨e, _⟩
  · rw [if_pos e]
    exact ⟨rfl, rfl, by show (s.ds ++ [_]).length ≤ _; simp, ⟨rfl, rfl, rfl, rfl⟩, .inl ⟨e, rfl⟩⟩
  · rw [if_neg (by rw [e]; decide), if_pos e]
    exact ⟨rfl, rfl, Nat.le_succ _, ⟨rfl, rfl, rfl, rfl⟩, .inr ⟨e, rfl⟩⟩
structure IR (w2 wr : World) (O : Nat → Prop) (c : Nat) (row : Value) (S : List Int) (s : St) (i : Nat) (nw : Int) : Prop where
  cs : CS 55 50 w2 wr O c s
  ok : Ok s
  off : s.off = (i : Int)
  len : s.ds.length ≤ i
  la : s.la = nw
  row_ : OwnI 3 wr row S
  rowO : ∀ k, row.ownBlock = some k → O k
theorem IR.send {w2 wr : World} {O : Nat → Prop} {c : Nat} {row : Value} {S : List Int} {s : St} {i : Nat} {nw x : Int} (h : IR w2 wr O c row S s i nw) (hx : nw ≤ x) (h0 : 0 ≤ x) (h1 : x ≤ 1073741824) (hi : i ≤ 5000) (er : Int) (hE : sErr s x = er) (L : List Int) (hL : sArr s x = L) :
    Calls Try.prog 13 #[.pointer (some ⟨c, 0, none⟩), .int .i64 x] wr fun e w' => ∃ A cc, e = .returned (.tuple #[.slice A L.length cc, .int .i64 er]) ∧ OwnI 3 w' (.slice A L.length cc) L ∧ IR w2 w' (fun k => O k ∨ (Value.slice A L.length cc).ownBlock = some k) c row S (sSt s x) (i + 1) x ∧ Chg (Oth w2 O) wr w' := by
  have hf := step_facts h0 h1 (by rw [h.la]; exact hx)
  refine (cs_send h.cs h.ok x er L (sSt s x) hE hL rfl).mono fun e w' he => ?_
  obtain ⟨A, cc, rfl, r1, r2, r3, _⟩ := he
  exact ⟨A, cc, rfl, r1, ⟨r2, h.ok.step (by have := h.off; omega) (by have := h.len; omega) x, by have := h.off; omega, by have := h.len; omega, hf.2.1, own_stay h.row_ r3 (fun k hk q => q.2 (h.rowO k hk)), fun k hk => .inl (h.rowO k hk)⟩, r3⟩
theorem IR.less {w2 wr : World} {O O' : Nat → Prop} {c : Nat} {row : Value} {S : List Int} {s : St} {i : Nat} {nw : Int} (h : IR w2 wr O c row S s i nw) (ho : ∀ k, O' k → O k) (hr : ∀ k, row.ownBlock = some k → O' k) : IR w2 wr O' c row S s i nw := ⟨h.cs.less ho, h.ok, h.off, h.len, h.la, h.row_, hr⟩
theorem IR.keep {w2 wr w1 : World} {O : Nat → Prop} {c : Nat} {row : Value} {S : List Int} {s : St} {i : Nat} {nw : Int} (h : IR w2 wr O c row S s i nw) (hb : Below wr.heap.size wr w1) : IR w2 w1 O c row S s i nw := ⟨h.cs.old hb, h.ok, h.off, h.len, h.la, own_stay h.row_ (Chg.of_below (F := fun _ => False) hb) (fun _ _ q => q), h.rowO⟩
/-- A time of the row. -/
theorem IR.at_ {w2 wr : World} {O : Nat → Prop} {c : Nat} {B : Option Addr} {d N : Nat} {S : List Int} {s : St} {i : Nat} {nw : Int} (h : IR w2 wr O c (.slice B N d) S s i nw) {k : Nat} (hk : k < S.length) : ∃ g, B = some ⟨g, 0, none⟩ ∧ wr.cell? ⟨g, k, none⟩ = some (.int .i64 (gl S k)) := by
  obtain ⟨g, c2, e, _⟩ := OwnI.form h.row_ (by omega)
  injection e with e1 e2 e3
  subst e1
  exact ⟨g, rfl, OwnI.cell h.row_ k hk⟩
theorem stp_at (l : List Int) (now : Int) (h0 : 0 ≤ now) : ∀ k, k < l.length → 0 ≤ gl (stp now l) k ∧ gl (stp now l) k ≤ now + 7 * (l.length : Int) ∧ (k + 1 < l.length → gl (stp now l) k ≤ gl (stp now l) (k + 1)) := by
  intro k hk
  have hl := stp_len l now
  have h1 := stp_ge l now _ (gl_mem (l := stp now l) (i := k) (by omega))
  refine ⟨by omega, h1.2, fun h2 => ?_⟩
  rw [gl_get (by omega), gl_get (by omega)]
  exact List.pairwise_iff_getElem.1 (stp_sorted l now) k (k + 1) (by omega) (by omega) (by omega)
/-- No departure is far ahead of the present. -/
def Near (s : St) (nw : Int) : Prop := ∀ t ∈ s.ds, t ≤ nw + (s.ds.length : Int)
theorem dep_near {rt : Int} {ds : List Int} {nw x : Int} (h : ∀ t ∈ ds, t ≤ nw + (ds.length : Int)) (hx : nw ≤ x) : dep rt ds x ≤ x + ((ds.length : Int) + 1) := by
  unfold dep
  by_cases c1 : ds.length = 0
  · rw [if_pos c1]; omega
  · rw [if_neg c1]
    have hl := h _ (gl_mem (l := ds) (i := ds.length - 1) (by omega))
    have : last ds = gl ds (ds.length - 1) := rfl
    by_cases c2 : last ds < x
    · rw [if_pos c2]; omega
    · rw [if_neg c2]
      split <;> omega
theorem Near.step {s : St} {nw x : Int} (h : Near s nw) (hx : nw ≤ x) (h0 : 0 ≤ x) (h1 : x ≤ 1073741824) (h2 : s.la ≤ x) : Near (sSt s x) x := by
  have hf := step_facts h0 h1 h2
  unfold Near
  rcases hf.2.2.2.2 with ⟨_, e⟩ | ⟨_, e⟩
  · rw [e]
    intro t ht
    rw [List.length_append, List.length_singleton]
    rcases List.mem_append.1 ht with ht | ht
    · have := h t ht; omega
    · simp only [List.mem_singleton] at ht
      subst ht
      have := dep_near (rt := s.rt) h hx
      omega
  · rw [e]
    intro t ht
    have := h t ht; omega
theorem Near.idle {s : St} {nw x : Int} (h : Near s nw) (hx : nw + (s.ds.length : Int) < x) (hz : nw ≤ x) : dep s.rt s.ds x = x ∧ wait s.ds x = 0 ∧ wait (s.ds ++ [x]) x = 0 := by
  have hw : wait s.ds x = 0 := by
    unfold wait
    rw [List.length_eq_zero_iff, List.filter_eq_nil_iff]
    intro t ht
    have := h t ht
    simp; omega
  refine ⟨?_, hw, ?_⟩
  · unfold dep
    by_cases c1 : s.ds.length = 0
    · rw [if_pos c1]
    · rw [if_neg c1]
      have hl := h _ (gl_mem (l := s.ds) (i := s.ds.length - 1) (by omega))
      have : last s.ds = gl s.ds (s.ds.length - 1) := rfl
      rw [if_pos (by omega)]
  · unfold wait at hw ⊢
    rw [List.filter_append, List.length_append, hw]
    simp
end Go.Proofs.Ytkdkdhbkmhkjfaa.Ch

/- The times of the laws, and a channel's rows of the law. -/
import Derived.Test.YtkdkdhbkmhkjfaaChV
namespace Go.Proofs.Ytkdkdhbkmhkjfaa.Ch
open Go.RowKit Go.Proofs.YtkdkdhbkmhkjfaaW.PrintWords Go.Proofs.YtkdkdhbkmhkjfaaW.PrintLast Go.Proofs.Ytkdkdhbkmhkjfaa.Sep Go.Proofs.Ytkdkdhbkmhkjfaa.ChP Go.Proofs.Ytkdkdhbkmhkjfaa.PT52
set_option linter.unusedVariables false
set_option linter.unusedSimpArgs false

def By (l : List Int) : Prop := ∀ x ∈ l, 0 ≤ x ∧ x ≤ 255
def stp : Int → List Int → List Int
  | _, [] => []
  | now, d :: r => (now + d % 8) :: stp (now + d % 8) r
theorem stp_len : ∀ (l : List Int) (now : Int), (stp now l).length = l.length
  | [], _ => rfl
  | d :: r, now => by simp [stp, stp_len r]
theorem stp_ge : ∀ (l : List Int) (now : Int), ∀ x ∈ stp now l, now ≤ x ∧ x ≤ now + 7 * (l.length : Int)
  | [], _ => fun x hx => by simp [stp] at hx
  | d :: r, now => fun x hx => by
    simp only [stp, List.mem_cons] at hx
    simp only [List.length_cons]
    rcases hx with rfl | hx
    · omega
    · have := stp_ge r (now + d % 8) x hx
      omega
theorem stp_sorted : ∀ (l : List Int) (now : Int), (stp now l).Pairwise (· ≤ ·)
  | [], _ => List.Pairwise.nil
  | d :: r, now => List.pairwise_cons.2 ⟨fun x hx => (stp_ge r _ x hx).1, stp_sorted r _⟩
theorem rd_dropI {l : List Int} {i : Nat} (h : i < l.length) : l.drop i = rd l (i : Int) :: l.drop (i + 1) := by
  rw [List.drop_eq_getElem_cons h]
  congr 1
  simp [rd, h]
theorem big_ok {n : Nat} (h : n ≤ 1000) : n < 17592186044416 := Nat.lt_of_le_of_lt h (by decide)
theorem wr_mod (x : Int) (h0 : 0 ≤ x) : wrap64 (x.tmod 8) = x % 8 := by
  rw [Int.tmod_eq_emod_of_nonneg h0]
  unfold wrap64
  omega
theorem wr_id (x : Int) (h0 : 0 ≤ x) (h1 : x ≤ 100000) : wrap64 x = x := by unfold wrap64; omega
theorem steps_round (k : Nat) (now : Int) (acc l : List Int) (i : Int) (q1 : i < (l.length : Int)) (q2 : 0 ≤ i) (q4 : acc.length < 17592186044416) : waypointlaw52_steps.l0 (k + 1) now acc l (l.length : Int) i = waypointlaw52_steps.l0 k (wrap64 (now + wrap64 ((rd l i).tmod 8))) (acc ++ [wrap64 (now + wrap64 ((rd l i).tmod 8))]) l (l.length : Int) (wrap64 (i + 1)) := by
  rw [waypointlaw52_steps.l0, if_pos q1, if_pos q2, if_pos q1, if_pos q4]
theorem steps_loop (l : List Int) (hb : By l) (hl : l.length ≤ 1000) : ∀ (d i k : Nat) (now : Int) (acc : List Int), d + i = l.length → d < k → 0 ≤ now → now ≤ 7 * (i : Int) → acc.length = i → waypointlaw52_steps.l0 k now acc l (l.length : Int) (i : Int) = some (acc ++ stp now (l.drop i)) := by
  intro d
  induction d with
  | zero =>
    intro i k now acc hd hk h0 h1 ha
    obtain ⟨k, rfl⟩ : ∃ q, k = q + 1 := ⟨k - 1, by omega⟩
    rw [List.drop_eq_nil_of_le (by omega)]
    simp only [waypointlaw52_steps.l0, stp]
    rw [if_neg (by omega)]
    simp
  | succ d ih =>
    intro i k now acc hd hk h0 h1 ha
    obtain ⟨k, rfl⟩ : ∃ q, k = q + 1 := ⟨k - 1, by omega⟩
    have hi : i < l.length := by omega
    rw [rd_dropI hi]
    have hx : 0 ≤ rd l (i : Int) ∧ rd l (i : Int) ≤ 255 := hb _ (by simp [rd, hi])
    rw [stp]
    obtain ⟨x, hxx⟩ : ∃ x, rd l (i : Int) = x := ⟨_, rfl⟩
    rw [hxx] at hx
    rw [hxx]
    have q1 : (i : Int) < (l.length : Int) := by omega
    have q2 : (0 : Int) ≤ (i : Int) := by omega
    have q4 : acc.length < 17592186044416 := big_ok (by omega)
    have r1 := ih (i + 1) k (now + x % 8) (acc ++ [now + x % 8]) (by omega) (by omega) (by omega) (by omega) (by simp [ha])
    have e1 : wrap64 (x.tmod 8) = x % 8 := wr_mod x hx.1
    have e2 : wrap64 (now + x % 8) = now + x % 8 := wr_id _ (by omega) (by omega)
    have e3 : wrap64 ((i : Int) + 1) = ((i + 1 : Nat) : Int) := wr_id _ (by omega) (by omega)
    rw [steps_round k now acc l i q1 q2 q4, hxx, e1, e2, e3, r1, List.append_assoc]
    rfl
/-- The steps: a row of their own. -/
theorem steps_c {w : World} {A : Option Addr} {c : Nat} (l : List Int) (hr : Kd.C (Kd.int .u8) w A l.length l) (hc : l.length ≤ c) (hb : By l) (hl : l.length ≤ 200) :
    Calls Try.prog 12 #[.slice A l.length c] w fun e w' => ∃ B d, e = .returned (.slice B l.length d) ∧ OwnI 3 w' (.slice B l.length d) (stp 0 l) ∧ Below w.heap.size w w' ∧ ∀ k, (Value.slice B l.length d).ownBlock = some k → w.heap.size ≤ k := by
  have hf : waypointlaw52_steps.f (l.length + 1) l = some (stp 0 l) := by
    unfold waypointlaw52_steps.f
    have := steps_loop l hb (by omega) l.length 0 (l.length + 1) 0 [] (by omega) (by omega) (by omega) (by omega) rfl
    simpa using this
  refine (waypointlaw52_steps.calls (l.length + 1) A c l (stp 0 l) w hr hc hf).mono ?_
  rintro e w' ⟨v, rfl, hR, hb⟩
  have hb2 := Kd.R_base hR
  have ho : OwnI 3 w' v (stp 0 l) := own_less (Kd.own_of_R hR) (Nat.zero_le _)
  obtain ⟨B, d, rfl⟩ := OwnI.slice ho
  rw [stp_len] at ho hb2 ⊢
  exact ⟨B, d, rfl, ho, hb, hb2⟩
theorem large_c {w : World} {A B : Option Addr} {c d : Nat} (x y z : Int) (sc : List S40) (ts : List Int) (h1 : Kd.C k40 w A sc.length sc) (h2 : sc.length ≤ c) (h3 : Kd.C (Kd.int .i64) w B ts.length ts) (h4 : ts.length ≤ d) (r : Bool) (hr : (decide (200 < (sc.length : Int)) || decide (200 < (ts.length : Int))) = r) :
    Calls Try.prog 10 #[.agg #[.int .i64 x, .int .i64 y, .int .i64 z, .slice A sc.length c, .slice B ts.length d]] w fun e w' => e = .returned (.bool r) ∧ Below w.heap.size w w' := by
  refine waypointlaw52_large.calls x y z A c sc B d ts r w h1 h2 h3 h4 ?_
  unfold waypointlaw52_large.f
  rw [← hr]
  by_cases q : (sc.length : Int) > 200
  · rw [if_pos q, decide_eq_true (show 200 < (sc.length : Int) from q)]
    rfl
  · rw [if_neg q, decide_eq_false (show ¬ 200 < (sc.length : Int) from q)]
    rfl
theorem large_c' {w : World} {A B : Option Addr} {c d N M : Nat} (x y z : Int) (sc : List S40) (ts : List Int) (h1 : Kd.C k40 w A sc.length sc) (h2 : sc.length ≤ c) (h3 : Kd.C (Kd.int .i64) w B ts.length ts) (h4 : ts.length ≤ d) (r : Bool) (hr : (decide (200 < (sc.length : Int)) || decide (200 < (ts.length : Int))) = r) (hN : sc.length = N) (hM : ts.length = M) :
    Calls Try.prog 10 #[.agg #[.int .i64 x, .int .i64 y, .int .i64 z, .slice A N c, .slice B M d]] w fun e w' => e = .returned (.bool r) ∧ Below w.heap.size w w' := by
  subst hN hM
  exact large_c x y z sc ts h1 h2 h3 h4 r hr
theorem valid_nil {dl rt rm : Int} (h : numsOk dl rt rm = true) : valid dl rt rm [] = true := by simp [valid, h]
theorem err_cases {s : St} {now : Int} (h0 : 0 ≤ now) (h1 : now ≤ 1073741824) (h2 : s.la ≤ now) : (sErr s now = 0 ∧ full s.rt s.rm s.ds now = false) ∨ (sErr s now = 12 ∧ full s.rt s.rm s.ds now = true) := by
  unfold sErr
  rw [if_neg (by omega), if_neg (by omega), if_neg (by omega)]
  cases full s.rt s.rm s.ds now
  · exact .inl ⟨rfl, rfl⟩
  · exact .inr ⟨rfl, rfl⟩
end Go.Proofs.Ytkdkdhbkmhkjfaa.Ch

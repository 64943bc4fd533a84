/- Plain laws of the label stacks: Unpack, the program's and the reference's, and that it undoes Pack. No Go, no memory. -/
import Derived.Test.YtbphaaaobgmejaaLabA
import Derived.Test.YtbphaaaobgmejaaPT1914
import Derived.Test.YtbphaaaobgmejaaPT1915
namespace Go.Proofs.Ytbphaaaobgmejaa.Lab
open Go.RowKit Go.Proofs.Ytbphaaaobgmejaa.PT19 Go.Proofs.YtbphaaaobgmejaaW.PrintWords Go.Proofs.YtbphaaaobgmejaaW.PrintLast

/-- All elements are bytes. -/
def By (l : List Int) : Prop := ∀ x ∈ l, 0 ≤ x ∧ x ≤ 255
theorem by_of {l : List Int} (h : ∀ x ∈ l, (Lit.int .u8 x).wf = true) : By l := fun x hx => by
  have := h x hx
  simp [Lit.wf, IntKind.min, IntKind.max, IntKind.signed, IntKind.bits] at this
  omega
theorem bytes_inj : ∀ {l m : List Int}, By l → By m → (strOfNums l).toList = (strOfNums m).toList → l = m := by
  intro l m hl hm h
  rw [ByteArray.toList_eq, strOfNums_data, ByteArray.toList_eq, strOfNums_data] at h
  induction l generalizing m with
  | nil => cases m with
    | nil => rfl
    | cons _ _ => simp at h
  | cons x l ih => cases m with
    | nil => simp at h
    | cons y m =>
      simp only [List.map_cons, List.cons.injEq] at h
      have hx := hl x (by simp)
      have hy := hm y (by simp)
      have h1 := congrArg UInt8.toNat h.1
      simp at h1
      rw [ih (fun z hz => hl z (by simp [hz])) (fun z hz => hm z (by simp [hz])) h.2, show x = y by omega]
/-- The words of a string of bytes, and what a word tells. -/
def ws : List Int → List Int
  | b0 :: b1 :: b2 :: b3 :: r => (((b0 * 256 + b1) * 256 + b2) * 256 + b3) :: ws r
  | _ => []
def lb (n : Int) : S30 := ⟨(de (n / 4096)).1, (de (n / 4096)).2.1⟩
def ok (n : Int) : Prop := (de (n / 4096)).2.2 = 0
instance (n : Int) : Decidable (ok n) := inferInstanceAs (Decidable (_ = _))
abbrev cl (n : Int) : Int := n / 512 % 8
abbrev tt (n : Int) : Int := n % 256
abbrev bt (n : Int) : Bool := n / 256 % 2 == 1
def In (n : Int) : Prop := 0 ≤ n ∧ n < 4294967296
abbrev Res := List S30 × Int × Int × Int
/-- The program's loop, the reference's loop. -/
def up : List Int → Bool → List S30 → Int → Int → Res
  | [], _, acc, c, t => (acc, c, t, 0)
  | n :: r, first, acc, c, t => if ok n ∧ bt n = r.isEmpty ∧ (first = true ∨ cl n = c ∧ tt n = t) then up r false (acc ++ [lb n]) (cl n) (tt n) else ([], 0, 0, 4)
def ur (l : List Int) : List Int → List S30 → Int → Int → Res
  | [], acc, c, t => if (pack acc c t).1 = l then (acc, c, t, 0) else ([], 0, 0, 4)
  | n :: r, acc, _, _ => if ok n then ur l r (acc ++ [lb n]) (cl n) (tt n) else ([], 0, 0, 4)
def unp (l : List Int) : Res := if (l.length : Int) % 4 = 0 ∧ l.length ≤ 128 then up (ws l) true [] 0 0 else ([], 0, 0, 4)

/-- All words are those of good labels under one class and one time to live, and the last, and only it, has the bottom's bit. -/
def OKs (c t : Int) : List Int → Prop
  | [] => True
  | n :: r => (ok n ∧ bt n = r.isEmpty ∧ cl n = c ∧ tt n = t) ∧ OKs c t r
instance decOKs (c t : Int) : ∀ l, Decidable (OKs c t l)
  | [] => isTrue trivial
  | _ :: r => @instDecidableAnd _ _ inferInstance (decOKs c t r)
theorem up_false : ∀ (r : List Int) (acc : List S30) (c t : Int), up r false acc c t = if OKs c t r then (acc ++ r.map lb, c, t, 0) else ([], 0, 0, 4)
  | [], acc, c, t => by simp [up, OKs]
  | n :: r, acc, c, t => by
    simp only [up]
    by_cases h : ok n ∧ bt n = r.isEmpty ∧ cl n = c ∧ tt n = t
    · obtain ⟨h1, h2, h3, h4⟩ := h
      rw [if_pos ⟨h1, h2, Or.inr ⟨h3, h4⟩⟩, up_false r, h3, h4]
      by_cases h5 : OKs c t r
      · rw [if_pos h5, if_pos (show OKs c t (n :: r) from ⟨⟨h1, h2, h3, h4⟩, h5⟩)]; simp
      · rw [if_neg h5, if_neg (show ¬ OKs c t (n :: r) from fun h => h5 h.2)]
    · rw [if_neg (fun g => h ⟨g.1, g.2.1, by simpa using g.2.2⟩), if_neg (show ¬ OKs c t (n :: r) from fun g => h g.1)]
theorem up_first (n : Int) (r : List Int) : up (n :: r) true [] 0 0 = if OKs (cl n) (tt n) (n :: r) then ((n :: r).map lb, cl n, tt n, 0) else ([], 0, 0, 4) := by
  simp only [up, up_false]
  by_cases h : ok n ∧ bt n = r.isEmpty
  · rw [if_pos ⟨h.1, h.2, Or.inl trivial⟩]
    by_cases h5 : OKs (cl n) (tt n) r
    · rw [if_pos h5, if_pos (show OKs (cl n) (tt n) (n :: r) from ⟨⟨h.1, h.2, rfl, rfl⟩, h5⟩)]; simp
    · rw [if_neg h5, if_neg (show ¬ OKs (cl n) (tt n) (n :: r) from fun h => h5 h.2)]
  · rw [if_neg (fun g => h ⟨g.1, g.2.1⟩), if_neg (show ¬ OKs (cl n) (tt n) (n :: r) from fun g => h ⟨g.1.1, g.1.2.1⟩)]
def oks : List Int → Bool
  | [] => true
  | n :: r => decide (ok n) && oks r
def lastc (c : Int) : List Int → Int
  | [] => c
  | n :: r => lastc (cl n) r
def lastt (t : Int) : List Int → Int
  | [] => t
  | n :: r => lastt (tt n) r
theorem ur_eq (l : List Int) : ∀ (r : List Int) (acc : List S30) (c t : Int), ur l r acc c t = if oks r = true then (if (pack (acc ++ r.map lb) (lastc c r) (lastt t r)).1 = l then (acc ++ r.map lb, lastc c r, lastt t r, 0) else ([], 0, 0, 4)) else ([], 0, 0, 4)
  | [], acc, c, t => by simp [ur, oks, lastc, lastt]
  | n :: r, acc, c, t => by
    simp only [ur, lastc, lastt]
    have ho : oks (n :: r) = (decide (ok n) && oks r) := rfl
    rw [ho]
    by_cases h : ok n
    · rw [if_pos h, ur_eq l r, decide_eq_true h]; simp
    · rw [if_neg h, decide_eq_false h]; simp
theorem lastc_of : ∀ (r : List Int) (C T c : Int), OKs C T r → c = C → lastc c r = C
  | [], _, _, _, _, h => h
  | n :: r, C, T, _, ho, _ => lastc_of r C T (cl n) ho.2 ho.1.2.2.1
theorem lastt_of : ∀ (r : List Int) (C T t : Int), OKs C T r → t = T → lastt t r = T
  | [], _, _, _, _, h => h
  | n :: r, C, T, _, ho, _ => lastt_of r C T (tt n) ho.2 ho.1.2.2.2
theorem lastc_le : ∀ (r : List Int) (c : Int), 0 ≤ c → c ≤ 7 → 0 ≤ lastc c r ∧ lastc c r ≤ 7
  | [], _, h, h' => ⟨h, h'⟩
  | n :: r, _, _, _ => lastc_le r (cl n) (by unfold cl; omega) (by unfold cl; omega)
theorem lastt_le : ∀ (r : List Int) (c : Int), 0 ≤ c → c ≤ 255 → 0 ≤ lastt c r ∧ lastt c r ≤ 255
  | [], _, h, h' => ⟨h, h'⟩
  | n :: r, _, _, _ => lastt_le r (tt n) (by unfold tt; omega) (by unfold tt; omega)
theorem oks_of : ∀ (r : List Int) (C T : Int), OKs C T r → oks r = true
  | [], _, _, _ => rfl
  | n :: r, C, T, h => by simp [oks, h.1.1, oks_of r C T h.2]
/-- What Pack writes of good labels. -/
def fl : List Int → List Int
  | [] => []
  | n :: r => by4 n ++ fl r
def wds (c t : Int) : List S30 → List Int
  | [] => []
  | x :: r => wd (en x).1 c t r.isEmpty :: wds c t r
theorem pk_ok (c t : Int) : ∀ (l : List S30) (acc : List Int), (∀ x ∈ l, (en x).2 = 0) → pk c t acc l = (acc ++ fl (wds c t l), 0)
  | [], acc, _ => by simp [pk, fl, wds]
  | x :: r, acc, h => by
    simp only [pk, fl, wds]
    rw [if_pos (h x (by simp)), pk_ok c t r _ (fun y hy => h y (by simp [hy]))]
    simp
theorem pk_no (c t : Int) : ∀ (l : List S30) (acc : List Int), (pk c t acc l).2 ≠ 0 → (pk c t acc l).1 = []
  | [], acc, h => by simp [pk] at h
  | x :: r, acc, h => by
    simp only [pk] at h ⊢
    by_cases he : (en x).2 = 0
    · rw [if_pos he] at h ⊢; exact pk_no c t r _ h
    · rw [if_neg he]
theorem pk_yes (c t : Int) : ∀ (l : List S30) (acc : List Int), (pk c t acc l).2 = 0 → ∀ x ∈ l, (en x).2 = 0
  | [], acc, h => by simp
  | x :: r, acc, h => by
    simp only [pk] at h
    by_cases he : (en x).2 = 0
    · rw [if_pos he] at h
      intro y hy
      rcases List.mem_cons.mp hy with rfl | hy
      · exact he
      · exact pk_yes c t r _ h y hy
    · rw [if_neg he] at h
      exact absurd h he
theorem pack_no (l : List S30) (c t : Int) (h : (pack l c t).2 ≠ 0) : (pack l c t).1 = [] := by
  unfold pack at h ⊢
  split at h
  · split at h
    · rename_i h1 h2; rw [if_pos h1, if_pos h2]
    · rename_i h1 h2; rw [if_pos h1, if_neg h2]; exact pk_no c t l [] h
  · rename_i h1; rw [if_neg h1]
theorem by4_inj {n m : Int} (hn : In n) (hm : In m) (h : by4 n = by4 m) : n = m := by
  unfold In at hn hm
  simp only [by4, List.cons.injEq] at h
  omega
theorem en_lb (n : Int) (h : ok n) : en (lb n) = (n / 4096, 0) := en_de _ h
theorem lb_wd (x : S30) (c t : Int) (b : Bool) (h : (en x).2 = 0) (hc : 0 ≤ c) (hc' : c ≤ 7) (ht : 0 ≤ t) (ht' : t ≤ 255) :
    ok (wd (en x).1 c t b) ∧ lb (wd (en x).1 c t b) = x ∧ bt (wd (en x).1 c t b) = b ∧ cl (wd (en x).1 c t b) = c ∧ tt (wd (en x).1 c t b) = t ∧ In (wd (en x).1 c t b) := by
  obtain ⟨h1, h2⟩ := en_lt x h
  have hq : wd (en x).1 c t b / 4096 = (en x).1 := by unfold wd; cases b <;> simp <;> omega
  refine ⟨?_, ?_, ?_, ?_, ?_, ?_⟩
  · unfold ok; rw [hq, de_en x h]
  · unfold lb; rw [hq, de_en x h]
  · unfold bt wd; cases b <;> simp <;> omega
  · unfold cl wd; cases b <;> simp <;> omega
  · unfold tt wd; cases b <;> simp <;> omega
  · exact wd_lt _ c t b h1 h2 hc hc' ht ht'
theorem wd_lb (n c t : Int) (b : Bool) (hn : ok n) : n = wd (en (lb n)).1 c t b ↔ (bt n = b ∧ cl n = c ∧ tt n = t) ∨ n = wd (en (lb n)).1 c t b := by
  constructor
  · exact Or.inr
  · rintro (⟨h1, h2, h3⟩ | h)
    · rw [en_lb n hn]
      subst h1 h2 h3
      unfold wd bt cl tt
      simp only [beq_iff_eq]
      split <;> omega
    · exact h
theorem OKs_iff (c t : Int) (hc : 0 ≤ c) (hc' : c ≤ 7) (ht : 0 ≤ t) (ht' : t ≤ 255) : ∀ (r : List Int), (∀ n ∈ r, In n) → oks r = true → (OKs c t r ↔ fl (wds c t (r.map lb)) = fl r)
  | [], _, _ => by simp [OKs, wds]
  | n :: r, hi, ho => by
    simp only [oks, Bool.and_eq_true, decide_eq_true_eq] at ho
    have ih := OKs_iff c t hc hc' ht ht' r (fun m hm => hi m (by simp [hm])) ho.2
    have hen : (en (lb n)).2 = 0 := by rw [en_lb n ho.1]
    obtain ⟨_, _, g3, g4, g5, g6⟩ := lb_wd (lb n) c t (r.map lb).isEmpty hen hc hc' ht ht'
    have he : (r.map lb).isEmpty = r.isEmpty := by cases r <;> rfl
    simp only [OKs, List.map_cons, wds, fl]
    constructor
    · rintro ⟨⟨_, h2, h3, h4⟩, h5⟩
      rw [ih.mp h5, ← (wd_lb n c t _ ho.1).mpr (Or.inl ⟨by rw [he]; exact h2, h3, h4⟩)]
    · intro h
      have hn := List.append_inj h (by simp [by4])
      have hw := by4_inj g6 (hi n (by simp)) hn.1
      rw [hw] at g3 g4 g5
      exact ⟨⟨ho.1, by rw [g3, he], g4, g5⟩, ih.mpr hn.2⟩
theorem fl_ws : ∀ (l : List Int), By l → (l.length : Int) % 4 = 0 → fl (ws l) = l ∧ 4 * (ws l).length = l.length ∧ ∀ n ∈ ws l, In n := by
  have key : ∀ (d : Nat) (l : List Int), By l → l.length = 4 * d → fl (ws l) = l ∧ 4 * (ws l).length = l.length ∧ ∀ n ∈ ws l, In n := by
    intro d
    induction d with
    | zero => intro l _ h; obtain rfl : l = [] := List.eq_nil_of_length_eq_zero (by omega); simp [ws, fl]
    | succ d ih =>
      intro l hb h
      match l, hb, h with
      | b0 :: b1 :: b2 :: b3 :: r, hb, h =>
        obtain ⟨i1, i2, i3⟩ := ih r (fun x hx => hb x (by simp [hx])) (by simp at h; omega)
        have h0 := hb b0 (by simp)
        have h1 := hb b1 (by simp)
        have h2 := hb b2 (by simp)
        have h3 := hb b3 (by simp)
        refine ⟨?_, ?_, ?_⟩
        · simp only [ws, fl, i1, by4, List.cons_append, List.nil_append]
          congr 1
          · omega
          congr 1
          · omega
          congr 1
          · omega
          congr 1
          · omega
        · simp only [ws, List.length_cons] at *; omega
        · intro n hn
          simp only [ws, List.mem_cons] at hn
          rcases hn with rfl | hn
          · unfold In; omega
          · exact i3 n hn
      | [], _, h => simp at h
      | [_], _, h => simp at h; omega
      | [_, _], _, h => simp at h; omega
      | [_, _, _], _, h => simp at h; omega
  intro l hb h
  exact key (l.length / 4) l hb (by omega)
theorem fl_len : ∀ (r : List Int), (fl r).length = 4 * r.length
  | [] => rfl
  | n :: r => by simp [fl, by4, fl_len r]; omega
theorem fl_By : ∀ (r : List Int), By (fl r)
  | [] => by intro x hx; simp [fl] at hx
  | n :: r => by
    intro x hx
    simp only [fl, List.mem_append] at hx
    rcases hx with hx | hx
    · simp only [by4, List.mem_cons, List.not_mem_nil, or_false] at hx; omega
    · exact fl_By r x hx
theorem ws_fl : ∀ (r : List Int), (∀ n ∈ r, In n) → ws (fl r) = r
  | [], _ => rfl
  | n :: r, h => by
    have hn := h n (by simp)
    unfold In at hn
    simp only [fl, by4, List.cons_append, List.nil_append, ws, ws_fl r (fun m hm => h m (by simp [hm]))]
    congr 1
    omega
theorem oks_en : ∀ (r : List Int), oks r = true → ∀ x ∈ r.map lb, (en x).2 = 0
  | [], _ => by simp
  | n :: r, h => by
    simp only [oks, Bool.and_eq_true, decide_eq_true_eq] at h
    intro x hx
    simp only [List.map_cons, List.mem_cons] at hx
    rcases hx with rfl | hx
    · rw [en_lb n h.1]
    · exact oks_en r h.2 x hx
theorem pack_ok (l : List S30) (c t : Int) (hc : 0 ≤ c) (hc' : c ≤ 7) (ht : 0 ≤ t) (ht' : t ≤ 255) (hl : l.length ≤ 32) (h : ∀ x ∈ l, (en x).2 = 0) : pack l c t = (fl (wds c t l), 0) := by
  unfold pack
  rw [if_pos ⟨hc, hc', ht, ht'⟩, if_neg (by omega), pk_ok c t l [] h]
  simp
/-- The reference's Unpack comes to the program's. -/
theorem ur_up (l : List Int) (hb : By l) (h4 : (l.length : Int) % 4 = 0) (h128 : l.length ≤ 128) : ur l (ws l) [] 0 0 = up (ws l) true [] 0 0 := by
  obtain ⟨g1, g2, g3⟩ := fl_ws l hb h4
  rw [ur_eq]
  cases hw : ws l with
  | nil =>
    rw [hw] at g1
    simp only [fl] at g1
    subst g1
    simp [oks, lastc, lastt, up, pack, pk]
  | cons n r =>
    rw [hw] at g1 g2 g3
    rw [up_first]
    by_cases ho : oks (n :: r) = true
    · rw [if_pos ho]
      obtain ⟨c0, c1⟩ := lastc_le (n :: r) 0 (by omega) (by omega)
      obtain ⟨t0, t1⟩ := lastt_le (n :: r) 0 (by omega) (by omega)
      rw [List.nil_append, pack_ok _ _ _ c0 c1 t0 t1 (by simp at g2 ⊢; omega) (oks_en _ ho)]
      have hiff := OKs_iff _ _ c0 c1 t0 t1 (n :: r) g3 ho
      rw [g1] at hiff
      by_cases h : OKs (cl n) (tt n) (n :: r)
      · have e1 : lastc 0 (n :: r) = cl n := lastc_of r (cl n) (tt n) (cl n) h.2 rfl
        have e2 : lastt 0 (n :: r) = tt n := lastt_of r (cl n) (tt n) (tt n) h.2 rfl
        rw [e1, e2] at hiff ⊢
        rw [if_pos h, if_pos (hiff.mp h)]
      · rw [if_neg h, if_neg]
        intro hh
        have h' := hiff.mpr hh
        have e1 := h'.1.2.2.1
        have e2 := h'.1.2.2.2
        rw [← e1, ← e2] at h'
        exact h h'
    · rw [if_neg ho, if_neg (fun h => ho (oks_of _ _ _ h))]

theorem rd_drop {l : List Int} {i : Nat} (h : i < l.length) : l.drop i = rd l (i : Int) :: l.drop (i + 1) := by
  rw [List.drop_eq_getElem_cons h]
  congr 1
  simp [rd, h]
theorem By.rd {l : List Int} (hb : By l) {i : Nat} (h : i < l.length) : 0 ≤ rd l (i : Int) ∧ rd l (i : Int) ≤ 255 := hb _ (by simp [YtbphaaaobgmejaaW.PrintWords.rd, h])
theorem or4 (a b c d : Int) (ha : 0 ≤ a ∧ a ≤ 255) (hb : 0 ≤ b ∧ b ≤ 255) (hc : 0 ≤ c ∧ c ≤ 255) (hd : 0 ≤ d ∧ d ≤ 255) :
    Go.bits .or .u32 (Go.bits .or .u32 (Go.bits .or .u32 (((a % 4294967296) * 16777216) % 4294967296) (((b % 4294967296) * 65536) % 4294967296)) (((c % 4294967296) * 256) % 4294967296)) (d % 4294967296) = ((a * 256 + b) * 256 + c) * 256 + d := by
  rw [show a % 4294967296 = a by omega, show b % 4294967296 = b by omega, show c % 4294967296 = c by omega, show d % 4294967296 = d by omega, show (a * 16777216) % 4294967296 = a * 16777216 by omega, show (b * 65536) % 4294967296 = b * 65536 by omega, show (c * 256) % 4294967296 = c * 256 by omega]
  rw [join32 24 (a * 16777216) (b * 65536) (by omega) (by omega) (by omega) (by omega) (by omega) (by omega), join32 16 (a * 16777216 + b * 65536) (c * 256) (by omega) (by omega) (by omega) (by omega) (by omega) (by omega), join32 8 (a * 16777216 + b * 65536 + c * 256) d (by omega) (by omega) (by omega) (by omega) (by omega) (by omega)]
  omega
theorem and1 (n : Int) (h : In n) : Go.bits .and .u32 (n / 256) 1 = n / 256 % 2 := by
  unfold In at h
  exact bits_mask .u32 32 (by decide) wraps_u32 1 (by decide) _ (by omega) (by omega)
theorem and7 (n : Int) (h : In n) : Go.bits .and .u32 (n / 512) 7 = n / 512 % 8 := by
  unfold In at h
  exact bits_mask .u32 32 (by decide) wraps_u32 3 (by decide) _ (by omega) (by omega)
theorem and255 (n : Int) (h : In n) : Go.bits .and .u32 n 255 = n % 256 := by
  unfold In at h
  exact bits_mask .u32 32 (by decide) wraps_u32 8 (by decide) _ (by omega) (by omega)
theorem unpack_loop (l : List Int) (hb : By l) (hl : l.length ≤ 128) : ∀ (d i k : Nat) (acc : List S30) (c t : Int), 4 * d + i = l.length → 4 * acc.length = i → 2 * d < k →
    labels_Unpack.l0 k l acc c t (i : Int) = some (up (ws (l.drop i)) (decide (i = 0)) acc c t) := by
  intro d
  induction d with
  | zero =>
    intro i k acc c t hd ha hk
    obtain ⟨k, rfl⟩ : ∃ m, k = m + 1 := ⟨k - 1, by omega⟩
    rw [List.drop_eq_nil_of_le (by omega)]
    simp only [labels_Unpack.l0, ws, up]
    rw [if_neg (by omega)]
  | succ d ih =>
    intro i k acc c t hd ha hk
    obtain ⟨k, rfl⟩ : ∃ m, k = m + 2 := ⟨k - 2, by omega⟩
    have h0 := hb.rd (i := i) (by omega)
    have h1 := hb.rd (i := i + 1) (by omega)
    have h2 := hb.rd (i := i + 2) (by omega)
    have h3 := hb.rd (i := i + 3) (by omega)
    rw [rd_drop (i := i) (by omega), rd_drop (i := i + 1) (by omega), rd_drop (i := i + 2) (by omega), rd_drop (i := i + 3) (by omega)]
    rw [show k + 2 = (k + 1) + 1 from rfl]
    simp only [labels_Unpack.l0]
    rw [wrap_id (x := (i : Int) + 1) (by omega) (by omega), wrap_id (x := (i : Int) + 2) (by omega) (by omega), wrap_id (x := (i : Int) + 3) (by omega) (by omega), wrap_id (x := (i : Int) + 4) (by omega) (by omega)]
    rw [show (i : Int) + 1 = ((i + 1 : Nat) : Int) by omega, show (i : Int) + 2 = ((i + 2 : Nat) : Int) by omega, show (i : Int) + 3 = ((i + 3 : Nat) : Int) by omega, show (i : Int) + 4 = ((i + 4 : Nat) : Int) by omega]
    rw [if_pos (by omega), if_pos (by omega), if_pos (by omega), if_pos (by omega), if_pos (by omega), if_pos (by omega), if_pos (by omega), if_pos (by omega)]
    rw [or4 _ _ _ _ h0 h1 h2 h3]
    generalize hn : ((rd l (i : Int) * 256 + rd l ((i + 1 : Nat) : Int)) * 256 + rd l ((i + 2 : Nat) : Int)) * 256 + rd l ((i + 3 : Nat) : Int) = n
    have hin : In n := by unfold In; omega
    simp only [ws]
    rw [show i + 3 + 1 = i + 4 from rfl]
    have hn' : ((rd l (i : Int) * 256 + rd l ((i + 1 : Nat) : Int)) * 256 + rd l ((i + 1 + 1 : Nat) : Int)) * 256 + rd l ((i + 2 + 1 : Nat) : Int) = n := hn
    rw [hn]
    have hinb := hin
    unfold In at hinb
    rw [wrap_id (x := n / 4096) (by omega) (by omega), Decode_eq]
    simp only [Option.bind_some, up]
    rw [and1 n hin]
    have hne : (ws (l.drop (i + 4))).isEmpty = decide (d = 0) := by
      have := (fl_ws (l.drop (i + 4)) (fun x hx => hb x (List.mem_of_mem_drop hx)) (by simp; omega)).2.1
      simp at this
      cases hw : ws (l.drop (i + 4)) with
      | nil => rw [hw] at this; simp at this; simp; omega
      | cons a b => rw [hw] at this; simp at this; simp; omega
    have hlast : (((i + 4 : Nat) : Int) == (l.length : Int)) = decide (d = 0) := by
      rw [Bool.eq_iff_iff]; simp; omega
    rw [hlast, hne]
    have hj : ∀ (a b : Int), labels_Unpack.j2 (k + 1) l acc c t (i : Int) n true a b = some ([], 0, 0, 4) := fun a b => by simp [labels_Unpack.j2]
    by_cases ho : ok n
    · rw [if_pos (show (de (n / 4096)).2.2 = 0 from ho)]
      by_cases hbt : bt n = decide (d = 0)
      · rw [show ((n / 256 % 2 == 1) != decide (d = 0)) = false by rw [show (n / 256 % 2 == 1) = decide (d = 0) from hbt]; simp]
        simp only [labels_Unpack.j2, Bool.false_eq_true, if_false]
        rw [and7 n hin, and255 n hin, wrap_id (x := n / 512 % 8) (by omega) (by omega), wrap_id (x := n % 256) (by omega) (by omega), wrap_id (x := (i : Int) + 4) (by omega) (by omega), show (i : Int) + 4 = ((i + 4 : Nat) : Int) by omega, if_pos (show acc.length < 8796093022208 by omega)]
        have hrec : labels_Unpack.l0 k l (acc ++ [(⟨(de (n / 4096)).1, (de (n / 4096)).2.1⟩ : S30)]) (n / 512 % 8) (n % 256) ((i + 4 : Nat) : Int) = some (up (ws (l.drop (i + 4))) false (acc ++ [lb n]) (cl n) (tt n)) := by
          have := ih (i + 4) k (acc ++ [lb n]) (cl n) (tt n) (by omega) (by simp; omega) (by omega)
          rw [decide_eq_false (by omega)] at this
          exact this
        rw [hrec]
        by_cases hz : i = 0
        · subst hz
          rw [if_neg (by omega), if_pos ⟨ho, hbt, Or.inl rfl⟩]
        · rw [if_pos (show (i : Int) > 0 by omega)]
          by_cases hc : n / 512 % 8 = c
          · rw [if_pos hc]
            by_cases ht : n % 256 = t
            · rw [if_pos ht, if_pos ⟨ho, hbt, Or.inr ⟨hc, ht⟩⟩]
            · rw [if_neg ht, if_neg]
              rintro ⟨_, _, h | h⟩
              · simp at h; omega
              · exact ht h.2
          · rw [if_neg hc, if_neg]
            rintro ⟨_, _, h | h⟩
            · simp at h; omega
            · exact hc h.1
      · rw [show ((n / 256 % 2 == 1) != decide (d = 0)) = true by
            have : (n / 256 % 2 == 1) ≠ decide (d = 0) := hbt
            simpa using this, hj, if_neg (fun h => hbt h.2.1)]
    · rw [if_neg (show ¬ (de (n / 4096)).2.2 = 0 from ho), hj, if_neg (fun h => ho h.1)]
theorem Unpack_eq (k : Nat) (l : List Int) (hb : By l) (hk : 100 < k) : labels_Unpack.f k l = some (unp l) := by
  obtain ⟨k, rfl⟩ : ∃ m, k = m + 1 := ⟨k - 1, by omega⟩
  unfold labels_Unpack.f unp
  have hj : labels_Unpack.j0 (k + 1) l true = some ([], 0, 0, 4) := by simp [labels_Unpack.j0]
  by_cases h1 : (l.length : Int) % 4 = 0
  · rw [if_pos h1]
    by_cases h2 : (l.length : Int) > 128
    · rw [decide_eq_true h2, hj, if_neg (by omega)]
    · rw [decide_eq_false h2, if_pos ⟨h1, by omega⟩]
      simp only [labels_Unpack.j0, Bool.false_eq_true, if_false]
      exact unpack_loop l hb (by omega) (l.length / 4) 0 k [] 0 0 (by omega) rfl (by omega)
  · rw [if_neg h1, hj, if_neg (fun h => h1 h.1)]
theorem pk_By (c t : Int) : ∀ (l : List S30) (acc : List Int), By acc → By (pk c t acc l).1
  | [], acc, h => by simp only [pk]; exact h
  | x :: r, acc, h => by
    simp only [pk]
    split
    · refine pk_By c t r _ ?_
      intro y hy
      rcases List.mem_append.mp hy with hy | hy
      · exact h y hy
      · simp only [by4, List.mem_cons, List.not_mem_nil, or_false] at hy; omega
    · intro y hy; simp at hy
theorem pack_By (l : List S30) (c t : Int) : By (pack l c t).1 := by
  unfold pack
  split
  · split
    · intro y hy; simp at hy
    · exact pk_By c t l [] (by intro y hy; simp at hy)
  · intro y hy; simp at hy
theorem refunpack_loop (l : List Int) (hb : By l) (hl : l.length ≤ 128) : ∀ (d i k : Nat) (acc : List S30) (c t : Int), 4 * d + i = l.length → 4 * acc.length = i → d + 50 < k →
    waypointref19_Unpack.l0 k l acc c t (i : Int) = some (ur l (ws (l.drop i)) acc c t) := by
  intro d
  induction d with
  | zero =>
    intro i k acc c t hd ha hk
    obtain ⟨k, rfl⟩ : ∃ m, k = m + 1 := ⟨k - 1, by omega⟩
    rw [List.drop_eq_nil_of_le (by omega)]
    simp only [waypointref19_Unpack.l0, ws, ur]
    rw [if_neg (by omega), RefPack_eq k acc c t (by omega)]
    simp only [Option.bind_some]
    by_cases h : (pack acc c t).1 = l
    · rw [if_pos h, if_pos (by rw [h])]
    · rw [if_neg h, if_neg (fun g => h (bytes_inj (pack_By _ _ _) hb g))]
  | succ d ih =>
    intro i k acc c t hd ha hk
    obtain ⟨k, rfl⟩ : ∃ m, k = m + 1 := ⟨k - 1, by omega⟩
    have h0 := hb.rd (i := i) (by omega)
    have h1 := hb.rd (i := i + 1) (by omega)
    have h2 := hb.rd (i := i + 2) (by omega)
    have h3 := hb.rd (i := i + 3) (by omega)
    rw [rd_drop (i := i) (by omega), rd_drop (i := i + 1) (by omega), rd_drop (i := i + 2) (by omega), rd_drop (i := i + 3) (by omega)]
    simp only [waypointref19_Unpack.l0]
    rw [wrap_id (x := (i : Int) + 1) (by omega) (by omega), wrap_id (x := (i : Int) + 2) (by omega) (by omega), wrap_id (x := (i : Int) + 3) (by omega) (by omega), wrap_id (x := (i : Int) + 4) (by omega) (by omega)]
    rw [show (i : Int) + 1 = ((i + 1 : Nat) : Int) by omega, show (i : Int) + 2 = ((i + 2 : Nat) : Int) by omega, show (i : Int) + 3 = ((i + 3 : Nat) : Int) by omega, show (i : Int) + 4 = ((i + 4 : Nat) : Int) by omega]
    rw [if_pos (by omega), if_pos (by omega), if_pos (by omega), if_pos (by omega), if_pos (by omega), if_pos (by omega), if_pos (by omega), if_pos (by omega)]
    have hwrd : (wrap64 ((wrap64 ((wrap64 ((wrap64 ((wrap64 ((wrap64 ((wrap64 (rd l (i : Int))) * 256)) + (wrap64 (rd l ((i + 1 : Nat) : Int))))) * 256)) + (wrap64 (rd l ((i + 2 : Nat) : Int))))) * 256)) + (wrap64 (rd l ((i + 3 : Nat) : Int))))) = ((rd l (i : Int) * 256 + rd l ((i + 1 : Nat) : Int)) * 256 + rd l ((i + 2 : Nat) : Int)) * 256 + rd l ((i + 3 : Nat) : Int) := by
      unfold wrap64; omega
    rw [hwrd]
    generalize hn : ((rd l (i : Int) * 256 + rd l ((i + 1 : Nat) : Int)) * 256 + rd l ((i + 2 : Nat) : Int)) * 256 + rd l ((i + 3 : Nat) : Int) = n
    have hin : In n := by unfold In; omega
    simp only [ws]
    rw [show i + 3 + 1 = i + 4 from rfl]
    have hn' : ((rd l (i : Int) * 256 + rd l ((i + 1 : Nat) : Int)) * 256 + rd l ((i + 1 + 1 : Nat) : Int)) * 256 + rd l ((i + 2 + 1 : Nat) : Int) = n := hn
    rw [hn]
    have hinb := hin
    unfold In at hinb
    rw [tdiv_pos _ hinb.1, tdiv_pos _ hinb.1, tmod_pos _ hinb.1, wrap_id (x := n / 4096) (by omega) (by omega), wrap_id (x := n / 512) (by omega) (by omega), tmod_pos _ (by omega), RefDecode_eq k _ (by simp [Lit.wf, IntKind.min, IntKind.max, IntKind.signed, IntKind.bits]; omega) (by omega)]
    simp only [Option.bind_some, ur]
    by_cases ho : ok n
    · rw [if_pos (show (de (n / 4096)).2.2 = 0 from ho), if_pos ho, if_pos (show acc.length < 8796093022208 by omega)]
      exact ih (i + 4) k (acc ++ [lb n]) (cl n) (tt n) (by omega) (by simp; omega) (by omega)
    · rw [if_neg (show ¬ (de (n / 4096)).2.2 = 0 from ho), if_neg ho]
theorem RefUnpack_eq (k : Nat) (l : List Int) (hb : By l) (hk : 100 < k) : waypointref19_Unpack.f k l = some (unp l) := by
  obtain ⟨k, rfl⟩ : ∃ m, k = m + 1 := ⟨k - 1, by omega⟩
  unfold waypointref19_Unpack.f unp
  have hj : waypointref19_Unpack.j0 (k + 1) l true = some ([], 0, 0, 4) := by simp [waypointref19_Unpack.j0]
  by_cases h1 : (l.length : Int) % 4 = 0
  · rw [if_pos h1]
    by_cases h2 : (l.length : Int) > 128
    · rw [decide_eq_true h2, hj, if_neg (by omega)]
    · rw [decide_eq_false h2, if_pos ⟨h1, by omega⟩]
      simp only [waypointref19_Unpack.j0, Bool.false_eq_true, if_false]
      rw [← ur_up l hb h1 (by omega)]
      exact refunpack_loop l hb (by omega) (l.length / 4) 0 k [] 0 0 (by omega) rfl (by omega)
  · rw [if_neg h1, hj, if_neg (fun h => h1 h.1)]

/-- Unpack undoes Pack. -/
theorem wds_OKs (c t : Int) (hc : 0 ≤ c) (hc' : c ≤ 7) (ht : 0 ≤ t) (ht' : t ≤ 255) : ∀ (l : List S30), (∀ x ∈ l, (en x).2 = 0) → OKs c t (wds c t l) ∧ (wds c t l).map lb = l ∧ (∀ n ∈ wds c t l, In n) ∧ (wds c t l).length = l.length
  | [], _ => by simp [wds, OKs]
  | x :: r, h => by
    obtain ⟨i1, i2, i3, i4⟩ := wds_OKs c t hc hc' ht ht' r (fun y hy => h y (by simp [hy]))
    obtain ⟨g1, g2, g3, g4, g5, g6⟩ := lb_wd x c t r.isEmpty (h x (by simp)) hc hc' ht ht'
    have he : (wds c t r).isEmpty = r.isEmpty := by cases r <;> rfl
    simp only [wds, OKs, List.map_cons, g2, i2]
    refine ⟨⟨⟨g1, by rw [g3, he], g4, g5⟩, i1⟩, trivial, ?_, by simp [i4]⟩
    intro n hn
    rcases List.mem_cons.mp hn with rfl | hn
    · exact g6
    · exact i3 n hn
theorem pack_yes (l : List S30) (c t : Int) (h : (pack l c t).2 = 0) : (0 ≤ c ∧ c ≤ 7 ∧ 0 ≤ t ∧ t ≤ 255) ∧ l.length ≤ 32 ∧ ∀ x ∈ l, (en x).2 = 0 := by
  unfold pack at h
  split at h
  · rename_i h1
    split at h
    · simp at h
    · exact ⟨h1, by omega, pk_yes c t l [] h⟩
  · simp at h
theorem round (l : List S30) (c t : Int) (h : (pack l c t).2 = 0) : unp (pack l c t).1 = (if l = [] then ([], 0, 0, 0) else (l, c, t, 0)) ∧ (pack l c t).1.length = 4 * l.length := by
  obtain ⟨⟨hc, hc', ht, ht'⟩, hl, hx⟩ := pack_yes l c t h
  obtain ⟨g1, g2, g3, g4⟩ := wds_OKs c t hc hc' ht ht' l hx
  rw [pack_ok l c t hc hc' ht ht' hl hx]
  refine ⟨?_, by rw [fl_len, g4]⟩
  unfold unp
  rw [if_pos (by rw [fl_len, g4]; omega), ws_fl _ g3]
  cases l with
  | nil => simp [wds, up]
  | cons x r =>
    rw [if_neg (by simp)]
    simp only [wds] at g1 g2 ⊢
    have e1 := g1.1.2.2.1
    have e2 := g1.1.2.2.2
    rw [up_first]
    rw [if_pos (by rw [e1, e2]; exact g1), g2, e1, e2]
/-- What Unpack gives out, if it gives out any. -/
theorem unp_ok (l : List Int) (hb : By l) (h : (unp l).2.2.2 = 0) : l = [] ∧ unp l = ([], 0, 0, 0) ∨
    ∃ n r, l = fl (n :: r) ∧ unp l = ((n :: r).map lb, cl n, tt n, 0) ∧ OKs (cl n) (tt n) (n :: r) ∧ (∀ m ∈ n :: r, In m) ∧ (n :: r).length ≤ 32 := by
  unfold unp at h ⊢
  by_cases hc : (l.length : Int) % 4 = 0 ∧ l.length ≤ 128
  · rw [if_pos hc] at h ⊢
    obtain ⟨g1, g2, g3⟩ := fl_ws l hb hc.1
    cases hw : ws l with
    | nil => rw [hw] at g1; exact Or.inl ⟨g1.symm, rfl⟩
    | cons n r =>
      rw [hw] at h g1 g2 g3
      rw [up_first] at h ⊢
      by_cases ho : OKs (cl n) (tt n) (n :: r)
      · rw [if_pos ho]
        exact Or.inr ⟨n, r, g1.symm, rfl, ho, g3, by omega⟩
      · rw [if_neg ho] at h; simp at h
  · rw [if_neg hc] at h; simp at h

end Go.Proofs.Ytbphaaaobgmejaa.Lab

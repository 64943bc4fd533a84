/- Plain laws of the label stacks: Encode, Decode and Pack, the program's and the reference's. No Go, no memory. -/
import Derived.Test.YtbphaaaobgmejaaPT193
import Derived.Test.YtbphaaaobgmejaaPT1910
import Derived.Test.YtbphaaaobgmejaaPT194
import Derived.Test.YtbphaaaobgmejaaPT195
import Derived.Test.YtbphaaaobgmejaaPT197
import Derived.Test.YtbphaaaobgmejaaPT1912
import Derived.Test.YtbphaaaobgmejaaPT198
namespace Go.Proofs.Ytbphaaaobgmejaa.Lab
open Go.RowKit Go.Proofs.Ytbphaaaobgmejaa.PT19 Go.Proofs.YtbphaaaobgmejaaW.PrintWords Go.Proofs.YtbphaaaobgmejaaW.PrintLast

theorem wrap_id {x : Int} (h1 : -9223372036854775808 ≤ x) (h2 : x ≤ 9223372036854775807) : wrap64 x = x := by unfold wrap64; omega
theorem tmod_pos {a : Int} (b : Int) (h : 0 ≤ a) : Int.tmod a b = a % b := Int.tmod_eq_emod_of_nonneg h
theorem tdiv_pos {a : Int} (b : Int) (h : 0 ≤ a) : Int.tdiv a b = a / b := Int.tdiv_eq_ediv_of_nonneg h

theorem i64_of {x : Int} (h : (Lit.int .i64 x).wf = true) : -9223372036854775808 ≤ x ∧ x ≤ 9223372036854775807 := by
  simp [Lit.wf] at h
  have : (IntKind.i64.min : Int) = -9223372036854775808 := by decide +kernel
  have : (IntKind.i64.max : Int) = 9223372036854775807 := by decide +kernel
  omega
/-- A label's number, and the error. -/
def en (x : S30) : Int × Int :=
  if x.f0 = 1 then (if 0 ≤ x.f1 ∧ x.f1 ≤ 63 then (16 + x.f1, 0) else (0, 2))
  else if x.f0 = 2 then (if 0 ≤ x.f1 ∧ x.f1 ≤ 511 then (128 + x.f1, 0) else (0, 2))
  else if x.f0 = 3 then (if 1 ≤ x.f1 ∧ x.f1 ≤ 64 then (1024 + x.f1, 0) else (0, 2))
  else if x.f0 = 4 then (if 0 ≤ x.f1 ∧ x.f1 ≤ 65535 then (2048 + x.f1, 0) else (0, 2))
  else (0, 1)
def de (a : Int) : Int × Int × Int := if 16 ≤ a ∧ a ≤ 79 then (1, a - 16, 0) else if 128 ≤ a ∧ a ≤ 639 then (2, a - 128, 0) else if 1025 ≤ a ∧ a ≤ 1088 then (3, a - 1024, 0) else if 2048 ≤ a ∧ a ≤ 67583 then (4, a - 2048, 0) else (0, 0, 8)

theorem one_eq (lo hi b n : Int) : labels_Encode.one lo hi b n = some (if lo ≤ n ∧ n ≤ hi then (b + n, 0) else (0, 2)) := by
  unfold labels_Encode.one
  split
  · rw [if_neg (by omega)]
  · split
    · rw [if_neg (by omega)]
    · rw [if_pos (by omega)]
theorem Encode_eq (x : S30) : labels_Encode.f x.f0 x.f1 = some (en x) := by
  unfold labels_Encode.f en
  simp only [one_eq]
  repeat' (first | rfl | split)
theorem two_eq (lo hi b n : Int) (h1 : 0 ≤ lo) (h2 : hi ≤ 100000) (h3 : 0 ≤ b) (h4 : b ≤ 100000) : (if n < lo then some ((0 : Int), (2 : Int)) else (if n > hi then some (0, 2) else some (wrap64 (b + n), 0))) = some (if lo ≤ n ∧ n ≤ hi then (b + n, 0) else (0, 2)) := by
  split
  · rw [if_neg (by omega)]
  · split
    · rw [if_neg (by omega)]
    · rw [if_pos (by omega), wrap_id (by omega) (by omega)]
theorem RefEncode_eq (x : S30) : waypointref19_Encode.f x.f0 x.f1 = some (en x) := by
  unfold waypointref19_Encode.f waypointref19_ranges.f en
  by_cases h1 : x.f0 = 1
  · simp only [h1, if_true, Option.bind_some]
    exact two_eq 0 63 16 _ (by omega) (by omega) (by omega) (by omega)
  by_cases h2 : x.f0 = 2
  · simp only [h2, if_true]
    exact two_eq 0 511 128 _ (by omega) (by omega) (by omega) (by omega)
  by_cases h3 : x.f0 = 3
  · simp only [h3, if_true]
    exact two_eq 1 64 1024 _ (by omega) (by omega) (by omega) (by omega)
  by_cases h4 : x.f0 = 4
  · simp only [h4, if_true]
    exact two_eq 0 65535 2048 _ (by omega) (by omega) (by omega) (by omega)
  · simp [h1, h2, h3, h4]
theorem Decode_eq (a : Int) : labels_Decode.f a = some (de a) := by
  unfold labels_Decode.f de
  repeat' (first | rfl | split)
theorem RefDecode_eq (k : Nat) (a : Int) (ha : (Lit.int .i64 a).wf = true) (hk : 10 < k) : waypointref19_Decode.f k a = some (de a) := by
  obtain ⟨k, rfl⟩ : ∃ m, k = m + 6 := ⟨k - 6, by omega⟩
  have hb := i64_of ha
  unfold waypointref19_Decode.f
  have w2 : wrap64 (1 + 1) = 2 := by decide +kernel
  have w3 : wrap64 (2 + 1) = 3 := by decide +kernel
  have w4 : wrap64 (3 + 1) = 4 := by decide +kernel
  have w5 : wrap64 (4 + 1) = 5 := by decide +kernel
  have r1 : waypointref19_ranges.f 1 = some (0, 63, 16, true) := rfl
  have r2 : waypointref19_ranges.f 2 = some (0, 511, 128, true) := rfl
  have r3 : waypointref19_ranges.f 3 = some (1, 64, 1024, true) := rfl
  have r4 : waypointref19_ranges.f 4 = some (0, 65535, 2048, true) := rfl
  simp only [waypointref19_Decode.l0, w2, w3, w4, w5, r1, r2, r3, r4, Option.bind_some]
  simp only [show ((1 : Int) ≤ 4) = True from by simp, show ((2 : Int) ≤ 4) = True from by simp, show ((3 : Int) ≤ 4) = True from by simp, show ((4 : Int) ≤ 4) = True from by simp, show ((5 : Int) ≤ 4) = False from by simp, if_true, if_false,
    show wrap64 (16 + 0) = 16 from by decide +kernel, show wrap64 (16 + 63) = 79 from by decide +kernel, show wrap64 (128 + 0) = 128 from by decide +kernel, show wrap64 (128 + 511) = 639 from by decide +kernel, show wrap64 (1024 + 1) = 1025 from by decide +kernel, show wrap64 (1024 + 64) = 1088 from by decide +kernel, show wrap64 (2048 + 0) = 2048 from by decide +kernel, show wrap64 (2048 + 65535) = 67583 from by decide +kernel]
  unfold de
  by_cases h1 : 16 ≤ a ∧ a ≤ 79
  · rw [if_pos (by omega), if_pos (by omega), if_pos h1, wrap_id (by omega) (by omega)]
  rw [if_neg h1]
  by_cases h2 : 128 ≤ a ∧ a ≤ 639
  · rw [if_pos (by omega), if_neg (by omega), if_pos (by omega), if_pos (by omega), if_pos h2, wrap_id (by omega) (by omega)]
  rw [if_neg h2]
  by_cases h3 : 1025 ≤ a ∧ a ≤ 1088
  · rw [if_pos (by omega), if_neg (by omega), if_pos (by omega), if_neg (by omega), if_pos (by omega), if_pos (by omega), if_pos h3, wrap_id (by omega) (by omega)]
  rw [if_neg h3]
  by_cases h4 : 2048 ≤ a ∧ a ≤ 67583
  · rw [if_pos (by omega), if_neg (by omega), if_pos (by omega), if_neg (by omega), if_pos (by omega), if_neg (by omega), if_pos (by omega), if_pos (by omega), if_pos h4, wrap_id (by omega) (by omega)]
  rw [if_neg h4]
  repeat' split
  all_goals first | rfl | (exfalso; omega)

theorem en_lt (x : S30) (h : (en x).2 = 0) : 16 ≤ (en x).1 ∧ (en x).1 ≤ 67583 := by
  revert h
  unfold en
  repeat' split
  all_goals (intro h; first | (simp at h; done) | (simp; omega))
theorem de_en (x : S30) (h : (en x).2 = 0) : de (en x).1 = (x.f0, x.f1, 0) := by
  have key : ∀ (x : S30), (en x).2 = 0 → de (en x).1 = (x.f0, x.f1, 0) := by
    rintro ⟨s, v⟩
    unfold en
    dsimp only
    by_cases h1 : s = 1
    · subst h1
      rw [if_pos rfl]
      split
      · intro _
        unfold de
        dsimp only
        rw [if_pos (by omega)]
        simp; omega
      · simp
    rw [if_neg h1]
    by_cases h2 : s = 2
    · subst h2
      rw [if_pos rfl]
      split
      · intro _
        unfold de
        dsimp only
        rw [if_neg (by omega), if_pos (by omega)]
        simp; omega
      · simp
    rw [if_neg h2]
    by_cases h3 : s = 3
    · subst h3
      rw [if_pos rfl]
      split
      · intro _
        unfold de
        dsimp only
        rw [if_neg (by omega), if_neg (by omega), if_pos (by omega)]
        simp; omega
      · simp
    rw [if_neg h3]
    by_cases h4 : s = 4
    · subst h4
      rw [if_pos rfl]
      split
      · intro _
        unfold de
        dsimp only
        rw [if_neg (by omega), if_neg (by omega), if_neg (by omega), if_pos (by omega)]
        simp; omega
      · simp
    rw [if_neg h4]
    simp
  exact key x h
theorem en_de (a : Int) (h : (de a).2.2 = 0) : en ⟨(de a).1, (de a).2.1⟩ = (a, 0) := by
  revert h
  unfold de
  split
  · intro _
    simp only [en]
    rw [if_pos trivial, if_pos (by omega)]
    congr 1; omega
  split
  · intro _
    simp only [en]
    rw [if_neg (by omega), if_pos trivial, if_pos (by omega)]
    congr 1; omega
  split
  · intro _
    simp only [en]
    rw [if_neg (by omega), if_neg (by omega), if_pos trivial, if_pos (by omega)]
    congr 1; omega
  split
  · intro _
    simp only [en]
    rw [if_neg (by omega), if_neg (by omega), if_neg (by omega), if_pos trivial, if_pos (by omega)]
    congr 1; omega
  · simp

/-- A word of the stack, and its four bytes. -/
def wd (e c t : Int) (bot : Bool) : Int := e * 4096 + c * 512 + (if bot then 256 else 0) + t
def by4 (n : Int) : List Int := [n / 16777216 % 256, n / 65536 % 256, n / 256 % 256, n % 256]
def pk (c t : Int) : List Int → List S30 → List Int × Int
  | acc, [] => (acc, 0)
  | acc, x :: r => if (en x).2 = 0 then pk c t (acc ++ by4 (wd (en x).1 c t r.isEmpty)) r else ([], (en x).2)
def pack (l : List S30) (c t : Int) : List Int × Int := if 0 ≤ c ∧ c ≤ 7 ∧ 0 ≤ t ∧ t ≤ 255 then (if (l.length : Int) > 32 then ([], 6) else pk c t [] l) else ([], 2)

theorem wraps_u32 (n : Int) (h₀ : 0 ≤ n) (h₁ : n < 2 ^ 32) : IntKind.u32.wrap n = n := by rw [IntKind.wrap_u32]; omega
theorem join32 (i : Nat) (x y : Int) (hx₀ : 0 ≤ x) (hx : x % 2 ^ i = 0) (hx₁ : x < 4294967296) (hy₀ : 0 ≤ y) (hy : y < 2 ^ i) (hy₁ : y < 4294967296) : Go.bits .or .u32 x y = x + y :=
  bits_join .u32 32 (by decide) wraps_u32 i x y hx₀ hx (by omega) hy₀ hy (by omega)
theorem or_nat (a b : Nat) (ha : a < 2 ^ 32) (hb : b < 2 ^ 32) : Go.bits .or .u32 (a : Int) (b : Int) = ((a ||| b : Nat) : Int) := (bits_nat .u32 32 (by decide) wraps_u32 a b ha hb).2
theorem or_swap (a b c : Int) (ha : 0 ≤ a) (ha' : a < 4294967296) (hb : 0 ≤ b) (hb' : b < 4294967296) (hc : 0 ≤ c) (hc' : c < 4294967296) :
    Go.bits .or .u32 (Go.bits .or .u32 a b) c = Go.bits .or .u32 a (Go.bits .or .u32 c b) := by
  obtain ⟨a, rfl⟩ := Int.eq_ofNat_of_zero_le ha
  obtain ⟨b, rfl⟩ := Int.eq_ofNat_of_zero_le hb
  obtain ⟨c, rfl⟩ := Int.eq_ofNat_of_zero_le hc
  have ha : a < 2 ^ 32 := by omega
  have hb : b < 2 ^ 32 := by omega
  have hc : c < 2 ^ 32 := by omega
  rw [or_nat a b ha hb, or_nat c b hc hb, or_nat _ c (Nat.or_lt_two_pow ha hb) hc, or_nat a _ ha (Nat.or_lt_two_pow hc hb), Nat.or_assoc, Nat.or_comm b c]
theorem word_eq (e c t : Int) (he : 16 ≤ e) (he' : e ≤ 67583) (hc : 0 ≤ c) (hc' : c ≤ 7) (ht : 0 ≤ t) (ht' : t ≤ 255) :
    Go.bits .or .u32 (Go.bits .or .u32 (((e % 4294967296) * 4096) % 4294967296) (((c % 4294967296) * 512) % 4294967296)) (t % 4294967296) = wd e c t false := by
  rw [show e % 4294967296 = e by omega, show c % 4294967296 = c by omega, show t % 4294967296 = t by omega, show (e * 4096) % 4294967296 = e * 4096 by omega, show (c * 512) % 4294967296 = c * 512 by omega]
  rw [join32 12 (e * 4096) (c * 512) (by omega) (by omega) (by omega) (by omega) (by omega) (by omega), join32 9 (e * 4096 + c * 512) t (by omega) (by omega) (by omega) (by omega) (by omega) (by omega)]
  simp [wd]
theorem word_bot (e c t : Int) (he : 16 ≤ e) (he' : e ≤ 67583) (hc : 0 ≤ c) (hc' : c ≤ 7) (ht : 0 ≤ t) (ht' : t ≤ 255) :
    Go.bits .or .u32 (Go.bits .or .u32 (Go.bits .or .u32 (((e % 4294967296) * 4096) % 4294967296) (((c % 4294967296) * 512) % 4294967296)) (t % 4294967296)) 256 = wd e c t true := by
  rw [show e % 4294967296 = e by omega, show c % 4294967296 = c by omega, show t % 4294967296 = t by omega, show (e * 4096) % 4294967296 = e * 4096 by omega, show (c * 512) % 4294967296 = c * 512 by omega]
  rw [join32 12 (e * 4096) (c * 512) (by omega) (by omega) (by omega) (by omega) (by omega) (by omega), or_swap (e * 4096 + c * 512) t 256 (by omega) (by omega) (by omega) (by omega) (by omega) (by omega),
    join32 8 256 t (by omega) (by omega) (by omega) (by omega) (by omega) (by omega), join32 9 (e * 4096 + c * 512) (256 + t) (by omega) (by omega) (by omega) (by omega) (by omega) (by omega)]
  simp [wd]; omega

theorem rd_drop30 {l : List S30} {i : Nat} (h : i < l.length) : l.drop i = rd_T30 l (i : Int) :: l.drop (i + 1) := by
  rw [List.drop_eq_getElem_cons h]
  congr 1
  simp [rd_T30, h]
theorem pack_loop (l : List S30) (c t : Int) (hl : l.length ≤ 32) (hc : 0 ≤ c) (hc' : c ≤ 7) (ht : 0 ≤ t) (ht' : t ≤ 255) : ∀ (d i k : Nat) (acc : List Int), d + i = l.length → acc.length = 4 * i → d < k →
    labels_Pack.l0 k l c t acc l (l.length : Int) (i : Int) = some (pk c t acc (l.drop i)) := by
  intro d
  induction d with
  | zero =>
    intro i k acc hd ha hk
    obtain ⟨k, rfl⟩ : ∃ m, k = m + 1 := ⟨k - 1, by omega⟩
    rw [List.drop_eq_nil_of_le (by omega)]
    simp only [labels_Pack.l0, pk]
    rw [if_neg (by omega)]
  | succ d ih =>
    intro i k acc hd ha hk
    obtain ⟨k, rfl⟩ : ∃ m, k = m + 1 := ⟨k - 1, by omega⟩
    have hi : i < l.length := by omega
    rw [rd_drop30 hi]
    simp only [labels_Pack.l0, pk]
    rw [if_pos (by omega), if_pos (by omega), if_pos (by omega), Encode_eq]
    simp only [Option.bind_some]
    by_cases he : (en (rd_T30 l (i : Int))).2 = 0
    · rw [if_pos he, if_pos he]
      obtain ⟨h1, h2⟩ := en_lt _ he
      rw [word_bot _ c t h1 h2 hc hc' ht ht', word_eq _ c t h1 h2 hc hc' ht ht', wrap_id (x := (l.length : Int) - 1) (by omega) (by omega), wrap_id (x := (i : Int) + 1) (by omega) (by omega)]
      by_cases hz : (i : Int) = (l.length : Int) - 1
      · have hn : (l.drop (i + 1)).isEmpty = true := by rw [List.drop_eq_nil_of_le (by omega)]; rfl
        rw [if_pos hz, if_pos (by simp; omega), hn]
        rw [show (i : Int) + 1 = ((i + 1 : Nat) : Int) by omega]
        exact ih (i + 1) k _ (by omega) (by simp; omega) (by omega)
      · have hn : (l.drop (i + 1)).isEmpty = false := by rw [List.isEmpty_eq_false_iff]; intro h; have := congrArg List.length h; simp at this; omega
        rw [if_neg hz, if_pos (by simp; omega), hn]
        rw [show (i : Int) + 1 = ((i + 1 : Nat) : Int) by omega]
        exact ih (i + 1) k _ (by omega) (by simp; omega) (by omega)
    · rw [if_neg he, if_neg he]
theorem Pack_eq (k : Nat) (l : List S30) (c t : Int) (hk : 40 < k) : labels_Pack.f k l c t = some (pack l c t) := by
  obtain ⟨k, rfl⟩ : ∃ m, k = m + 1 := ⟨k - 1, by omega⟩
  unfold labels_Pack.f pack
  have hj : labels_Pack.j0 (k + 1) l c t true = some ([], 2) := by simp [labels_Pack.j0]
  by_cases h1 : c < 0
  · rw [if_pos h1, hj, if_neg (by omega)]
  rw [if_neg h1]
  by_cases h2 : c > 7
  · rw [if_pos h2, hj, if_neg (by omega)]
  rw [if_neg h2]
  by_cases h3 : t < 0
  · rw [if_pos h3, hj, if_neg (by omega)]
  rw [if_neg h3]
  by_cases h4 : t > 255
  · rw [decide_eq_true h4, hj, if_neg (by omega)]
  rw [decide_eq_false h4, if_pos (by omega)]
  simp only [labels_Pack.j0, Bool.false_eq_true, if_false]
  by_cases h5 : (l.length : Int) > 32
  · rw [if_pos h5, if_pos h5]
  · rw [if_neg h5, if_neg h5]
    exact pack_loop l c t (by omega) (by omega) (by omega) (by omega) (by omega) l.length 0 k [] (by omega) rfl (by omega)
theorem ref_word (e c t : Int) (he : 16 ≤ e) (he' : e ≤ 67583) (hc : 0 ≤ c) (hc' : c ≤ 7) (ht : 0 ≤ t) (ht' : t ≤ 255) :
    wrap64 ((wrap64 ((wrap64 (e * 4096)) + (wrap64 (c * 512)))) + t) = wd e c t false := by
  rw [wrap_id (x := e * 4096) (by omega) (by omega), wrap_id (x := c * 512) (by omega) (by omega), wrap_id (x := e * 4096 + c * 512) (by omega) (by omega), wrap_id (by omega) (by omega)]
  simp [wd]
theorem ref_bytes (n : Int) (h : 0 ≤ n) (h' : n < 4294967296) : [(wrap64 (Int.tdiv (wrap64 (Int.tdiv n 65536)) 256)) % 256, (Int.tmod (wrap64 (Int.tdiv n 65536)) 256) % 256, (Int.tmod (wrap64 (Int.tdiv n 256)) 256) % 256, (Int.tmod n 256) % 256] = by4 n := by
  rw [tdiv_pos _ h, tdiv_pos _ h, tmod_pos _ h, wrap_id (x := n / 65536) (by omega) (by omega), wrap_id (x := n / 256) (by omega) (by omega), tdiv_pos _ (by omega), tmod_pos _ (by omega), tmod_pos _ (by omega), wrap_id (by omega) (by omega)]
  unfold by4
  rw [show n / 65536 / 256 = n / 16777216 by omega, Int.emod_emod_of_dvd _ (by decide), Int.emod_emod_of_dvd _ (by decide), Int.emod_emod_of_dvd _ (by decide)]
theorem wd_lt (e c t : Int) (b : Bool) (he : 16 ≤ e) (he' : e ≤ 67583) (hc : 0 ≤ c) (hc' : c ≤ 7) (ht : 0 ≤ t) (ht' : t ≤ 255) : 0 ≤ wd e c t b ∧ wd e c t b < 4294967296 := by
  unfold wd
  cases b <;> simp <;> omega
theorem refpack_loop (l : List S30) (c t : Int) (hl : l.length ≤ 32) (hc : 0 ≤ c) (hc' : c ≤ 7) (ht : 0 ≤ t) (ht' : t ≤ 255) : ∀ (d i k : Nat) (acc : List Int), d + i = l.length → acc.length = 4 * i → d < k →
    waypointref19_Pack.l0 k l c t acc (i : Int) = some (pk c t acc (l.drop i)) := by
  intro d
  induction d with
  | zero =>
    intro i k acc hd ha hk
    obtain ⟨k, rfl⟩ : ∃ m, k = m + 1 := ⟨k - 1, by omega⟩
    rw [List.drop_eq_nil_of_le (by omega)]
    simp only [waypointref19_Pack.l0, pk]
    rw [if_neg (by omega)]
  | succ d ih =>
    intro i k acc hd ha hk
    obtain ⟨k, rfl⟩ : ∃ m, k = m + 1 := ⟨k - 1, by omega⟩
    have hi : i < l.length := by omega
    rw [rd_drop30 hi]
    simp only [waypointref19_Pack.l0, pk]
    rw [if_pos (by omega), if_pos (by omega), RefEncode_eq]
    simp only [Option.bind_some]
    by_cases he : (en (rd_T30 l (i : Int))).2 = 0
    · rw [if_pos he, if_pos he]
      obtain ⟨h1, h2⟩ := en_lt _ he
      rw [ref_word _ c t h1 h2 hc hc' ht ht', wrap_id (x := (l.length : Int) - 1) (by omega) (by omega), wrap_id (x := (i : Int) + 1) (by omega) (by omega)]
      have hb := wd_lt _ c t false h1 h2 hc hc' ht ht'
      have hb2 := wd_lt _ c t true h1 h2 hc hc' ht ht'
      have ht2 : wrap64 (wd (en (rd_T30 l (i : Int))).1 c t false + 256) = wd (en (rd_T30 l (i : Int))).1 c t true := by
        rw [wrap_id (by omega) (by omega)]
        simp [wd]; omega
      rw [ht2, ref_bytes _ hb.1 hb.2, ref_bytes _ hb2.1 hb2.2]
      by_cases hz : (i : Int) = (l.length : Int) - 1
      · have hn : (l.drop (i + 1)).isEmpty = true := by rw [List.drop_eq_nil_of_le (by omega)]; rfl
        rw [if_pos hz, if_pos (by simp [by4]; omega), hn]
        rw [show (i : Int) + 1 = ((i + 1 : Nat) : Int) by omega]
        exact ih (i + 1) k _ (by omega) (by simp [by4]; omega) (by omega)
      · have hn : (l.drop (i + 1)).isEmpty = false := by rw [List.isEmpty_eq_false_iff]; intro h; have := congrArg List.length h; simp at this; omega
        rw [if_neg hz, if_pos (by simp [by4]; omega), hn]
        rw [show (i : Int) + 1 = ((i + 1 : Nat) : Int) by omega]
        exact ih (i + 1) k _ (by omega) (by simp [by4]; omega) (by omega)
    · rw [if_neg he, if_neg he]
theorem RefPack_eq (k : Nat) (l : List S30) (c t : Int) (hk : 40 < k) : waypointref19_Pack.f k l c t = some (pack l c t) := by
  obtain ⟨k, rfl⟩ : ∃ m, k = m + 1 := ⟨k - 1, by omega⟩
  unfold waypointref19_Pack.f pack
  have hj : waypointref19_Pack.j0 (k + 1) l c t true = some ([], 2) := by simp [waypointref19_Pack.j0]
  by_cases h1 : c < 0
  · rw [if_pos h1, hj, if_neg (by omega)]
  rw [if_neg h1]
  by_cases h2 : c > 7
  · rw [if_pos h2, hj, if_neg (by omega)]
  rw [if_neg h2]
  by_cases h3 : t < 0
  · rw [if_pos h3, hj, if_neg (by omega)]
  rw [if_neg h3]
  by_cases h4 : t > 255
  · rw [decide_eq_true h4, hj, if_neg (by omega)]
  rw [decide_eq_false h4, if_pos (by omega)]
  simp only [waypointref19_Pack.j0, Bool.false_eq_true, if_false]
  by_cases h5 : (l.length : Int) > 32
  · rw [if_pos h5, if_pos h5]
  · rw [if_neg h5, if_neg h5]
    exact refpack_loop l c t (by omega) (by omega) (by omega) (by omega) (by omega) l.length 0 k [] (by omega) rfl (by omega)
theorem awake_yes (k : Nat) (hk : 40 < k) : waypointlaw19_awake.f k = some true := by
  unfold waypointlaw19_awake.f
  rw [Pack_eq k _ _ _ hk]
  have h : pack [⟨1, 2⟩, ⟨2, 3⟩] 1 64 = ([0, 1, 34, 64, 0, 8, 51, 64], 0) := by decide +kernel
  rw [h]
  simp only [Option.bind_some, if_true]
  rw [ByteArray.toList_eq, strOfNums_data]
  decide

end Go.Proofs.Ytbphaaaobgmejaa.Lab

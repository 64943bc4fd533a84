/- Plain laws of the Fletcher sums over lists of bytes: what the program's and the reference's printed functions come to. No Go, no memory. -/
import Derived.Test.YtandnmkllijnhaaPT08
namespace Go.Proofs.Ytandnmkllijnhaa.Flet
open Go.RowKit Go.Proofs.Ytandnmkllijnhaa.PT08 Go.Proofs.YtandnmkllijnhaaW.PrintWords Go.Proofs.YtandnmkllijnhaaW.PrintLast

/-- The plain sum, and the sum weighted by what is left. -/
def S : List Int → Int
  | [] => 0
  | b :: l => b + S l
def T : List Int → Int
  | [] => 0
  | b :: l => ((l.length : Int) + 1) * b + T l
/-- All elements are bytes. -/
def By (l : List Int) : Prop := ∀ x ∈ l, 0 ≤ x ∧ x ≤ 255

theorem wrap_id {x : Int} (h1 : -9223372036854775808 ≤ x) (h2 : x ≤ 9223372036854775807) : wrap64 x = x := by unfold wrap64; omega
theorem tmod_pos {a : Int} (b : Int) (h : 0 ≤ a) : Int.tmod a b = a % b := Int.tmod_eq_emod_of_nonneg h
theorem modw {u v : Int} (c : Int) (h : u = v + 255 * c) : u % 255 = v % 255 := by subst h; exact Int.add_mul_emod_self_left _ _ _

theorem reduce_eq (a : Int) : fletcher_reduce.f a = some (a % 255) := by
  have h1 := Int.mul_tdiv_add_tmod a 255
  have h2 := Int.tmod_lt_of_pos a (b := 255) (by omega)
  have h3 : -255 < Int.tmod a 255 := by
    have h4 := Int.tmod_lt_of_pos (-a) (b := 255) (by omega)
    rw [Int.neg_tmod] at h4
    omega
  unfold fletcher_reduce.f
  rw [wrap_id (by omega) (by omega), tmod_pos _ (by omega)]
  congr 1
  exact modw (1 - Int.tdiv a 255) (by omega)
theorem Reduced_eq (a : Int) : waypointref08_Reduced.f a = some (a % 255) := reduce_eq a

theorem rd_drop {l : List Int} {i : Nat} (h : i < l.length) : l.drop i = rd l (i : Int) :: l.drop (i + 1) := by
  rw [List.drop_eq_getElem_cons h]
  congr 1
  simp [rd, h]
theorem rd_mem {l : List Int} {i : Nat} (h : i < l.length) : rd l (i : Int) ∈ l := by
  simp [rd, h]
theorem By.rd {l : List Int} (hb : By l) {i : Nat} (h : i < l.length) : 0 ≤ rd l (i : Int) ∧ rd l (i : Int) ≤ 255 := hb _ (rd_mem h)

theorem upd_loop (l : List Int) (hb : By l) (hl : l.length < 4611686018427387904) : ∀ (d i k : Nat) (x y : Int), d + i = l.length → d < k → 0 ≤ x → x < 255 → 0 ≤ y → y < 255 →
    fletcher_Update.l0 k x y l (l.length : Int) (i : Int) = some ((x + S (l.drop i)) % 255, (y + d * x + T (l.drop i)) % 255) := by
  intro d
  induction d with
  | zero =>
    intro i k x y hd hk h1 h2 h3 h4
    obtain ⟨k, rfl⟩ : ∃ m, k = m + 1 := ⟨k - 1, by omega⟩
    have hn : l.drop i = [] := List.drop_eq_nil_of_le (by omega)
    simp only [fletcher_Update.l0]
    rw [if_neg (by omega), hn]
    simp only [S, T]
    congr 2
    · omega
    · simp; omega
  | succ d ih =>
    intro i k x y hd hk h1 h2 h3 h4
    obtain ⟨k, rfl⟩ : ∃ m, k = m + 1 := ⟨k - 1, by omega⟩
    have hi : i < l.length := by omega
    have hr := hb.rd hi
    rw [rd_drop hi]
    simp only [fletcher_Update.l0]
    rw [if_pos (by omega), if_pos (by omega), if_pos (by omega)]
    generalize rd l (i : Int) = b at hr ⊢
    rw [wrap_id (x := b) (by omega) (by omega), wrap_id (x := x + b) (by omega) (by omega), tmod_pos _ (by omega), wrap_id (x := (i : Int) + 1) (by omega) (by omega), wrap_id (x := y + (x + b) % 255) (by omega) (by omega), tmod_pos _ (by omega)]
    have e := ih (i + 1) k ((x + b) % 255) ((y + (x + b) % 255) % 255) (by omega) (by omega) (by omega) (by omega) (by omega) (by omega)
    rw [show ((i : Int) + 1) = ((i + 1 : Nat) : Int) by omega, e]
    have hlen : (l.drop (i + 1)).length = d := by rw [List.length_drop]; omega
    simp only [S, T, hlen]
    have q1 : (x + b) % 255 = x + b - 255 * ((x + b) / 255) := by omega
    generalize (x + b) / 255 = q at q1
    generalize (x + b) % 255 = x' at q1 ⊢
    have q2 : (y + x') % 255 = y + x' - 255 * ((y + x') / 255) := by omega
    generalize (y + x') / 255 = q' at q2
    generalize (y + x') % 255 = y' at q2 ⊢
    subst q1 q2
    congr 2
    · exact modw (-q) (by omega)
    · exact modw (-q - q' - q * d) (by push_cast; grind)

theorem update_eq (k : Nat) (x y : Int) (l : List Int) (hb : By l) (hl : l.length < 4611686018427387904) (hk : l.length < k) :
    fletcher_Update.f k x y l = some ((x + S l) % 255, (y + l.length * x + T l) % 255) := by
  unfold fletcher_Update.f
  rw [reduce_eq, reduce_eq]
  simp only [Option.bind_some]
  have := upd_loop l hb hl l.length 0 k (x % 255) (y % 255) (by omega) hk (by omega) (by omega) (by omega) (by omega)
  rw [show ((0 : Nat) : Int) = 0 from rfl] at this
  rw [this, List.drop_zero]
  have q1 : x % 255 = x - 255 * (x / 255) := by omega
  have q2 : y % 255 = y - 255 * (y / 255) := by omega
  generalize x / 255 = q at q1
  generalize y / 255 = q' at q2
  rw [q1, q2]
  congr 2
  · exact modw (-q) (by omega)
  · exact modw (-q' - q * l.length) (by grind)

theorem sum_eq (k : Nat) (l : List Int) (hb : By l) (hl : l.length < 4611686018427387904) (hk : l.length < k) : fletcher_Sum.f k l = some (S l % 255, T l % 255) := by
  unfold fletcher_Sum.f
  rw [update_eq k 0 0 l hb hl hk]
  simp

theorem check_eq (k : Nat) (l : List Int) (hb : By l) (hl : l.length < 4611686018427387904) (hk : l.length < k) : fletcher_Check.f k l = some (decide (S l % 255 = 0 ∧ T l % 255 = 0)) := by
  unfold fletcher_Check.f
  rw [sum_eq k l hb hl hk]
  simp only [Option.bind_some]
  split
  · rename_i h
    simp only [h, true_and]
    congr 1
  · rename_i h
    simp [h]

theorem ref_loop (l : List Int) (hb : By l) (hl : l.length < 4611686018427387904) : ∀ (d i k : Nat) (x y : Int), d + i = l.length → d < k → 0 ≤ x → x < 255 → 0 ≤ y → y < 255 →
    waypointref08_Sum.l0 k l x y (i : Int) = some ((x + S (l.drop i)) % 255, (y + T (l.drop i)) % 255) := by
  intro d
  induction d with
  | zero =>
    intro i k x y hd hk h1 h2 h3 h4
    obtain ⟨k, rfl⟩ : ∃ m, k = m + 1 := ⟨k - 1, by omega⟩
    have hn : l.drop i = [] := List.drop_eq_nil_of_le (by omega)
    simp only [waypointref08_Sum.l0]
    rw [if_neg (by omega), hn]
    simp only [S, T]
    congr 2 <;> omega
  | succ d ih =>
    intro i k x y hd hk h1 h2 h3 h4
    obtain ⟨k, rfl⟩ : ∃ m, k = m + 1 := ⟨k - 1, by omega⟩
    have hi : i < l.length := by omega
    have hr := hb.rd hi
    rw [rd_drop hi]
    simp only [waypointref08_Sum.l0]
    rw [if_pos (by omega), if_pos (by omega)]
    generalize rd l (i : Int) = b at hr ⊢
    rw [wrap_id (x := b) (by omega) (by omega), wrap_id (x := x + b) (by omega) (by omega), tmod_pos _ (by omega), wrap_id (x := (l.length : Int) - i) (by omega) (by omega), tmod_pos (a := (l.length : Int) - i) _ (by omega), wrap_id (x := (i : Int) + 1) (by omega) (by omega)]
    have hm : 0 ≤ ((l.length : Int) - i) % 255 * b ∧ ((l.length : Int) - i) % 255 * b ≤ 255 * 255 := by
      have h5 : 0 ≤ ((l.length : Int) - i) % 255 := by omega
      have h6 : ((l.length : Int) - i) % 255 ≤ 255 := by omega
      exact ⟨Int.mul_nonneg h5 hr.1, Int.mul_le_mul h6 hr.2 hr.1 (by omega)⟩
    rw [wrap_id (x := ((l.length : Int) - i) % 255 * b) (by omega) (by omega), wrap_id (x := y + ((l.length : Int) - i) % 255 * b) (by omega) (by omega), tmod_pos _ (by omega)]
    have e := ih (i + 1) k ((x + b) % 255) ((y + ((l.length : Int) - i) % 255 * b) % 255) (by omega) (by omega) (by omega) (by omega) (by omega) (by omega)
    rw [show ((i : Int) + 1) = ((i + 1 : Nat) : Int) by omega, e]
    have hlen : (l.drop (i + 1)).length = d := by rw [List.length_drop]; omega
    simp only [S, T, hlen]
    have hdi : (l.length : Int) - i = d + 1 := by omega
    rw [hdi]
    have q0 : ((d : Int) + 1) % 255 = d + 1 - 255 * (((d : Int) + 1) / 255) := by omega
    generalize ((d : Int) + 1) / 255 = p at q0
    rw [q0]
    have q1 : (x + b) % 255 = x + b - 255 * ((x + b) / 255) := by omega
    generalize (x + b) / 255 = q at q1
    rw [q1]
    have q2 : (y + (d + 1 - 255 * p) * b) % 255 = y + (d + 1 - 255 * p) * b - 255 * ((y + (d + 1 - 255 * p) * b) / 255) := by omega
    generalize (y + (d + 1 - 255 * p) * b) / 255 = q' at q2
    rw [q2]
    congr 2
    · exact modw (-q) (by omega)
    · exact modw (-q' - p * b) (by grind)

theorem ref_eq (k : Nat) (l : List Int) (hb : By l) (hl : l.length < 4611686018427387904) (hk : l.length < k) : waypointref08_Sum.f k l = some (S l % 255, T l % 255) := by
  unfold waypointref08_Sum.f
  have := ref_loop l hb hl l.length 0 k 0 0 (by omega) hk (by omega) (by omega) (by omega) (by omega)
  rw [show ((0 : Nat) : Int) = 0 from rfl] at this
  rw [this]
  simp

theorem S_append (a b : List Int) : S (a ++ b) = S a + S b := by
  induction a with
  | nil => simp [S]
  | cons x a ih => simp only [List.cons_append, S, ih]; omega
theorem T_append (a b : List Int) : T (a ++ b) = T a + b.length * S a + T b := by
  induction a with
  | nil => simp [S, T]
  | cons x a ih => simp only [List.cons_append, S, T, ih, List.length_append]; push_cast; grind
theorem S_set (l : List Int) (i : Nat) (v : Int) (h : i < l.length) : S (l.set i v) = S l + (v - rd l (i : Int)) := by
  induction l generalizing i with
  | nil => simp at h
  | cons x l ih =>
    cases i with
    | zero => simp [S, rd]; omega
    | succ i =>
      have := ih i (by simpa using h)
      simp only [List.set_cons_succ, S, this, rd, Int.toNat_natCast, List.getD_cons_succ]
      omega
theorem T_set (l : List Int) (i : Nat) (v : Int) (h : i < l.length) : T (l.set i v) = T l + ((l.length : Int) - i) * (v - rd l (i : Int)) := by
  induction l generalizing i with
  | nil => simp at h
  | cons x l ih =>
    cases i with
    | zero => simp [T, rd]; grind
    | succ i =>
      have := ih i (by simpa using h)
      simp only [List.set_cons_succ, T, this, rd, Int.toNat_natCast, List.getD_cons_succ, List.length_set, List.length_cons]
      push_cast
      grind
theorem By.set {l : List Int} (h : By l) (i : Nat) {v : Int} (h0 : 0 ≤ v) (h1 : v ≤ 255) : By (l.set i v) := by
  intro x hx
  rcases List.mem_or_eq_of_mem_set hx with hx | rfl
  · exact h x hx
  · exact ⟨h0, h1⟩
theorem By.append {a b : List Int} (ha : By a) (hb : By b) : By (a ++ b) := by
  intro x hx
  rcases List.mem_append.1 hx with hx | hx
  · exact ha x hx
  · exact hb x hx
theorem rd_set_ne (l : List Int) (i j : Nat) (v : Int) (h : i ≠ j) : rd (l.set i v) (j : Int) = rd l (j : Int) := by
  simp [rd, List.getElem?_set_ne h]
theorem rd_set_eq (l : List Int) (i : Nat) (v : Int) (h : i < l.length) : rd (l.set i v) (i : Int) = v := by
  simp [rd, h]

theorem clone_eq (l : List Int) (h : l.length < 140737488355328) : slices_Clone_byte_byte.f l = some l := by
  unfold slices_Clone_byte_byte.f
  simp [h]

theorem app_nil {α : Type} (f : List Int → Option α) (l : List Int) (h : l.length < 140737488355328) : ((some (([] : List Int) : List Int)).bind fun y => (if y.length + l.length < 140737488355328 then f (y ++ l) else none)) = f l := by
  simp [h]
/-- Seal at a place that fits: the bytes are of the same number, and both sums are nothing. -/
theorem seal_ok (k : Nat) (l : List Int) (at_ : Int) (hb : By l) (hl : l.length ≤ 100000) (hk : l.length + 1 < k) (h0 : 0 ≤ at_) (h1 : at_ + 1 < l.length) :
    ∃ out, fletcher_Seal.f k l at_ = some (out, 0) ∧ By out ∧ out.length = l.length ∧ S out % 255 = 0 ∧ T out % 255 = 0 := by
  obtain ⟨a, rfl⟩ := Int.eq_ofNat_of_zero_le h0
  obtain ⟨k, rfl⟩ : ∃ m, k = m + 1 := ⟨k - 1, by omega⟩
  unfold fletcher_Seal.f
  rw [if_neg (by omega), wrap_id (x := (l.length : Int) - 1) (by omega) (by omega)]
  rw [show decide ((a : Int) ≥ (l.length : Int) - 1) = false from decide_eq_false (by omega)]
  simp only [fletcher_Seal.j0]
  rw [if_neg (by decide), clone_eq l (by omega)]
  simp only [Option.bind_some]
  rw [wrap_id (x := (a : Int) + 1) (by omega) (by omega), if_pos (by omega), if_pos (by omega), if_pos (by omega), if_pos (by omega)]
  rw [show ((a : Int) + 1) = ((a + 1 : Nat) : Int) by omega]
  simp only [Int.toNat_natCast]
  have hm : By ((l.set a 0).set (a + 1) 0) := (hb.set _ (by omega) (by omega)).set _ (by omega) (by omega)
  have hml : ((l.set a 0).set (a + 1) 0).length = l.length := by simp
  have hr0 : rd ((l.set a 0).set (a + 1) 0) (a : Int) = 0 := by rw [rd_set_ne _ _ _ _ (by omega), rd_set_eq _ _ _ (by omega)]
  have hr1 : rd ((l.set a 0).set (a + 1) 0) ((a + 1 : Nat) : Int) = 0 := rd_set_eq _ _ _ (by simp; omega)
  generalize (l.set a 0).set (a + 1) 0 = m at hm hml hr0 hr1
  rw [sum_eq k m hm (by omega) (by omega)]
  simp only [Option.bind_some, reduce_eq]
  rw [wrap_id (x := (l.length : Int) - a) (by omega) (by omega), wrap_id (x := (l.length : Int) - a - 1) (by omega) (by omega)]
  have hS : 0 ≤ S m % 255 ∧ S m % 255 < 255 := by omega
  have hT : 0 ≤ T m % 255 ∧ T m % 255 < 255 := by omega
  have q1 : S m % 255 = S m - 255 * (S m / 255) := by omega
  have q2 : T m % 255 = T m - 255 * (T m / 255) := by omega
  generalize S m / 255 = p1 at q1
  generalize T m / 255 = p2 at q2
  generalize S m % 255 = f at *
  generalize T m % 255 = s at *
  have hc : 0 ≤ ((l.length : Int) - a - 1) % 255 ∧ ((l.length : Int) - a - 1) % 255 < 255 := by omega
  have q3 : ((l.length : Int) - a - 1) % 255 = (l.length : Int) - a - 1 - 255 * (((l.length : Int) - a - 1) / 255) := by omega
  generalize ((l.length : Int) - a - 1) / 255 = p3 at q3
  generalize ((l.length : Int) - a - 1) % 255 = c at *
  have hcf : 0 ≤ c * f ∧ c * f ≤ 255 * 255 := ⟨Int.mul_nonneg hc.1 hS.1, Int.mul_le_mul (by omega) (by omega) hS.1 (by omega)⟩
  rw [wrap_id (x := c * f) (by omega) (by omega), wrap_id (x := c * f - s) (by omega) (by omega), wrap_id (x := -f) (by omega) (by omega)]
  have hx : 0 ≤ (c * f - s) % 255 ∧ (c * f - s) % 255 < 255 := by omega
  have q4 : (c * f - s) % 255 = c * f - s - 255 * ((c * f - s) / 255) := by omega
  generalize (c * f - s) / 255 = p4 at q4
  generalize (c * f - s) % 255 = x at *
  rw [wrap_id (x := -f - x) (by omega) (by omega)]
  have hy : 0 ≤ (-f - x) % 255 ∧ (-f - x) % 255 < 255 := by omega
  have q5 : (-f - x) % 255 = -f - x - 255 * ((-f - x) / 255) := by omega
  generalize (-f - x) / 255 = p5 at q5
  generalize (-f - x) % 255 = y at *
  rw [show x % 256 = x by omega, show y % 256 = y by omega]
  refine ⟨_, rfl, (hm.set _ hx.1 (by omega)).set _ hy.1 (by omega), by simp [hml], ?_, ?_⟩
  · rw [S_set _ _ _ (by simp; omega), S_set _ _ _ (by omega), rd_set_ne _ _ _ _ (by omega), hr0, hr1]
    rw [modw (v := 0) (p1 - p5) (by omega)]
    rfl
  · rw [T_set _ _ _ (by simp; omega), T_set _ _ _ (by omega), rd_set_ne _ _ _ _ (by omega), hr0, hr1, List.length_set, hml]
    push_cast
    rw [modw (v := 0) (p2 - p4 - p5 * ((l.length : Int) - a - 1) - p3 * f) (by grind)]
    rfl

theorem awake_yes (k : Nat) (hk : 10 ≤ k) : waypointlaw08_awake.f k = some true := at_rounds waypointlaw08_awake.mono hk (by decide +kernel)

theorem by_of {l : List Int} (h : ∀ x ∈ l, (Lit.int .u8 x).wf = true) : By l := by
  intro x hx
  have := h x hx
  simp [Lit.wf, IntKind.min, IntKind.max, IntKind.signed, IntKind.bits] at this
  omega
end Go.Proofs.Ytandnmkllijnhaa.Flet

/- The pure statement of CodecRoundTrip. -/
import Derived.Test.YtfoagppeddflnaaCodT
import Derived.Test.YtfoagppeddflnaaPT0715
namespace Go.Proofs.Ytfoagppeddflnaa.Pure
open Go.RowKit Go.Proofs.Ytfoagppeddflnaa.PT07 Go.Proofs.Ytfoagppeddflnaa.Cod Go.Proofs.YtfoagppeddflnaaW.PrintWords Go.Proofs.YtfoagppeddflnaaW.PrintLast

theorem drop43 {l : List S43} {i : Nat} (h : i < l.length) : l.drop i = rd_T43 l (i : Int) :: l.drop (i + 1) := by
  rw [List.drop_eq_getElem_cons h]
  congr 1
  simp [rd_T43, h]
def cv (x : S43) : S56 := ⟨x.f0, x.f1⟩
def bk (x : S56) : S43 := ⟨x.f0, x.f1⟩
theorem own_loop (l : List S43) (hl : l.length ≤ 40) : ∀ (d i k : Nat) (acc : List S56), d + i = l.length → d < k → acc.length = i → waypointlaw07_own.l0 k l acc (i : Int) = some (acc ++ (l.drop i).map cv) := by
  intro d
  induction d with
  | zero =>
    intro i k acc hd hk ha
    obtain ⟨k, rfl⟩ : ∃ m, k = m + 1 := ⟨k - 1, by omega⟩
    rw [List.drop_eq_nil_of_le (by omega)]
    simp only [waypointlaw07_own.l0]
    rw [if_neg (by omega)]
    simp
  | succ d ih =>
    intro i k acc hd hk ha
    obtain ⟨k, rfl⟩ : ∃ m, k = m + 1 := ⟨k - 1, by omega⟩
    rw [drop43 (by omega)]
    simp only [waypointlaw07_own.l0]
    rw [if_pos (by omega), if_pos (by omega), if_pos (by omega), wrap_id (x := (i : Int) + 1) (by omega) (by omega), show (i : Int) + 1 = ((i + 1 : Nat) : Int) by omega, ih (i + 1) k _ (by omega) (by omega) (by simp; omega)]
    simp [cv]
theorem back_loop (l : List S56) (hl : l.length ≤ 40) : ∀ (d i k : Nat) (acc : List S43), d + i = l.length → d < k → acc.length = i → waypointlaw07_back.l0 k l acc (i : Int) = some (acc ++ (l.drop i).map bk) := by
  intro d
  induction d with
  | zero =>
    intro i k acc hd hk ha
    obtain ⟨k, rfl⟩ : ∃ m, k = m + 1 := ⟨k - 1, by omega⟩
    rw [List.drop_eq_nil_of_le (by omega)]
    simp only [waypointlaw07_back.l0]
    rw [if_neg (by omega)]
    simp
  | succ d ih =>
    intro i k acc hd hk ha
    obtain ⟨k, rfl⟩ : ∃ m, k = m + 1 := ⟨k - 1, by omega⟩
    rw [drop56 (by omega)]
    simp only [waypointlaw07_back.l0]
    rw [if_pos (by omega), if_pos (by omega), if_pos (by omega), wrap_id (x := (i : Int) + 1) (by omega) (by omega), show (i : Int) + 1 = ((i + 1 : Nat) : Int) by omega, ih (i + 1) k _ (by omega) (by omega) (by simp; omega)]
    simp [bk]
theorem size_some (l : List S43) (hl : l.length ≤ 40) : ∀ (d i k : Nat) (n : Int), d + i = l.length → d < k → ∃ s, waypointlaw07_size.l0 k l n (i : Int) = some s := by
  intro d
  induction d with
  | zero =>
    intro i k n hd hk
    obtain ⟨k, rfl⟩ : ∃ m, k = m + 1 := ⟨k - 1, by omega⟩
    simp only [waypointlaw07_size.l0]
    rw [if_neg (by omega)]
    exact ⟨_, rfl⟩
  | succ d ih =>
    intro i k n hd hk
    obtain ⟨k, rfl⟩ : ∃ m, k = m + 1 := ⟨k - 1, by omega⟩
    simp only [waypointlaw07_size.l0]
    rw [if_pos (by omega), if_pos (by omega), wrap_id (x := (i : Int) + 1) (by omega) (by omega), show (i : Int) + 1 = ((i + 1 : Nat) : Int) by omega]
    exact ih (i + 1) k _ (by omega) (by omega)
theorem same_loop (l : List S43) (hl : l.length ≤ 40) : ∀ (d i k : Nat), d + i = l.length → d < k → waypointref07_Same.l0 k l l (i : Int) = some true := by
  intro d
  induction d with
  | zero =>
    intro i k hd hk
    obtain ⟨k, rfl⟩ : ∃ m, k = m + 1 := ⟨k - 1, by omega⟩
    simp only [waypointref07_Same.l0]
    rw [if_neg (by omega)]
  | succ d ih =>
    intro i k hd hk
    obtain ⟨k, rfl⟩ : ∃ m, k = m + 1 := ⟨k - 1, by omega⟩
    simp only [waypointref07_Same.l0]
    rw [if_pos (by omega), if_pos (by omega), if_pos (by omega), if_pos trivial, if_pos trivial, wrap_id (x := (i : Int) + 1) (by omega) (by omega), show (i : Int) + 1 = ((i + 1 : Nat) : Int) by omega]
    exact ih (i + 1) k (by omega) (by omega)
theorem j1_yes (k : Nat) (b : List Int) (hb : By b) (hl : b.length ≤ 2000) (hk : 4100 < k) : waypointlaw07_CodecRoundTrip.j1 k b = some true := by
  obtain ⟨k, rfl⟩ : ∃ m, k = m + 1 := ⟨k - 1, by omega⟩
  rw [waypointlaw07_CodecRoundTrip.j1]
  obtain ⟨m, e, q1, q2⟩ := dec_back k b [] hb (by omega) (by simp; omega)
  unfold codec_Decode.f
  rw [q1]
  simp only [Option.bind_some]
  rcases q2 with ⟨rfl, l, m1, m2, m3, m4⟩ | ⟨rfl, rfl⟩
  · rw [List.nil_append] at m1
    subst m1
    rw [if_pos rfl, Encode_eq k m (by omega) (by omega), ec_good m [] m3]
    simp [m2]
  · simp
theorem CodecRoundTrip : ∀ (l0 : (List S43)) (l1 : (List Int)), (l0.length * 32 ≤ 140737488351232 ∧ ∀ x ∈ l0, ((Lit.int .i64 x.f0).wf = true) ∧ (x.f1.length * 1 ≤ 140737488351232 ∧ ∀ y ∈ x.f1, (Lit.int .u8 y).wf = true)) → (l1.length * 1 ≤ 140737488351232 ∧ ∀ x ∈ l1, (Lit.int .u8 x).wf = true) → ∃ k, waypointlaw07_CodecRoundTrip.f k l0 l1 = some true := by
  rintro l b ⟨_, _⟩ ⟨_, hw⟩
  have hb := by_of hw
  obtain ⟨k, hk⟩ : ∃ k, 5000 < k := ⟨5001, by omega⟩
  refine ⟨k + 1, ?_⟩
  unfold waypointlaw07_CodecRoundTrip.f
  rw [awake_yes _ (by omega)]
  simp only [Option.bind_some, if_true]
  have ht : waypointlaw07_CodecRoundTrip.j0 (k + 1) l b true = some true := by simp [waypointlaw07_CodecRoundTrip.j0]
  by_cases h : (l.length : Int) > 40
  · rw [if_pos h, ht]
  rw [if_neg h]
  obtain ⟨s, hs⟩ := size_some l (by omega) l.length 0 (k + 1) 0 (by omega) (by omega)
  unfold waypointlaw07_size.f
  rw [show ((0 : Nat) : Int) = 0 from rfl] at hs
  rw [hs]
  simp only [Option.bind_some]
  by_cases h2 : s > 2000
  · rw [if_pos h2, ht]
  rw [if_neg h2]
  by_cases h3 : (b.length : Int) > 2000
  · rw [decide_eq_true h3, ht]
  rw [decide_eq_false h3]
  have hj := j1_yes k b hb (by omega) (by omega)
  have h1 := own_loop l (by omega) l.length 0 k [] (by omega) (by omega) rfl
  rw [List.drop_zero, List.nil_append, show ((0 : Nat) : Int) = 0 from rfl] at h1
  simp only [waypointlaw07_CodecRoundTrip.j0, Bool.false_eq_true, if_false]
  unfold waypointlaw07_own.f
  rw [h1]
  simp only [Option.bind_some]
  rw [Encode_eq k _ (by simp; omega) (by simp; omega)]
  simp only [Option.bind_some]
  by_cases h4 : (ec [] (l.map cv)).2 = 0
  · have hg := ec_bad _ _ h4
    rw [if_pos h4, ec_good _ _ hg, List.nil_append]
    have hfl : ∀ (m : List S56), (∀ x ∈ m, good x) → (fl m).length ≤ 70000 * m.length := by
      intro m
      induction m with
      | nil => intro _; simp [fl]
      | cons x r ih =>
        intro hm
        have hx := hm x (by simp)
        have := ih (fun y hy => hm y (by simp [hy]))
        unfold good at hx
        simp [fl, one]
        omega
    have hlen := hfl _ hg
    rw [List.length_map] at hlen
    unfold codec_Decode.f
    rw [dec_fl (l.map cv) k [] hg (by simp; omega) (by simp; omega) (by omega)]
    simp only [Option.bind_some, if_true, List.nil_append]
    have h5 := back_loop (l.map cv) (by simp; omega) l.length 0 k [] (by simp) (by omega) rfl
    rw [List.drop_zero, List.nil_append, show ((0 : Nat) : Int) = 0 from rfl, List.map_map] at h5
    have hid : l.map (bk ∘ cv) = l := by
      have : (bk ∘ cv) = id := rfl
      rw [this, List.map_id]
    rw [hid] at h5
    unfold waypointlaw07_back.f
    rw [h5]
    simp only [Option.bind_some]
    unfold waypointref07_Same.f
    have h6 := same_loop l (by omega) l.length 0 k (by omega) (by omega)
    rw [show ((0 : Nat) : Int) = 0 from rfl] at h6
    rw [if_pos rfl, h6]
    simp only [Option.bind_some, if_true]
    exact hj
  · rw [if_neg h4]
    exact hj
end Go.Proofs.Ytfoagppeddflnaa.Pure

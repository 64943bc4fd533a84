/- The pure statement of CodecEncodes. -/
import Derived.Test.YtfoagppeddflnaaCodV
import Derived.Test.YtfoagppeddflnaaPT0712
import Derived.Test.YtfoagppeddflnaaPT079
namespace Go.Proofs.Ytfoagppeddflnaa.Pure
open Go.RowKit Go.Proofs.Ytfoagppeddflnaa.PT07 Go.Proofs.Ytfoagppeddflnaa.Cod Go.Proofs.YtfoagppeddflnaaW.PrintWords Go.Proofs.YtfoagppeddflnaaW.PrintLast

theorem refenc_loop (l : List S43) (hl : l.length ≤ 100000) : ∀ (d i k : Nat) (acc : List Int), d + i = l.length → 2 * d < k → acc.length ≤ 70000 * i → waypointref07_Encode.l0 k l acc (i : Int) = some (ec acc ((l.drop i).map cv)) := by
  intro d
  induction d with
  | zero =>
    intro i k acc hd hk ha
    obtain ⟨k, rfl⟩ : ∃ m, k = m + 1 := ⟨k - 1, by omega⟩
    rw [List.drop_eq_nil_of_le (by omega)]
    simp only [waypointref07_Encode.l0, ec, List.map_nil]
    rw [if_neg (by omega)]
  | succ d ih =>
    intro i k acc hd hk ha
    obtain ⟨k, rfl⟩ : ∃ m, k = m + 2 := ⟨k - 2, by omega⟩
    have hi : i < l.length := by omega
    rw [drop43 hi, show k + 2 = (k + 1) + 1 from rfl, List.map_cons]
    generalize hx : rd_T43 l (i : Int) = x
    simp only [waypointref07_Encode.l0, ec, hx]
    rw [if_pos (by omega), if_pos (by omega)]
    have e0 : (cv x).f0 = x.f0 := rfl
    have e1 : (cv x).f1 = x.f1 := rfl
    rw [e0, e1]
    have ht : waypointref07_Encode.j1 (k + 1) l acc (i : Int) (x.f1.length : Int) true = some ([], 1) := by simp [waypointref07_Encode.j1]
    by_cases h1 : x.f0 < 1
    · rw [if_pos h1, if_pos (Or.inl h1), ht]
    rw [if_neg h1]
    by_cases h2 : x.f0 > 255
    · rw [decide_eq_true h2, if_pos (Or.inr h2), ht]
    rw [decide_eq_false h2, if_neg (by omega)]
    simp only [waypointref07_Encode.j1, Bool.false_eq_true, if_false, Option.bind_some, hx]
    by_cases h3 : (x.f1.length : Int) > 65535
    · rw [if_pos h3, if_pos h3]
    rw [if_neg h3, if_neg h3, if_pos (by omega), if_pos (by omega), if_pos (by simp; omega), if_pos (by simp; omega), wrap_id (x := (i : Int) + 1) (by omega) (by omega), show (i : Int) + 1 = ((i + 1 : Nat) : Int) by omega, ih (i + 1) k _ (by omega) (by omega) (by simp; omega)]
    rw [Int.tdiv_eq_ediv_of_nonneg (by omega), Int.tmod_eq_emod_of_nonneg (by omega), wrap_id (by omega) (by omega), show (x.f1.length : Int) % 256 % 256 = (x.f1.length : Int) % 256 by omega]
    simp [one, e0, e1]
theorem CodecEncodes : ∀ (l0 : (List S43)), (l0.length * 32 ≤ 140737488351232 ∧ ∀ x ∈ l0, ((Lit.int .i64 x.f0).wf = true) ∧ (x.f1.length * 1 ≤ 140737488351232 ∧ ∀ y ∈ x.f1, (Lit.int .u8 y).wf = true)) → ∃ k, waypointlaw07_CodecEncodes.f k l0 = some true := by
  rintro l ⟨_, _⟩
  obtain ⟨k, hk⟩ : ∃ k, 5000 < k := ⟨5001, by omega⟩
  refine ⟨k + 1, ?_⟩
  unfold waypointlaw07_CodecEncodes.f
  rw [awake_yes _ (by omega)]
  simp only [Option.bind_some, if_true]
  have ht : waypointlaw07_CodecEncodes.j0 (k + 1) l true = some true := by simp [waypointlaw07_CodecEncodes.j0]
  by_cases h : (l.length : Int) > 40
  · rw [if_pos h, ht]
  rw [if_neg h]
  obtain ⟨s, hs⟩ := size_eq (k + 1) l (by omega) (by omega)
  rw [hs]
  simp only [Option.bind_some]
  by_cases h2 : s > 70000
  · rw [decide_eq_true h2, ht]
  rw [decide_eq_false h2]
  simp only [waypointlaw07_CodecEncodes.j0, Bool.false_eq_true, if_false]
  rw [own_eq k l (by omega) (by omega)]
  simp only [Option.bind_some]
  rw [Encode_eq k _ (by simp; omega) (by simp; omega)]
  have hr := refenc_loop l (by omega) l.length 0 k [] (by omega) (by omega) (by simp)
  rw [List.drop_zero, show ((0 : Nat) : Int) = 0 from rfl] at hr
  unfold waypointref07_Encode.f
  rw [hr, back_eq k _ (by simp; omega) (by simp; omega), map_bk_cv]
  simp only [Option.bind_some, if_true]
  rw [same_eq k l (by omega) (by omega)]
  rfl
end Go.Proofs.Ytfoagppeddflnaa.Pure

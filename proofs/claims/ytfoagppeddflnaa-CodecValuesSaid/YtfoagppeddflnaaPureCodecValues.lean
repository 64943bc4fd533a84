/- The pure statement of CodecValues. -/
import Derived.Test.YtfoagppeddflnaaCodP
import Derived.Test.YtfoagppeddflnaaPT0718
namespace Go.Proofs.Ytfoagppeddflnaa.Pure
open Go.RowKit Go.Proofs.Ytfoagppeddflnaa.PT07 Go.Proofs.Ytfoagppeddflnaa.Cod Go.Proofs.YtfoagppeddflnaaW.PrintWords Go.Proofs.YtfoagppeddflnaaW.PrintLast

theorem drop43 {l : List S43} {i : Nat} (h : i < l.length) : l.drop i = rd_T43 l (i : Int) :: l.drop (i + 1) := by
  rw [List.drop_eq_getElem_cons h]
  congr 1
  simp [rd_T43, h]
theorem drop56 {l : List S56} {i : Nat} (h : i < l.length) : l.drop i = rd_T56 l (i : Int) :: l.drop (i + 1) := by
  rw [List.drop_eq_getElem_cons h]
  congr 1
  simp [rd_T56, h]
def cv (x : S43) : S56 := ⟨x.f0, x.f1⟩
def VL (a : Int) : List S43 → List (List Int)
  | [] => []
  | x :: r => if x.f0 = a then x.f1 :: VL a r else VL a r
theorem own_loop (l : List S43) (hl : l.length ≤ 40) : ∀ (d i k : Nat) (acc : List S56), d + i = l.length → d < k → acc.length = i → waypointlaw07_own.l0 k l acc (i : Int) = some (acc ++ (l.drop i).map cv) := by
  intro d
  induction d with
  | zero =>
    intro i k acc hd hk ha
    obtain ⟨k, rfl⟩ : ∃ m, k = m + 1 := ⟨k - 1, by omega⟩
    rw [List.drop_eq_nil_of_le (by omega)]
    simp only [waypointlaw07_own.l0]
    rw [if_neg (by omega)]
    simp
  | succ d ih =>
    intro i k acc hd hk ha
    obtain ⟨k, rfl⟩ : ∃ m, k = m + 1 := ⟨k - 1, by omega⟩
    rw [drop43 (by omega)]
    simp only [waypointlaw07_own.l0]
    rw [if_pos (by omega), if_pos (by omega), if_pos (by omega), wrap_id (x := (i : Int) + 1) (by omega) (by omega), show (i : Int) + 1 = ((i + 1 : Nat) : Int) by omega, ih (i + 1) k _ (by omega) (by omega) (by simp; omega)]
    simp [cv]
theorem values_loop (l : List S43) (a : Int) (hl : l.length ≤ 40) (hs : ∀ x ∈ l, x.f1.length < 140737488355328) : ∀ (d i k : Nat) (acc : List (List Int)), d + i = l.length → d < k → acc.length ≤ i → codec_Values.l0 k a acc (l.map cv) (l.length : Int) (i : Int) = some (acc ++ VL a (l.drop i)) := by
  intro d
  induction d with
  | zero =>
    intro i k acc hd hk ha
    obtain ⟨k, rfl⟩ : ∃ m, k = m + 1 := ⟨k - 1, by omega⟩
    rw [List.drop_eq_nil_of_le (by omega)]
    simp only [codec_Values.l0]
    rw [if_neg (by omega)]
    simp [VL]
  | succ d ih =>
    intro i k acc hd hk ha
    obtain ⟨k, rfl⟩ : ∃ m, k = m + 1 := ⟨k - 1, by omega⟩
    have hi : i < l.length := by omega
    have hm : rd_T43 l (i : Int) ∈ l := by simp [rd_T43, hi]
    have hx : rd_T56 (l.map cv) (i : Int) = cv (rd_T43 l (i : Int)) := by simp [rd_T56, rd_T43, hi]
    have hlen := hs _ hm
    have hcl : slices_Clone_byte_byte.f (rd_T43 l (i : Int)).f1 = some (rd_T43 l (i : Int)).f1 := by
      simp only [slices_Clone_byte_byte.f, Option.bind_some, List.nil_append]
      rw [if_pos (by simp; omega)]
    rw [drop43 hi]
    simp only [codec_Values.l0, VL, hx]
    rw [if_pos (by omega), if_pos (by omega), if_pos (by simp; omega), wrap_id (x := (i : Int) + 1) (by omega) (by omega), show (i : Int) + 1 = ((i + 1 : Nat) : Int) by omega]
    by_cases h : (rd_T43 l (i : Int)).f0 = a
    · rw [if_pos (show (cv (rd_T43 l (i : Int))).f0 = a from h), if_pos h, show (cv (rd_T43 l (i : Int))).f1 = (rd_T43 l (i : Int)).f1 from rfl, hcl]
      simp only [Option.bind_some]
      rw [if_pos (by omega), ih (i + 1) k _ (by omega) (by omega) (by simp; omega)]
      simp
    · rw [if_neg (show ¬ (cv (rd_T43 l (i : Int))).f0 = a from h), if_neg h]
      exact ih (i + 1) k _ (by omega) (by omega) (by omega)
theorem law_loop (l : List S43) (a : Int) (v : List (List Int)) (hl : l.length ≤ 40) : ∀ (d i k : Nat) (pre : List (List Int)), d + i = l.length → d < k → v = pre ++ VL a (l.drop i) → pre.length ≤ i → waypointlaw07_CodecValues.l0 k l a v (pre.length : Int) (i : Int) = some true := by
  intro d
  induction d with
  | zero =>
    intro i k pre hd hk hv hp
    obtain ⟨k, rfl⟩ : ∃ m, k = m + 1 := ⟨k - 1, by omega⟩
    rw [List.drop_eq_nil_of_le (by omega)] at hv
    simp only [waypointlaw07_CodecValues.l0]
    rw [if_neg (by omega), hv]
    simp [VL]
  | succ d ih =>
    intro i k pre hd hk hv hp
    obtain ⟨k, rfl⟩ : ∃ m, k = m + 1 := ⟨k - 1, by omega⟩
    rw [drop43 (by omega)] at hv
    simp only [VL] at hv
    simp only [waypointlaw07_CodecValues.l0]
    rw [if_pos (by omega), if_pos (by omega), wrap_id (x := (i : Int) + 1) (by omega) (by omega), wrap_id (x := (pre.length : Int) + 1) (by omega) (by omega), show (i : Int) + 1 = ((i + 1 : Nat) : Int) by omega]
    by_cases h : (rd_T43 l (i : Int)).f0 = a
    · rw [if_pos h] at hv ⊢
      have hlen : pre.length < v.length := by rw [hv]; simp
      have hr : rd_L2 v (pre.length : Int) = (rd_T43 l (i : Int)).f1 := by rw [hv]; simp [rd_L2]
      rw [if_neg (by omega), if_pos (by omega), if_pos (by omega), hr, if_pos rfl]
      have := ih (i + 1) k (pre ++ [(rd_T43 l (i : Int)).f1]) (by omega) (by omega) (by rw [hv]; simp) (by simp; omega)
      rw [List.length_append] at this
      exact this
    · rw [if_neg h] at hv ⊢
      exact ih (i + 1) k pre (by omega) (by omega) hv (by omega)
theorem CodecValues : ∀ (l0 : (List S43)) (a1 : Int), (l0.length * 32 ≤ 140737488351232 ∧ ∀ x ∈ l0, ((Lit.int .i64 x.f0).wf = true) ∧ (x.f1.length * 1 ≤ 140737488351232 ∧ ∀ y ∈ x.f1, (Lit.int .u8 y).wf = true)) → ((Lit.int .i64 a1).wf = true) → ∃ k, waypointlaw07_CodecValues.f k l0 a1 = some true := by
  rintro l a ⟨_, hw⟩ _
  obtain ⟨k, hk⟩ : ∃ k, 100 < k := ⟨101, by omega⟩
  refine ⟨k, ?_⟩
  unfold waypointlaw07_CodecValues.f
  rw [awake_yes _ (by omega)]
  simp only [Option.bind_some, if_true]
  by_cases h : (l.length : Int) > 40
  · rw [if_pos h]
  have hs : ∀ x ∈ l, x.f1.length < 140737488355328 := fun x hx => by have := (hw x hx).2.1; omega
  have h1 := own_loop l (by omega) l.length 0 k [] (by omega) (by omega) rfl
  have h2 := values_loop l a (by omega) hs l.length 0 k [] (by omega) (by omega) (by simp)
  rw [List.drop_zero, List.nil_append] at h1 h2
  rw [if_neg h]
  unfold waypointlaw07_own.f codec_Values.f
  rw [show ((0 : Nat) : Int) = 0 from rfl] at h1 h2
  rw [h1]
  simp only [Option.bind_some, List.length_map]
  rw [h2]
  simp only [Option.bind_some]
  exact law_loop l a _ (by omega) l.length 0 k [] (by omega) (by omega) (by simp) (by simp)

end Go.Proofs.Ytfoagppeddflnaa.Pure

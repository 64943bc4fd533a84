/- The pure statement of CodecDecodes. -/
import Derived.Test.YtfoagppeddflnaaCodV
import Derived.Test.YtfoagppeddflnaaPT0714
import Derived.Test.YtfoagppeddflnaaPT0713
namespace Go.Proofs.Ytfoagppeddflnaa.Pure
open Go.RowKit Go.Proofs.Ytfoagppeddflnaa.PT07 Go.Proofs.Ytfoagppeddflnaa.Cod Go.Proofs.YtfoagppeddflnaaW.PrintWords Go.Proofs.YtfoagppeddflnaaW.PrintLast

theorem okB_of {x : Int} (h : 0 ≤ x ∧ x ≤ 255) : okB x = true := by simpa [okB] using h
theorem end_decN {b : List Int} (h1 : 0 ≤ rd b 1 ∧ rd b 1 ≤ 255) (h2 : 0 ≤ rd b 2 ∧ rd b 2 ≤ 255) : codec_Decode.end_ b = 3 + decN b := by
  unfold codec_Decode.end_ decN
  rw [wrap_id (x := rd b 1) (by omega) (by omega), wrap_id (x := rd b 1 * 256) (by omega) (by omega), wrap_id (x := rd b 2) (by omega) (by omega), wrap_id (x := 3 + rd b 1 * 256) (by omega) (by omega), wrap_id (by omega) (by omega)]
  omega
theorem ref_of_dec : ∀ (k : Nat) (b : List Int) (acc m : List S56) (e : Int), By b → codec_Decode.l0 k b acc = some (m, e) → waypointref07_Decode.l0 k b (acc.map bk) = some (m.map bk, e)
  | 0, b, acc, m, e, _, h => by simp [codec_Decode.l0] at h
  | k + 1, b, acc, m, e, hb, h => by
    rw [codec_Decode.l0] at h
    rw [waypointref07_Decode.l0]
    by_cases c1 : 0 < b.length
    case neg =>
      rw [if_neg c1] at h ⊢
      simp only [Option.some.injEq, Prod.mk.injEq] at h
      rw [h.1, h.2]
    rw [if_pos c1] at h ⊢
    by_cases c2 : b.length < 3
    · rw [if_pos c2] at h ⊢
      simp only [Option.some.injEq, Prod.mk.injEq] at h
      rw [← h.1, ← h.2]
      rfl
    rw [if_neg c2] at h ⊢
    have r0 := hb.rd (i := 0) (by omega)
    have r1 := hb.rd (i := 1) (by omega)
    have r2 := hb.rd (i := 2) (by omega)
    have ok : (okB (rd b 0) && okB (rd b 1) && okB (rd b 2)) = true := by
      simp only [Bool.and_eq_true]
      exact ⟨⟨okB_of r0, okB_of r1⟩, okB_of r2⟩
    have he : codec_Decode.end_ b = 3 + decN b := end_decN r1 r2
    have hd : 0 ≤ decN b := by unfold decN; have a1 : 0 ≤ rd b 1 := r1.1; have a2 : 0 ≤ rd b 2 := r2.1; omega
    rw [if_pos ok]
    rw [he] at h
    by_cases c3 : rd b 0 = 0
    · rw [if_pos c3] at h ⊢
      simp only [Option.some.injEq, Prod.mk.injEq] at h
      rw [← h.1, ← h.2]
      rfl
    rw [if_neg c3] at h ⊢
    by_cases c4 : (b.length : Int) < 3 + decN b
    · rw [if_pos c4] at h ⊢
      simp only [Option.some.injEq, Prod.mk.injEq] at h
      rw [← h.1, ← h.2]
      rfl
    rw [if_neg c4] at h ⊢
    rw [if_pos (by omega)] at h
    by_cases c6 : acc.length < 4398046511103
    case neg => rw [if_neg c6] at h; cases h
    rw [if_pos c6] at h
    rw [if_pos (by simpa using c6)]
    by_cases c7 : b.length < 140737488355328
    case neg => rw [if_neg c7] at h; cases h
    rw [if_pos c7] at h ⊢
    have a0 : 0 ≤ rd b 0 ∧ rd b 0 ≤ 255 := r0
    have hw : wrap64 (rd b 0) = rd b 0 := wrap_id (by omega) (by omega)
    rw [hw] at h
    have := ref_of_dec k _ _ m e (fun x hx => hb x (List.mem_of_mem_drop hx)) h
    rw [List.map_append] at this
    exact this
theorem CodecDecodes : ∀ (l0 : (List Int)), (l0.length * 1 ≤ 140737488351232 ∧ ∀ x ∈ l0, (Lit.int .u8 x).wf = true) → ∃ k, waypointlaw07_CodecDecodes.f k l0 = some true := by
  rintro b ⟨_, hw⟩
  have hb := by_of hw
  obtain ⟨k, hk⟩ : ∃ k, 5000 < k := ⟨5001, by omega⟩
  refine ⟨k, ?_⟩
  unfold waypointlaw07_CodecDecodes.f
  rw [awake_yes _ (by omega)]
  simp only [Option.bind_some, List.nil_append, if_true]
  by_cases h : (b.length : Int) > 2000
  · rw [if_pos h]
  rw [if_neg h, if_pos (by simp; omega)]
  obtain ⟨m, e, q1, q2⟩ := dec_back k b [] hb (by omega) (by simp; omega)
  have q3 := ref_of_dec k b [] m e hb q1
  rw [List.map_nil] at q3
  unfold codec_Decode.f waypointref07_Decode.f
  rw [q1, q3]
  simp only [Option.bind_some, if_true]
  have hm : m.length ≤ 2000 := by
    rcases q2 with ⟨_, l, rfl, _, _, h4⟩ | ⟨_, rfl⟩
    · omega
    · exact Nat.zero_le _
  rw [back_eq k m (by omega) (by omega)]
  simp only [Option.bind_some]
  rw [same_eq k _ (by simp; omega) (by simp; omega)]
  simp
end Go.Proofs.Ytfoagppeddflnaa.Pure

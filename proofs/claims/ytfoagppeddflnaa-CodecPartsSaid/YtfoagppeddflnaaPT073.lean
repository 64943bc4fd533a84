-- WRITTEN BY mygen.py, a program of mine over the kit's print; Lean checks every row
import Derived.Test.YtfoagppeddflnaaCodD
import Derived.Test.YtfoagppeddflnaaPT070
namespace Go.Proofs.Ytfoagppeddflnaa.PT07
open Go.RowKit Go.Proofs.YtfoagppeddflnaaW.PrintWords Go.Proofs.YtfoagppeddflnaaW.PrintLast Go.Proofs.YtfoagppeddflnaaW.PrintMore
attribute [local go_sem] max2_int min2_int max_two min_two max_three min_three max_four min_four   -- for this text's walks alone
set_option linter.unusedVariables false
set_option linter.unusedSimpArgs false

/-! ### codec_Decode: function 17 -/
--MODULE YtfoagppeddflnaaCodD
def codec_Decode.f (k : Nat) (l0 : List Int) : Option (List S56 × Int) := codec_Decode.l0 k l0 []
theorem codec_Decode.mono_l : ∀ k b acc, LeO (codec_Decode.l0 k b acc) (codec_Decode.l0 (k + 1) b acc)
  | 0, _, _ => fun r h => by simp [codec_Decode.l0] at h
  | k + 1, b, acc => by
    intro r h
    rw [codec_Decode.l0] at h ⊢
    by_cases c1 : 0 < b.length
    · rw [if_pos c1] at h ⊢
      by_cases c2 : b.length < 3
      · rw [if_pos c2] at h ⊢; exact h
      rw [if_neg c2] at h ⊢
      by_cases c3 : rd b 0 = 0
      · rw [if_pos c3] at h ⊢; exact h
      rw [if_neg c3] at h ⊢
      by_cases c4 : (b.length : Int) < codec_Decode.end_ b
      · rw [if_pos c4] at h ⊢; exact h
      rw [if_neg c4] at h ⊢
      by_cases c5 : 3 ≤ codec_Decode.end_ b
      · rw [if_pos c5] at h ⊢
        by_cases c6 : acc.length < 4398046511103
        · rw [if_pos c6] at h ⊢
          by_cases c7 : b.length < 140737488355328
          · rw [if_pos c7] at h ⊢; exact codec_Decode.mono_l k _ _ r h
          · rw [if_neg c7] at h; cases h
        · rw [if_neg c6] at h; cases h
      · rw [if_neg c5] at h; cases h
    · rw [if_neg c1] at h ⊢; exact h
theorem codec_Decode.mono : ∀ a0 k, LeO (codec_Decode.f k a0) (codec_Decode.f (k + 1) a0) := fun a0 k => codec_Decode.mono_l k a0 []
theorem codec_Decode.calls (k : Nat) (A0 : Option Addr) (c0 : Nat) (l0 : List Int) (r1 : List S56) (r2 : Int) (w : World) (hr0 : Kd.C (Kd.int .u8) w A0 l0.length l0) (hc0 : l0.length ≤ c0) (h : codec_Decode.f k l0 = some (r1, r2)) :
    Calls Try.prog 17 #[.slice A0 l0.length c0] w fun e w' => ∃ v0_ : Value, e = .returned (.tuple #[v0_, .int .i64 r2]) ∧ Kd.S k56 56 w' w.heap.size (fun _ => True) v0_ r1 ∧ Below w.heap.size w w' := codec_Decode.callsL k A0 c0 l0 r1 r2 w hr0 hc0 h

end Go.Proofs.Ytfoagppeddflnaa.PT07

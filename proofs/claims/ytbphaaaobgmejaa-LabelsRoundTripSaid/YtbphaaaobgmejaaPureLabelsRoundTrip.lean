/- The pure statement of LabelsRoundTrip. -/
import Derived.Test.YtbphaaaobgmejaaLabC
import Derived.Test.YtbphaaaobgmejaaPT1918
namespace Go.Proofs.Ytbphaaaobgmejaa.Pure
open Go.RowKit Go.Proofs.Ytbphaaaobgmejaa.PT19 Go.Proofs.Ytbphaaaobgmejaa.Lab Go.Proofs.YtbphaaaobgmejaaW.PrintWords Go.Proofs.YtbphaaaobgmejaaW.PrintLast

theorem core (k : Nat) (l : List S30) (c t : Int) (hk : 150 < k) (h60 : l.length ≤ 60) : ((labels_Pack.f k l c t).bind fun bt227 => (if bt227.2 = 0 then ((labels_Unpack.f k bt227.1).bind fun bt231 => (if bt231.2.2.2 = 0 then ((waypointref19_Same.f k l bt231.1).bind fun t237 => (if t237 = true then (if (bt227.1.length : Int) = (wrap64 (4 * (l.length : Int))) then (if (l.length : Int) = 0 then (some true) else (if bt231.2.1 = c then (some (bt231.2.2.1 == t)) else (some false))) else (some false)) else (some false))) else (some false))) else (some ((bt227.1.length : Int) == 0)))) = some true := by
  rw [Pack_eq _ _ _ _ (by omega)]
  simp only [Option.bind_some]
  by_cases h : (pack l c t).2 = 0
  · obtain ⟨r1, r2⟩ := round l c t h
    rw [if_pos h, Unpack_eq _ _ (pack_By l c t) (by omega), r1]
    have hw : wrap64 (4 * (l.length : Int)) = 4 * (l.length : Int) := wrap_id (by omega) (by omega)
    have hr : (((pack l c t).1.length : Nat) : Int) = 4 * (l.length : Int) := by omega
    have hs := same_self k l (by omega) (by omega)
    by_cases hn : l = []
    · have h0 : (l.length : Int) = 0 := by rw [hn]; rfl
      rw [if_pos hn]
      have hs' : waypointref19_Same.f k l [] = some true := by rw [hn] at hs ⊢; exact hs
      rw [hw, hr, h0]
      simp only [Option.bind_some, hs', if_true]
    · have h0 : ¬ (l.length : Int) = 0 := by
        intro h0
        exact hn (List.eq_nil_of_length_eq_zero (by omega))
      rw [if_neg hn]
      simp only [Option.bind_some, hs, hw, hr, h0, if_true, if_false, beq_self_eq_true]
  · rw [if_neg h, pack_no l c t h]
    simp
theorem LabelsRoundTrip : ∀ (l0 : (List S30)) (a1 : Int) (a2 : Int), (l0.length * 16 ≤ 140737488351232 ∧ ∀ x ∈ l0, ((Lit.int .i64 x.f0).wf = true) ∧ ((Lit.int .i64 x.f1).wf = true)) → ((Lit.int .u8 a1).wf = true) → ((Lit.int .u8 a2).wf = true) → ∃ k, waypointlaw19_LabelsRoundTrip.f k l0 a1 a2 = some true := by
  intro l a1 a2 _ _ _
  obtain ⟨k, hk⟩ : ∃ k, 150 < k := ⟨151, by omega⟩
  refine ⟨k + 1, ?_⟩
  unfold waypointlaw19_LabelsRoundTrip.f
  rw [awake_yes _ (by omega)]
  simp only [Option.bind_some, if_true, waypointlaw19_LabelsRoundTrip.j0]
  rw [awake_yes _ (by omega)]
  by_cases h60 : (l.length : Int) > 60
  · rw [decide_eq_true h60, if_pos rfl]
    rfl
  · rw [decide_eq_false h60, if_neg (by simp)]
    exact core k l _ _ hk (by omega)

end Go.Proofs.Ytbphaaaobgmejaa.Pure

/- The pure statement of LabelsPop. -/
import Derived.Test.YtbphaaaobgmejaaLabC
import Derived.Test.YtbphaaaobgmejaaPT1921
namespace Go.Proofs.Ytbphaaaobgmejaa.Pure
open Go.RowKit Go.Proofs.Ytbphaaaobgmejaa.PT19 Go.Proofs.Ytbphaaaobgmejaa.Lab Go.Proofs.YtbphaaaobgmejaaW.PrintWords Go.Proofs.YtbphaaaobgmejaaW.PrintLast

theorem LabelsPop : ∀ (l0 : (List Int)), (l0.length * 1 ≤ 140737488351232 ∧ ∀ x ∈ l0, (Lit.int .u8 x).wf = true) → ∃ k, waypointlaw19_LabelsPop.f k l0 = some true := by
  rintro l ⟨hl, hw⟩
  have hb := by_of hw
  obtain ⟨k, hk⟩ : ∃ k, 150 < k := ⟨151, by omega⟩
  refine ⟨k + 1, ?_⟩
  unfold waypointlaw19_LabelsPop.f
  rw [awake_yes _ (by omega)]
  simp only [Option.bind_some, if_true]
  simp only [waypointlaw19_LabelsPop.j0]
  rw [awake_yes _ (by omega)]
  by_cases h200 : (l.length : Int) > 200
  · rw [decide_eq_true h200, if_pos rfl]; rfl
  rw [decide_eq_false h200, if_neg (by simp)]
  unfold labels_Pop.f waypointref19_Pop.f
  rw [Unpack_eq _ _ hb (by omega), RefUnpack_eq _ _ hb (by omega)]
  simp only [Option.bind_some]
  by_cases h : (unp l).2.2.2 = 0
  · rw [if_pos h, if_pos h]
    rcases unp_ok l hb h with ⟨_, h2⟩ | ⟨n, r, h1, h2, h3, h4, h5⟩
    · rw [h2]; simp
    · rw [h2]
      have hlen : l.length = 4 * (n :: r).length := by rw [h1, fl_len]
      simp only [List.length_cons] at hlen
      have hd : l.drop 4 = fl r := by rw [h1]; simp [fl, by4]
      have hp : pack (r.map lb) (cl n) (tt n) = (fl r, 0) := by
        have hor := oks_of r _ _ h3.2
        have hc : 0 ≤ cl n ∧ cl n ≤ 7 := by unfold cl; omega
        have ht : 0 ≤ tt n ∧ tt n ≤ 255 := by unfold tt; omega
        rw [pack_ok _ _ _ hc.1 hc.2 ht.1 ht.2 (by simp at h5 ⊢; omega) (oks_en _ hor), (OKs_iff _ _ hc.1 hc.2 ht.1 ht.2 r (fun m hm => h4 m (by simp [hm])) hor).mp h3.2]
      simp only [List.length_cons] at h5
      simp only [List.map_cons, List.drop_succ_cons, List.drop_zero, List.length_cons, List.length_map]
      rw [if_neg (by omega), if_pos (by omega), if_pos (by omega), if_neg (by omega), if_pos (by omega), RefPack_eq _ _ _ _ (by omega)]
      simp only [Option.bind_some]
      rw [hp, if_pos (by omega), hd]
      simp
  · rw [if_neg h, if_neg h]
    simp

end Go.Proofs.Ytbphaaaobgmejaa.Pure

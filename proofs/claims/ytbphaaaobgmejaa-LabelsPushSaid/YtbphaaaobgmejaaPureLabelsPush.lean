/- The pure statement of LabelsPush. -/
import Derived.Test.YtbphaaaobgmejaaLabC
import Derived.Test.YtbphaaaobgmejaaPT1924
namespace Go.Proofs.Ytbphaaaobgmejaa.Pure
open Go.RowKit Go.Proofs.Ytbphaaaobgmejaa.PT19 Go.Proofs.Ytbphaaaobgmejaa.Lab Go.Proofs.YtbphaaaobgmejaaW.PrintWords Go.Proofs.YtbphaaaobgmejaaW.PrintLast

theorem LabelsPush : ∀ (l0 : (List Int)) (a1_0 : Int) (a1_1 : Int), (l0.length * 1 ≤ 140737488351232 ∧ ∀ x ∈ l0, (Lit.int .u8 x).wf = true) → ((Lit.int .i64 a1_0).wf = true) → ((Lit.int .i64 a1_1).wf = true) → ∃ k, waypointlaw19_LabelsPush.f k l0 a1_0 a1_1 = some true := by
  rintro l a b ⟨hl, hw⟩ _ _
  have hb := by_of hw
  obtain ⟨k, hk⟩ : ∃ k, 150 < k := ⟨151, by omega⟩
  refine ⟨k + 2, ?_⟩
  unfold waypointlaw19_LabelsPush.f
  rw [awake_yes _ (by omega)]
  simp only [Option.bind_some, if_true]
  simp only [waypointlaw19_LabelsPush.j0]
  rw [awake_yes _ (by omega)]
  have hlen := unp_len l hb
  by_cases h200 : (l.length : Int) > 200
  · rw [decide_eq_true h200, if_pos rfl]; rfl
  rw [decide_eq_false h200, if_neg (by simp)]
  have hp1 : labels_Push.f (k + 1) l a b = some (if (unp l).2.2.2 = 0 then pack (⟨a, b⟩ :: (unp l).1) (unp l).2.1 (unp l).2.2.1 else ([], (unp l).2.2.2)) := by
    unfold labels_Push.f
    rw [Unpack_eq _ _ hb (by omega)]
    simp only [Option.bind_some]
    by_cases h : (unp l).2.2.2 = 0
    · rw [if_pos h, if_pos h, if_pos (by simp; omega), Pack_eq _ _ _ _ (by omega)]
      rfl
    · rw [if_neg h, if_neg h]
  have hp2 : waypointref19_Push.f (k + 1) l a b = some (if (unp l).2.2.2 = 0 then pack (⟨a, b⟩ :: (unp l).1) (unp l).2.1 (unp l).2.2.1 else ([], (unp l).2.2.2)) := by
    unfold waypointref19_Push.f
    rw [RefUnpack_eq _ _ hb (by omega)]
    simp only [Option.bind_some]
    by_cases h : (unp l).2.2.2 = 0
    · rw [if_pos h, if_pos h, if_pos (by simp; omega), RefPack_eq _ _ _ _ (by omega)]
      rfl
    · rw [if_neg h, if_neg h]
  rw [hp1, hp2]
  simp only [Option.bind_some, if_true, waypointlaw19_LabelsPush.j1]
  rw [if_neg (by simp)]
  by_cases h : (unp l).2.2.2 = 0
  · simp only [if_pos h]
    by_cases h0 : (pack (⟨a, b⟩ :: (unp l).1) (unp l).2.1 (unp l).2.2.1).2 = 0
    · rw [if_pos h0]
      unfold labels_Pop.f
      rw [Unpack_eq _ _ (pack_By _ _ _) (by omega)]
      obtain ⟨r1, r2⟩ := round _ _ _ h0
      rw [r1, if_neg (by simp)]
      have hn : (pack (⟨a, b⟩ :: (unp l).1) (unp l).2.1 (unp l).2.2.1).1.drop 4 = l := by
        obtain ⟨⟨hc, hc', ht, ht'⟩, hl32, hx⟩ := pack_yes _ _ _ h0
        rw [pack_ok _ _ _ hc hc' ht ht' hl32 hx]
        have hd : ∀ n r, (fl (n :: r)).drop 4 = fl r := fun n r => by simp [fl, by4]
        simp only [wds, hd]
        rcases unp_ok l hb h with ⟨h1, h2⟩ | ⟨n, r, h1, h2, h3, h4, h5⟩
        · rw [h2, h1]; rfl
        · rw [h2] at hc hc' ht ht' ⊢
          dsimp only at hc hc' ht ht' ⊢
          rw [(OKs_iff _ _ hc hc' ht ht' (n :: r) h4 (oks_of _ _ _ h3)).mp h3, h1]
      simp only [List.length_cons] at r2
      simp only [Option.bind_some, if_true, List.length_cons]
      rw [if_neg (by omega), if_pos (by omega), if_pos (by omega), hn]
      simp [rd_T30]
    · rw [if_neg h0]
  · simp only [if_neg h]

end Go.Proofs.Ytbphaaaobgmejaa.Pure

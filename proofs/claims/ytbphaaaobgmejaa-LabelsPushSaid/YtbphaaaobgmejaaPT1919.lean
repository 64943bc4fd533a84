-- WRITTEN BY mygen.py, a program of mine over the kit's print; Lean checks every row
import Derived.Test.YtbphaaaobgmejaaPT190
import Derived.Test.YtbphaaaobgmejaaPT1914
namespace Go.Proofs.Ytbphaaaobgmejaa.PT19
open Go.RowKit Go.Proofs.YtbphaaaobgmejaaW.PrintWords Go.Proofs.YtbphaaaobgmejaaW.PrintLast Go.Proofs.YtbphaaaobgmejaaW.PrintMore
attribute [local go_sem] max2_int min2_int max_two min_two max_three min_three max_four min_four   -- for this text's walks alone
set_option linter.unusedVariables false
set_option linter.unusedSimpArgs false

/-! ### labels_Pop: function 20 -/
def labels_Pop.f (k : Nat) (l0 : List Int) : Option (Int × Int × List Int × Int) := (labels_Unpack.f k l0).bind fun b => (if b.2.2.2 = 0 then (if (b.1.length : Int) = 0 then (some (0, 0, ([] : List Int), 8)) else (if 4 ≤ l0.length then (if l0.length < 140737488355328 then some ((rd_T30 b.1 0).f0, (rd_T30 b.1 0).f1, l0.drop 4, 0) else none) else none)) else (some (0, 0, ([] : List Int), b.2.2.2)))
theorem labels_Pop.mono : ∀ a0 k, LeO (labels_Pop.f k a0) (labels_Pop.f (k + 1) a0) := by
  intro a0 k
  exact LeO.bind (labels_Unpack.mono a0 k) (fun _ => LeO.refl _)
set_option maxHeartbeats 4000000 in
set_option maxRecDepth 100000 in
theorem labels_Pop.calls (k : Nat) (A0 : Option Addr) (c0 : Nat) (l0 : List Int) (r1 : Int) (r2 : Int) (r3 : List Int) (r4 : Int) (w : World) (hr0 : Kd.C (Kd.int .u8) w A0 l0.length l0) (hc0 : l0.length ≤ c0) (h : labels_Pop.f k l0 = some (r1, r2, r3, r4)) :
    Calls Try.prog 20 #[.slice A0 l0.length c0] w fun e w' => ∃ v2_ : Value, e = .returned (.tuple #[.agg #[.int .i64 r1, .int .i64 r2], v2_, .int .i64 r4]) ∧ Kd.R (Kd.int .u8) 5 w' w.heap.size (fun _ => True) v2_ r3 ∧ Below w.heap.size w w' := by
  unfold labels_Pop.f at h
  obtain ⟨⟨t1, t2, t3, t4⟩, hu, hx⟩ := Option.bind_eq_some_iff.1 h
  clear h
  dsimp only at hx
  have HR := Aside0.mk hr0
  have HC := Aside0.mk hc0
  have HU := Aside0.mk hu
  clear hr0 hc0 hu
  by_cases g4 : t4 = 0
  case neg =>
    have b1 : (t4 != 0) = true := bne_iff_ne.2 g4
    rw [if_neg g4] at hx
    clear g4
    simp only [Option.some.injEq, Prod.mk.injEq] at hx
    obtain ⟨rfl, rfl, rfl, rfl⟩ := hx
    go_enter Try.func20, Try.ntmps20
    go_wp2_with (go_at_call 17; refine (labels_Unpack.calls k A0 c0 l0 t1 t2 t3 t4 _ (Kd.C_alloc HR.out _) HC.out HU.out).mono ?_; rintro e w1 ⟨v1, rfl, ho, hb⟩; have hz := hb.size; simp only [World.size_alloc] at hz; have bk := blk_below (blk_new w _) hb; have c0' := blk_cell bk 0; have c1' := blk_cell bk 1; have f0' := blk_frozen bk 0; have f1' := blk_frozen bk 1; have HB := Aside0.mk (((Below.refl w.heap.size w).alloc (Nat.le_refl _) (.cells #[.int .i64 0, .int .i64 0] 30)).trans (hb.mono (by simp))); have BK := Aside0.mk bk; have HO := Aside0.mk ho; clear ho hb bk)
    refine bodyPost_ret (results_ctt rfl _ _ w.heap.size 30 #[.int .i64 0, .int .i64 0] (0, 0) _ rfl (by refine blk_put (cs := #[.int .i64 0, .int .i64 0]) ?_ 1 _ rfl; refine blk_put (cs := #[.int .i64 0, .int .i64 0]) ?_ 0 _ rfl; exact BK.out) Try.underlying30 rfl (by kernel_rfl)) rfl ?_
    exact ⟨_, rfl, Kd.R_nil _ _ _ _ _, (HB.out.setCell (Nat.le_refl _) _).setCell (Nat.le_refl _) _⟩
  case pos =>
  subst g4
  rw [if_pos rfl] at hx
  by_cases g5 : (t1.length : Int) = 0
  case pos =>
    rw [if_pos g5] at hx
    have g6 : t1 = [] := List.eq_nil_of_length_eq_zero (by omega)
    subst g6
    clear g5
    simp only [Option.some.injEq, Prod.mk.injEq] at hx
    obtain ⟨rfl, rfl, rfl, rfl⟩ := hx
    go_enter Try.func20, Try.ntmps20
    go_wp2_with (go_at_call 17; refine (labels_Unpack.calls k A0 c0 l0 [] t2 t3 0 _ (Kd.C_alloc HR.out _) HC.out HU.out).mono ?_; rintro e w1 ⟨v1, rfl, ho, hb⟩; have hz := hb.size; simp only [World.size_alloc] at hz; have bk := blk_below (blk_new w _) hb; have c0' := blk_cell bk 0; have c1' := blk_cell bk 1; have f0' := blk_frozen bk 0; have f1' := blk_frozen bk 1; have HB := Aside0.mk (((Below.refl w.heap.size w).alloc (Nat.le_refl _) (.cells #[.int .i64 0, .int .i64 0] 30)).trans (hb.mono (by simp))); have BK := Aside0.mk bk; obtain ⟨Ao, co, eo⟩ := Kd.R_slice ho; subst eo; clear ho hb bk)
    refine bodyPost_ret (results_ctt rfl _ _ w.heap.size 30 #[.int .i64 0, .int .i64 0] (0, 0) _ rfl (by refine blk_put (cs := #[.int .i64 0, .int .i64 0]) ?_ 1 _ rfl; refine blk_put (cs := #[.int .i64 0, .int .i64 0]) ?_ 0 _ rfl; exact BK.out) Try.underlying30 rfl (by kernel_rfl)) rfl ?_
    exact ⟨_, rfl, Kd.R_nil _ _ _ _ _, (HB.out.setCell (Nat.le_refl _) _).setCell (Nat.le_refl _) _⟩
  case neg =>
  rw [if_neg g5] at hx
  by_cases g7 : 4 ≤ l0.length
  case neg => rw [if_neg g7] at hx; cases hx
  case pos =>
  rw [if_pos g7] at hx
  by_cases g8 : l0.length < 140737488355328
  case neg => rw [if_neg g8] at hx; cases hx
  case pos =>
  rw [if_pos g8] at hx
  have G8 := Aside0.mk g8
  clear g8
  simp only [Option.some.injEq, Prod.mk.injEq] at hx
  obtain ⟨rfl, rfl, rfl, rfl⟩ := hx
  obtain ⟨i0, hi0, _, hsz, _⟩ := info_parts info5
  obtain ⟨A1, hcut, hA1, hC1⟩ := print_drop_of (P := Try.prog) (Value.int .u8) 0 24 5 .i64 Try.underlying24 hi0 hsz A0 c0 l0 4 (by omega) (by omega) HC.out
  simp only [show ((4 : Int).toNat) = 4 from rfl] at hcut hC1 hA1
  have HA1 := Aside0.mk hA1
  clear hA1 hi0 hsz
  have g5b : ((t1.length : Int) == 0) = false := beq_eq_false_iff_ne.2 g5
  have g5p : (0 : Int) < (t1.length : Int) := by omega
  clear g5
  go_enter Try.func20, Try.ntmps20
  go_wp2_with (go_at_call 17; refine (labels_Unpack.calls k A0 c0 l0 t1 t2 t3 0 _ (Kd.C_alloc HR.out _) HC.out HU.out).mono ?_; rintro e w1 ⟨v1, rfl, ho, hb⟩; have hz := hb.size; simp only [World.size_alloc] at hz; have bk := blk_below (blk_new w _) hb; have HB := Aside0.mk (((Below.refl w.heap.size w).alloc (Nat.le_refl _) (.cells #[.int .i64 0, .int .i64 0] 30)).trans (hb.mono (by simp))); have BK := Aside0.mk bk; obtain ⟨Ao, co, eo, hlc, hC⟩ := Kd.R_reads ho; subst eo; have HO := Aside0.mk hC; have HW := Aside0.mk (Kd.R_own ho); clear ho hb bk hC)
  have hh := at_T30 HO.out 0 (by omega) g5p
  simp only [show ((0 : Int).toNat) = 0 from rfl, Nat.zero_mul] at hh
  obtain ⟨ad, rfl, hx0, hx1⟩ := hh
  rw [show ad.add 0 = ad from by simp [Addr.add]] at hx0 hx1
  have hlt := World.block_lt_of_cell? _ _ hx0
  have g5n : 0 < t1.length := by omega
  have hne : w.heap.size < ad.block := by
    obtain ⟨inner, hown⟩ := HW.out
    have h9 := own_base hown ad.block (by simp [Value.ownBlock])
    simp only [World.size_alloc] at h9
    omega
  have hneB : ad.block ≠ w.heap.size := by omega
  have hsz2 : w.heap.size ≤ w1.heap.size := by omega
  have F1 : Aside0 (Kd.R (Kd.int .u8) 5 (w1.alloc (.cells #[] 5)).drew w.heap.size (fun _ => True) (.slice (some ⟨w1.heap.size, 0, none⟩) 0 0) []) := ⟨fun _ _ => trivial, [], (World.ownsRow_lit (base := w.heap.size) (e := 5) (size := 1) w1 #[] 0 hsz2 (by simp [maxLen]) (by simp) : _), Reps.none _ _⟩
  have F3 : Aside0 (Below w.heap.size w (w1.alloc (.cells #[] 5)).drew) := ⟨below_drew1 (HB.out.alloc hsz2 _)⟩
  have F2 : Aside0 (ReadsRow ((Kd.int .u8).M (w1.alloc (.cells #[] 5)).drew w.heap.size (fun _ => False)) (Kd.int .u8).sz (w1.alloc (.cells #[] 5)).drew A1 (l0.length - 4) (l0.drop 4)) := by
    have h2 := Kd.C_of_reads (h1 := fun _ => rfl) (HA1.out _ (Kd.reads_of_C (Kd.C_below HR.out F3.out)))
    rw [List.length_drop] at h2
    exact ⟨h2⟩
  have F4 : Aside0 (w.heap.size ≤ (w1.alloc (.cells #[] 5)).drew.heap.size) := ⟨Nat.le_trans hsz2 (by simp [World.drew])⟩
  have F5 : Aside0 ((([] : List Int).length + (l0.length - 4)) * 1 ≤ 140737488355328) := ⟨by have := G8.out; simp; omega⟩
  have F6 : Aside0 ((w1.alloc (.cells #[] 5)).drew.heap[w.heap.size]? = some (.cells #[.int .i64 0, .int .i64 0] 30 (0, 0))) := ⟨blk_alloc BK.out _⟩
  have F7 : Aside0 ((w1.alloc (.cells #[] 5)).drew.cell? ad = some (.int .i64 (rd_T30 t1 0).f0)) := ⟨(World.cell?_alloc_lt w1 _ _ hlt).trans hx0⟩
  have F8 : Aside0 ((w1.alloc (.cells #[] 5)).drew.cell? ⟨ad.block, ad.off + 1, none⟩ = some (.int .i64 (rd_T30 t1 0).f1)) := ⟨(World.cell?_alloc_lt w1 _ ⟨ad.block, ad.off + 1, none⟩ hlt).trans hx1⟩
  have F9 : Aside0 (ad.block < (w1.alloc (.cells #[] 5)).drew.heap.size) := ⟨Nat.lt_of_lt_of_le hlt (by simp [World.drew])⟩
  have F10 : Aside0 (w.heap.size < (w1.alloc (.cells #[] 5)).drew.heap.size) := ⟨by simp [World.drew]; omega⟩
  go_region_held3 (fun w' => w'.cell? ad = some (.int .i64 (rd_T30 t1 0).f0) ∧ w'.cell? ⟨ad.block, ad.off + 1, none⟩ = some (.int .i64 (rd_T30 t1 0).f1)) (first | go_keep | exact ⟨G7.out, G8'.out⟩ | exact ⟨(World.cell?_setCell_other _ _ _ _ (fun e => hneB (congrArg Addr.block e).symm)).trans ((World.cell?_setCell_other _ _ _ _ (fun e => hneB (congrArg Addr.block e).symm)).trans G7.out), (World.cell?_setCell_other _ _ _ _ (fun e => hneB (congrArg Addr.block e).symm)).trans ((World.cell?_setCell_other _ _ _ _ (fun e => hneB (congrArg Addr.block e).symm)).trans G8'.out)⟩) (first | (refine Kd.R_append_rows_step (Kd.int .u8) (w0 := w) w.heap.size (by rfl) (.tmp 29) (.tmp 31) 24 5 (.int .u8 0) 1 (by rfl) Try.underlying24 info5 rfl (by decide) (by omega) _ [] (l0.drop 4) _ _ _ (fun _ => True) (fun _ => False) (by rfl) (by rfl) F1.out F2.out (fun _ _ h => h) (fun _ h => h.elim) (fun _ _ => trivial) F3.out F4.out F5.out ?_; intro v2 w2 hv hb2 hg2 hat2; have bk2 := (hg2.block w.heap.size F10.out (by simp [Value.ownBlock]; omega)).trans F6.out; have c0' := blk_cell bk2 0; have c1' := blk_cell bk2 1; have f0' := blk_frozen bk2 0; have f1' := blk_frozen bk2 1; have BK2 := Aside0.mk bk2; have G7 := Aside0.mk ((hg2.cell_far ad F9.out (by simp [Value.ownBlock]; omega)).trans F7.out); have G8' := Aside0.mk ((hg2.cell_far ⟨ad.block, ad.off + 1, none⟩ F9.out (by simp [Value.ownBlock]; omega)).trans F8.out); have HV := Aside0.mk hv; have HB2 := Aside0.mk hb2; clear hv hb2 bk2 hat2))
  go_wp2
  refine bodyPost_ret (results_ctt rfl _ _ w.heap.size 30 #[.int .i64 (rd_T30 t1 0).f0, .int .i64 (rd_T30 t1 0).f1] (0, 0) _ rfl (by refine blk_put (cs := #[.int .i64 (rd_T30 t1 0).f0, .int .i64 0]) ?_ 1 _ rfl; refine blk_put (cs := #[.int .i64 0, .int .i64 0]) ?_ 0 _ rfl; exact BK2.out) Try.underlying30 rfl (by kernel_rfl)) rfl ?_
  refine ⟨_, rfl, ?_, (HB2.out.setCell (Nat.le_refl _) _).setCell (Nat.le_refl _) _⟩
  have hv := HV.out
  rw [List.nil_append] at hv
  have ht : ∀ q, q ∈ (5 : Nat) :: (Kd.int .u8).E → q ≠ 30 := by
    intro q hq
    simp only [Kd.int, Kd.scalar, List.mem_singleton] at hq
    omega
  exact Kd.R_set (Kd.R_set hv BK2.out ht 0 _) (blk_put (cs := #[.int .i64 0, .int .i64 0]) BK2.out 0 _ rfl) ht 1 _

end Go.Proofs.Ytbphaaaobgmejaa.PT19

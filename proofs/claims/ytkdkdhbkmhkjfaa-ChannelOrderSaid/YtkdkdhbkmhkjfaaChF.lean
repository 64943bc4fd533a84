/- The helpers of the laws: fates, large, steps, SameInts. -/
import Derived.Test.YtkdkdhbkmhkjfaaChA
import Derived.Test.YtkdkdhbkmhkjfaaPT5210
import Derived.Test.YtkdkdhbkmhkjfaaPT5212
import Derived.Test.YtkdkdhbkmhkjfaaPT5213
import Derived.Test.YtkdkdhbkmhkjfaaPT523
import Derived.Maps.AppendAt
namespace Go.Proofs.Ytkdkdhbkmhkjfaa.Ch
open Go.RowKit Go.Proofs.YtkdkdhbkmhkjfaaW.PrintWords Go.Proofs.YtkdkdhbkmhkjfaaW.PrintLast Go.Proofs.Ytkdkdhbkmhkjfaa.Sep Go.Proofs.Ytkdkdhbkmhkjfaa.ChP Go.Proofs.Ytkdkdhbkmhkjfaa.PT52
set_option linter.unusedVariables false
set_option linter.unusedSimpArgs false

theorem infoFate : (Try.prog.info? 50).map (fun i => (i.zero, i.size, i.bytes)) = some (some (.agg #[.int .i64 0, .int .i64 0]), 2, 16) := by kernel_rfl
theorem infoRFate : (Try.prog.info? 40).map (fun i => (i.zero, i.size, i.bytes)) = some (some (.agg #[.int .i64 0, .int .i64 0]), 2, 16) := by kernel_rfl
theorem infoInt : (Try.prog.info? 3).map (fun i => (i.zero, i.size, i.bytes)) = some (some (.int .i64 0), 1, 8) := by kernel_rfl
def f40 (x : S40) : Ft := ⟨x.f0, x.f1⟩
theorem ftc_append (l m : List Ft) : ftc (l ++ m) = ftc l ++ ftc m := by simp [ftc]
theorem OwnF.more {e : TypeId} {w1 : World} {v1 : Value} {l : List Ft} {x : Ft} {b : Nat} (hown : w1.ownsRow b e 2 v1 (l.length + 1) (ftc l ++ [.int .i64 x.kind, .int .i64 x.n])) : w1.ownsRow b e 2 v1 (l ++ [x]).length (ftc (l ++ [x])) := by
  rw [List.length_append, ftc_append]
  exact hown
set_option maxHeartbeats 4000000 in
set_option maxRecDepth 100000 in
theorem fates_calls (A : Option Addr) (c : Nat) (l : List S40) (w : World) (hr : Kd.C k40 w A l.length l) (hl : l.length ≤ 100000) :
    Calls Try.prog 14 #[.slice A l.length c] w fun e w' => ∃ v, e = .returned v ∧ w'.ownsRow w.heap.size 50 2 v (l.map f40).length (ftc (l.map f40)) ∧ Below w.heap.size w w' := by
  have HR := Aside0.mk hr
  obtain ⟨N, hN⟩ : ∃ N, l.length = N := ⟨_, rfl⟩
  have HN := Aside0.mk (And.intro hN hl)
  rw [hN]
  have b1 : (N : Int) ≤ 100000 := by omega
  clear hr hl hN
  obtain ⟨i0, hi0, hzz⟩ := Option.map_eq_some_iff.1 infoFate
  simp only [Prod.mk.injEq] at hzz
  obtain ⟨hz0, hz1, hz2⟩ := hzz
  have HZ := Aside0.mk (And.intro hi0 (And.intro hz0 (And.intro hz1 hz2)))
  clear hi0 hz0 hz1 hz2
  go_enter Try.func14, Try.ntmps14
  go_wp2
  go_loopg [3, 8] N (fun g v3 v8 wr => ∃ i : Nat, v8 = .int .i64 (i : Int) ∧ N - i ≤ g ∧ i ≤ N ∧ Aside0 (wr.ownsRow w.heap.size 50 2 v3 ((l.take i).map f40).length (ftc ((l.take i).map f40)) ∧ Below w.heap.size w wr))
  case atStart => exact ⟨0, rfl, by omega, by omega, ⟨⟨rfl, .inl ⟨rfl, rfl⟩⟩, Below.refl _ _⟩⟩
  case round =>
    obtain ⟨i, rfl, hg, hi, R⟩ := hrel
    by_cases hlt : i < N
    · obtain ⟨ad, rfl, hx0, hx1⟩ := at_T40 HR.out (i : Int) (by omega) (by have := HN.out; omega)
      replace hx0 := (R.out.2.cell (World.block_lt_of_cell? w _ hx0)).trans hx0
      replace hx1 := (R.out.2.cell (World.block_lt_of_cell? w _ hx1)).trans hx1
      rw [Int.toNat_natCast] at hx0 hx1
      obtain ⟨x, hx⟩ : ∃ x, rd_T40 l (i : Int) = x := ⟨_, rfl⟩
      rw [hx] at hx0 hx1
      have hsucc : (l.take (i + 1)).map f40 = (l.take i).map f40 ++ [f40 x] := by
        have hil : i < l.length := by have := HN.out; omega
        rw [List.take_succ_eq_append_getElem hil, List.map_append, ← hx]
        simp [rd_T40, List.getD_eq_getElem?_getD, List.getElem?_eq_getElem hil]
      have HS := Aside0.mk hsucc
      have HLn := Aside0.mk (show ((l.take i).map f40).length = i from by rw [List.length_map, List.length_take]; have := HN.out; omega)
      have GG := Aside0.mk (And.intro hg (And.intro hi hlt))
      have d1 : (i : Int) < (N : Int) := by omega
      clear hg hi hlt hx hsucc
      obtain ⟨A3, c3, rfl⟩ := own_slice R.out.1
      obtain ⟨B, hB⟩ : ∃ B, wr.alloc (.cells #[.int .i64 x.f0, .int .i64 x.f1] 40) = B := ⟨_, rfl⟩
      have HB := Aside0.mk hB
      have K0 : Aside0 (B.ownsRow w.heap.size 50 2 (.slice A3 ((l.take i).map f40).length c3) ((l.take i).map f40).length (ftc ((l.take i).map f40)) ∧ Below w.heap.size w B) := ⟨by rw [← hB]; exact R.out.1.alloc _, by rw [← hB]; exact R.out.2.alloc R.out.2.size _⟩
      clear hB
      go_upto_region 5 with (fail)
      rw [HB.out]
      have bk : B.heap[wr.heap.size]? = some (.cells #[.int .i64 x.f0, .int .i64 x.f1] 40 (0, 0)) := by rw [← HB.out]; exact heap_alloc_new wr _
      have c0 := blk_at bk 0 _ rfl
      have c1 := blk_at bk 1 _ rfl
      clear bk hx0 hx1
      go_wp2_with (at_builtin; refine wpList_append_own_at _ rfl (.tmp 12) (.tmp 14) 37 rfl w.heap.size 50 i0 (.agg #[.int .i64 0, .int .i64 0]) 2 16 Try.underlying37 HZ.out.1 HZ.out.2.1 HZ.out.2.2.1 HZ.out.2.2.2 rfl (by decide) _ _ _ (by simp [Act.eval]) (K0.out.1.alloc _) ⟨B.heap.size, 0, none⟩ 1 1 [.int .i64 x.f0, .int .i64 x.f1] (by simp [Act.eval]) rfl (World.news_of_block (heap_alloc_new B _)) (by intro u hu; simp only [List.mem_cons, List.not_mem_nil, or_false] at hu; rcases hu with rfl | rfl <;> rfl) (by have := HLn.out; have := GG.out; have := HN.out; simp only [maxLen]; omega) (by have := HLn.out; have := GG.out; have := HN.out; omega) (by have := K0.out.2.size; simp; omega) ?_; intro v1 w6 hown hg _ hat; have O6 := Aside0.mk hown; have B6 := Aside0.mk ((K0.out.2.alloc K0.out.2.size (.cells #[.int .i64 x.f0, .int .i64 x.f1] 50)).grown hg (by have := K0.out.2.size; simp; omega) (own_base (K0.out.1))); clear hown hg hat)
      go_roundg (N - (i + 1))
      case measure => have := GG.out; omega
      case rel =>
        refine ⟨i + 1, by go_num, by omega, by have := GG.out; omega, ⟨?_, B6.out⟩⟩
        rw [HS.out]
        exact OwnF.more O6.out
    · obtain rfl : i = N := by omega
      have e : l.take i = l := List.take_of_length_le (by have := HN.out; omega)
      have HE := Aside0.mk e
      clear e hg hi hlt
      go_wp2
      go_ret
      refine ⟨_, rfl, ?_, R.out.2⟩
      have := R.out.1
      rw [HE.out] at this
      exact this
end Go.Proofs.Ytkdkdhbkmhkjfaa.Ch

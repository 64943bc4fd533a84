/- The row of the law ChannelOrder, out of its printed contract and its pure statement. Written by myrow.py, a program of mine; Lean checks every row. -/
import Derived.Test.YtkdkdhbkmhkjfaaRows
import Derived.Test.YtkdkdhbkmhkjfaaLwChannelOrder
import Derived.Test.YtkdkdhbkmhkjfaaPureChannelOrder
import Derived.Test.YtkdkdhbkmhkjfaaOpen
import Derived.WalkKit
import Derived.ProofKit
import Derived.OpenShut
import Derived.ShutString
import Derived.ChangeOld
import Derived.Below
import Derived.SizedLaws
namespace Go.Proofs.Ytkdkdhbkmhkjfaa.channelOrder
open Go.ChangeShapes Go.WideShapes Go.ChangeAt Go.RowKit Go.Proofs.Ytkdkdhbkmhkjfaa.Ch Go.Proofs.Ytkdkdhbkmhkjfaa.PT52 Go.Proofs.YtkdkdhbkmhkjfaaW.PrintWords
open Go.ChangeMaps (open_string shut_string)
set_option linter.unusedVariables false
theorem own : ownKnob Try.prog.godebug = none := by kernel_rfl
theorem laidOut : laidOutB Try.prog = true := by kernel_rfl
set_option maxRecDepth 100000 in
theorem lifted (os : Os) (started : os.Started) (H : Type) (enc : TypeId × Value → H) :
    ReturnsInHanded {} Try.checked os 3 .any (Rows.channelOrderSpec.pre6 enc Try.prog Try.f3 Rows.channelOrderRow.domain false) (Rows.channelOrderSpec.post enc Try.prog Try.f3 false true false false) := by
  refine returnsInHanded_of_change_sized (C := Try.checked) own started (by kernel_rfl) Try.func3
    (ChangeSpec.witness6 (enc := enc) (C := Try.checked) false ⟨#[], #[.agg #[.int .i64 0, .int .i64 0, .int .i64 0, .slice none 0 0, .slice none 0 0], .slice none 0 0], []⟩ 8 (by kernel_rfl) (by kernel_rfl) (by kernel_rfl) (by kernel_rfl)) ?_
  intro W base args ds gs before hval0 hW hcnd hsz0 _
  have hsz : (DataW.weightsEach Try.prog (Try.f3.params.toList ++ Rows.channelOrderSpec.plain.varTypes Try.prog) (ds ++ gs)).all (· ≤ reachBytes) = true := hsz0
  have hval : ∀ (j : Nat) t v, Try.f3.params[j]? = some t → args[j]? = some v → Value.okWide Try.prog W .any base t v := hval0
  have hW' := hW
  obtain ⟨p, q, hA0, hV, rfl, hfz, hnd⟩ := hW
  have hA : DataW.TrodAll enc Try.prog W 0 (fun _ => true) true Try.f3.params.toList args.toList ds p := hA0
  rw [Try.params3] at hA hval hsz
  obtain ⟨v0, vs0, d0, ds0, p0, q0, hargs, rfl, rfl, h0, r0⟩ := trodAll_cons hA
  obtain ⟨v1, vs1, d1, ds1, p1, q1, rfl, rfl, rfl, h1, r1⟩ := trodAll_cons r0
  obtain ⟨rfl, rfl, rfl⟩ := trodAll_nil r1
  obtain rfl : args = #[v0, v1] := by cases args; simp_all
  obtain ⟨rfl, rfl⟩ := trodVars_none hV
  have k0 := h0
  have lt0 : ∀ x ∈ p0, x.block < W.heap.size := by obtain ⟨m, hm⟩ := k0; exact DataW.trod_lt m _ _ _ hm
  have L0 : Light Try.prog 25 d0 := light_of hsz (j := 0) (t := 25) rfl rfl
  obtain ⟨cs0, rfl, z0⟩ := okWide_struct Try.underlying25 (hval 0 25 v0 rfl rfl)
  obtain ⟨fuel0, f0⟩ := h0
  obtain ⟨x0, K0, g0⟩ := (opens_struct (P := Try.prog) (t := 25) Try.underlying25 (by kernel_rfl) (opensL_cons (opens_int (P := Try.prog) (t := 3) Try.underlying3) (opensL_cons (opens_int (P := Try.prog) (t := 3) Try.underlying3) (opensL_cons (opens_int (P := Try.prog) (t := 3) Try.underlying3) (opensL_cons (opens_slice (P := Try.prog) (t := 22) (e := 40) (B := 16) Try.underlying22 (by kernel_rfl) (by kernel_rfl) (opens_iso (fun x : S40 => (x.f0, x.f1)) (fun p => ⟨p.1, p.2⟩) (fun _ => rfl) (opens_struct (P := Try.prog) (t := 40) Try.underlying40 (by kernel_rfl) (opensL_cons (opens_int (P := Try.prog) (t := 3) Try.underlying3) (opensL_one (opens_int (P := Try.prog) (t := 3) Try.underlying3)))))) (opensL_one (opens_slice (P := Try.prog) (t := 23) (e := 3) (B := 8) Try.underlying23 (by kernel_rfl) (by kernel_rfl) (opens_int (P := Try.prog) (t := 3) Try.underlying3)))))))) H enc W _ _ _ _ _ _ f0 L0
  obtain ⟨c_0_0, r_0_0, hcc_0_0, hh_0_0, K_0_0⟩ := K0
  obtain ⟨c_0_1, r_0_1, hcc_0_1, hh_0_1, K_0_1⟩ := K_0_0
  obtain ⟨c_0_2, r_0_2, hcc_0_2, hh_0_2, K_0_2⟩ := K_0_1
  obtain ⟨c_0_3, r_0_3, hcc_0_3, hh_0_3, K_0_3⟩ := K_0_2
  obtain ⟨A0_3, c0_3, hh_0_3, hc0_3, hr0_3⟩ := hh_0_3
  obtain ⟨A0_4, c0_4, hh_0_4, hc0_4, hr0_4⟩ := K_0_3
  have e0 : (Value.agg cs0).cells.toList = [.int .i64 x0.1, .int .i64 x0.2.1, .int .i64 x0.2.2.1, .slice A0_3 x0.2.2.2.1.length c0_3, .slice A0_4 x0.2.2.2.2.length c0_4] := by
    rw [hcc_0_0]
    rw [show c_0_0 = [.int .i64 x0.1] from hh_0_0]
    rw [hcc_0_1]
    rw [show c_0_1 = [.int .i64 x0.2.1] from hh_0_1]
    rw [hcc_0_2]
    rw [show c_0_2 = [.int .i64 x0.2.2.1] from hh_0_2]
    rw [hcc_0_3]
    rw [show c_0_3 = [.slice A0_3 x0.2.2.2.1.length c0_3] from hh_0_3]
    rw [show r_0_3 = [.slice A0_4 x0.2.2.2.2.length c0_4] from hh_0_4]
    rfl
  obtain rfl : cs0 = #[.int .i64 x0.1, .int .i64 x0.2.1, .int .i64 x0.2.2.1, .slice A0_3 x0.2.2.2.1.length c0_3, .slice A0_4 x0.2.2.2.2.length c0_4] := by simpa [Value.cells] using agg_of e0
  have k1 := h1
  have lt1 : ∀ x ∈ p1, x.block < W.heap.size := by obtain ⟨m, hm⟩ := k1; exact DataW.trod_lt m _ _ _ hm
  have L1 : Light Try.prog 26 d1 := light_of hsz (j := 1) (t := 26) rfl rfl
  obtain ⟨A1, len1, c1, rfl⟩ := okWide_slice Try.underlying26 (hval 1 26 v1 rfl rfl)
  obtain ⟨fuel1, f1⟩ := h1
  obtain ⟨l1, ⟨A1', c1', e1, hc1, hr1⟩, g1⟩ := (opens_slice (P := Try.prog) (t := 26) (e := 5) (B := 1) Try.underlying26 (by kernel_rfl) (by kernel_rfl) (opens_int (P := Try.prog) (t := 5) Try.underlying5)) H enc W _ _ _ _ _ _ f1 L1
  obtain ⟨rfl, rfl, rfl⟩ : A1 = A1' ∧ len1 = l1.length ∧ c1 = c1' := by simpa [Value.cells] using e1
  clear hA0 hval0 hsz0 hsz
  have pure : waypointlaw52_ChannelOrder.f x0.1 x0.2.1 x0.2.2.1 x0.2.2.2.1 x0.2.2.2.2 l1 = some true := Pure.ChannelOrder x0.1 x0.2.1 x0.2.2.1 x0.2.2.2.1 x0.2.2.2.2 l1 g0.1 g0.2.1 g0.2.2.1 g0.2.2.2.1 g0.2.2.2.2 g1
  refine (waypointlaw52_ChannelOrder.calls _ _ _ _ _ _ _ _ _ A1 c1 l1 true W hr0_3 hc0_3 hr0_4 hc0_4 hr1 hc1 pure).mono fun e W' he => ?_
  have bel : Below W.heap.size W W' := by first | exact he.2 | exact below_of_drawn0 he.2
  obtain rfl := he.1
  exact ⟨_, rfl, _, _, _, [], _, [], hW', trodAll_mk1 (shut_bool Try.underlying4 _), (trodAll_cons_mk (Below.trod laidOut (by kernel_rfl) (of_decide_eq_true (by kernel_rfl)) k0 bel lt0) (trodAll_cons_mk (Below.trod laidOut (by kernel_rfl) (of_decide_eq_true (by kernel_rfl)) k1 bel lt1) trodAll_mk0)), rfl, bel.frame _, fun h => by cases h⟩
theorem over : Rows.channelOrderRow.holds Try.pinned (OpenSpec.ofChange Rows.channelOrderSpec) :=
  OpenClaim.holds_of_wide 3 Try.f3 rfl rfl rfl rfl rfl rfl rfl ⟨rfl, rfl, rfl, rfl, rfl⟩ rfl rfl rfl rfl rfl (by kernel_rfl) Try.func3 (by kernel_rfl)
    (of_decide_eq_true (by kernel_rfl)) (by unfold Func.isWrapper; first | (rw [if_pos (by decide +kernel)]; kernel_rfl) | (rw [if_neg (by decide +kernel)]; exact ⟨rfl, rfl⟩))
    (fun os started H enc _ => lifted os started H enc)
theorem proved : Rows.ChannelOrderSaid := over
#print axioms proved
end Go.Proofs.Ytkdkdhbkmhkjfaa.channelOrder
namespace Go.Proofs.Ytkdkdhbkmhkjfaa
/-- The row, under a short name, for the claim. -/
theorem channelOrder_holds : Rows.ChannelOrderSaid := channelOrder.proved
end Go.Proofs.Ytkdkdhbkmhkjfaa

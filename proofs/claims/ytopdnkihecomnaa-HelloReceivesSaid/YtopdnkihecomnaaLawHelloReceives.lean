/- The row of the law HelloReceives, out of its printed contract and its pure statement. Written by myrow.py, a program of mine; Lean checks every row. -/
import Derived.Test.YtopdnkihecomnaaRows
import Derived.Test.YtopdnkihecomnaaPT3411
import Derived.Test.YtopdnkihecomnaaPureHelloReceives
import Derived.Test.YtopdnkihecomnaaOpen
import Derived.WalkKit
import Derived.ProofKit
import Derived.OpenShut
import Derived.ShutString
import Derived.ChangeOld
import Derived.Below
import Derived.SizedLaws
namespace Go.Proofs.Ytopdnkihecomnaa.helloReceives
open Go.ChangeShapes Go.WideShapes Go.ChangeAt Go.RowKit Go.Proofs.Ytopdnkihecomnaa.PT34 Go.Proofs.YtopdnkihecomnaaW.PrintWords
open Go.ChangeMaps (open_string shut_string)
set_option linter.unusedVariables false
theorem own : ownKnob Try.prog.godebug = none := by kernel_rfl
theorem laidOut : laidOutB Try.prog = true := by kernel_rfl
set_option maxRecDepth 100000 in
theorem lifted (os : Os) (started : os.Started) (H : Type) (enc : TypeId × Value → H) :
    ReturnsInHanded {} Try.checked os 3 .any (Rows.helloReceivesSpec.pre6 enc Try.prog Try.f3 Rows.helloReceivesRow.domain false) (Rows.helloReceivesSpec.post enc Try.prog Try.f3 false true false false) := by
  refine returnsInHanded_of_change_sized (C := Try.checked) own started (by kernel_rfl) Try.func3
    (ChangeSpec.witness6 (enc := enc) (C := Try.checked) false ⟨#[], #[.agg #[.int .i64 0, .int .i64 0], .bool false, .int .i64 0], []⟩ 8 (by kernel_rfl) (by kernel_rfl) (by kernel_rfl) (by kernel_rfl)) ?_
  intro W base args ds gs before hval0 hW hcnd hsz0 _
  have hsz : (DataW.weightsEach Try.prog (Try.f3.params.toList ++ Rows.helloReceivesSpec.plain.varTypes Try.prog) (ds ++ gs)).all (· ≤ reachBytes) = true := hsz0
  have hval : ∀ (j : Nat) t v, Try.f3.params[j]? = some t → args[j]? = some v → Value.okWide Try.prog W .any base t v := hval0
  have hW' := hW
  obtain ⟨p, q, hA0, hV, rfl, hfz, hnd⟩ := hW
  have hA : DataW.TrodAll enc Try.prog W 0 (fun _ => true) true Try.f3.params.toList args.toList ds p := hA0
  rw [Try.params3] at hA hval hsz
  obtain ⟨v0, vs0, d0, ds0, p0, q0, hargs, rfl, rfl, h0, r0⟩ := trodAll_cons hA
  obtain ⟨v1, vs1, d1, ds1, p1, q1, rfl, rfl, rfl, h1, r1⟩ := trodAll_cons r0
  obtain ⟨v2, vs2, d2, ds2, p2, q2, rfl, rfl, rfl, h2, r2⟩ := trodAll_cons r1
  obtain ⟨rfl, rfl, rfl⟩ := trodAll_nil r2
  obtain rfl : args = #[v0, v1, v2] := by cases args; simp_all
  obtain ⟨rfl, rfl⟩ := trodVars_none hV
  have k0 := h0
  have lt0 : ∀ x ∈ p0, x.block < W.heap.size := by obtain ⟨m, hm⟩ := k0; exact DataW.trod_lt m _ _ _ hm
  have L0 : Light Try.prog 23 d0 := light_of hsz (j := 0) (t := 23) rfl rfl
  obtain ⟨cs0, rfl, z0⟩ := okWide_struct Try.underlying23 (hval 0 23 v0 rfl rfl)
  obtain ⟨fuel0, f0⟩ := h0
  obtain ⟨x0, K0, g0⟩ := (opens_struct (P := Try.prog) (t := 23) Try.underlying23 (by kernel_rfl) (opensL_cons (opens_int (P := Try.prog) (t := 3) Try.underlying3) (opensL_one (opens_int (P := Try.prog) (t := 3) Try.underlying3)))) H enc W _ _ _ _ _ _ f0 L0
  have e0 : (Value.agg cs0).cells.toList = [.int .i64 x0.1, .int .i64 x0.2] := by
    have K_ := K0
    obtain ⟨c_0, r_0, hcc_0, hh_0, K_0⟩ := K_
    rw [hcc_0]
    rw [show c_0 = [.int .i64 x0.1] from hh_0]
    rw [show r_0 = [.int .i64 x0.2] from K_0]
    rfl
  obtain rfl : cs0 = #[.int .i64 x0.1, .int .i64 x0.2] := by simpa [Value.cells] using agg_of e0
  obtain ⟨a1, rfl, rfl, rfl⟩ := open_bool Try.underlying4 (hval 1 4 v1 rfl rfl) h1
  obtain ⟨a2, rfl, rfl, rfl, w2⟩ := open_int Try.underlying3 (hval 2 3 v2 rfl rfl) h2
  clear hA0 hval0 hsz0 hsz
  obtain ⟨kk, pure⟩ : ∃ k, waypointlaw34_HelloReceives.f k x0.1 x0.2 a1 a2 = some true := Pure.HelloReceives x0.1 x0.2 a1 a2 g0.1 g0.2 w2
  refine (waypointlaw34_HelloReceives.calls kk _ _ a1 a2 true W  pure).mono fun e W' he => ?_
  have bel : Below W.heap.size W W' := by first | exact he.2 | exact below_of_drawn0 he.2
  obtain rfl := he.1
  exact ⟨_, rfl, _, _, _, [], _, [], hW', trodAll_mk1 (shut_bool Try.underlying4 _), (trodAll_cons_mk (Below.trod laidOut (by kernel_rfl) (of_decide_eq_true (by kernel_rfl)) k0 bel lt0) (trodAll_cons_mk (shut_bool Try.underlying4 _) (trodAll_cons_mk (shut_int Try.underlying3 w2) trodAll_mk0))), rfl, bel.frame _, fun h => by cases h⟩
theorem over : Rows.helloReceivesRow.holds Try.pinned (OpenSpec.ofChange Rows.helloReceivesSpec) :=
  OpenClaim.holds_of_wide 3 Try.f3 rfl rfl rfl rfl rfl rfl rfl ⟨rfl, rfl, rfl, rfl, rfl⟩ rfl rfl rfl rfl rfl (by kernel_rfl) Try.func3 (by kernel_rfl)
    (of_decide_eq_true (by kernel_rfl)) (by unfold Func.isWrapper; first | (rw [if_pos (by decide +kernel)]; kernel_rfl) | (rw [if_neg (by decide +kernel)]; exact ⟨rfl, rfl⟩))
    (fun os started H enc _ => lifted os started H enc)
theorem proved : Rows.HelloReceivesSaid := over
#print axioms proved
end Go.Proofs.Ytopdnkihecomnaa.helloReceives
namespace Go.Proofs.Ytopdnkihecomnaa
/-- The row, under a short name, for the claim. -/
theorem helloReceives_holds : Rows.HelloReceivesSaid := helloReceives.proved
end Go.Proofs.Ytopdnkihecomnaa

/- The row of the law FletcherChanged, out of its printed contract and its pure statement. Written by myrow.py, a program of mine; Lean checks every row. -/
import Derived.Test.YtandnmkllijnhaaRows
import Derived.Test.YtandnmkllijnhaaPT082
import Derived.Test.YtandnmkllijnhaaPureFletcherChanged
import Derived.Test.YtandnmkllijnhaaOpen
import Derived.WalkKit
import Derived.ProofKit
import Derived.OpenShut
import Derived.ShutString
import Derived.ChangeOld
import Derived.Below
import Derived.SizedLaws
namespace Go.Proofs.Ytandnmkllijnhaa.fletcherChanged
open Go.ChangeShapes Go.WideShapes Go.ChangeAt Go.RowKit Go.Proofs.Ytandnmkllijnhaa.PT08 Go.Proofs.YtandnmkllijnhaaW.PrintWords
open Go.ChangeMaps (open_string shut_string)
set_option linter.unusedVariables false
theorem own : ownKnob Try.prog.godebug = none := by kernel_rfl
theorem laidOut : laidOutB Try.prog = true := by kernel_rfl
set_option maxRecDepth 100000 in
theorem lifted (os : Os) (started : os.Started) (H : Type) (enc : TypeId × Value → H) :
    ReturnsInHanded {} Try.checked os 5 .any (Rows.fletcherChangedSpec.pre6 enc Try.prog Try.f5 Rows.fletcherChangedRow.domain false) (Rows.fletcherChangedSpec.post enc Try.prog Try.f5 false true false false) := by
  refine returnsInHanded_of_change_sized (C := Try.checked) own started (by kernel_rfl) Try.func5
    (ChangeSpec.witness6 (enc := enc) (C := Try.checked) false ⟨#[], #[.slice none 0 0, .agg #[.int .u16 0, .int .u16 0], .int .u8 0], []⟩ 8 (by kernel_rfl) (by kernel_rfl) (by kernel_rfl) (by kernel_rfl)) ?_
  intro W base args ds gs before hval0 hW hcnd hsz0 _
  have hsz : (DataW.weightsEach Try.prog (Try.f5.params.toList ++ Rows.fletcherChangedSpec.plain.varTypes Try.prog) (ds ++ gs)).all (· ≤ reachBytes) = true := hsz0
  have hval : ∀ (j : Nat) t v, Try.f5.params[j]? = some t → args[j]? = some v → Value.okWide Try.prog W .any base t v := hval0
  have hW' := hW
  obtain ⟨p, q, hA0, hV, rfl, hfz, hnd⟩ := hW
  have hA : DataW.TrodAll enc Try.prog W 0 (fun _ => true) true Try.f5.params.toList args.toList ds p := hA0
  rw [Try.params5] at hA hval hsz
  obtain ⟨v0, vs0, d0, ds0, p0, q0, hargs, rfl, rfl, h0, r0⟩ := trodAll_cons hA
  obtain ⟨v1, vs1, d1, ds1, p1, q1, rfl, rfl, rfl, h1, r1⟩ := trodAll_cons r0
  obtain ⟨v2, vs2, d2, ds2, p2, q2, rfl, rfl, rfl, h2, r2⟩ := trodAll_cons r1
  obtain ⟨rfl, rfl, rfl⟩ := trodAll_nil r2
  obtain rfl : args = #[v0, v1, v2] := by cases args; simp_all
  obtain ⟨rfl, rfl⟩ := trodVars_none hV
  have k0 := h0
  have lt0 : ∀ x ∈ p0, x.block < W.heap.size := by obtain ⟨m, hm⟩ := k0; exact DataW.trod_lt m _ _ _ hm
  have L0 : Light Try.prog 22 d0 := light_of hsz (j := 0) (t := 22) rfl rfl
  obtain ⟨A0, len0, c0, rfl⟩ := okWide_slice Try.underlying22 (hval 0 22 v0 rfl rfl)
  obtain ⟨fuel0, f0⟩ := h0
  obtain ⟨l0, ⟨A0', c0', e0, hc0, hr0⟩, g0⟩ := (opens_slice (P := Try.prog) (t := 22) (e := 5) (B := 1) Try.underlying22 (by kernel_rfl) (by kernel_rfl) (opens_int (P := Try.prog) (t := 5) Try.underlying5)) H enc W _ _ _ _ _ _ f0 L0
  obtain ⟨rfl, rfl, rfl⟩ : A0 = A0' ∧ len0 = l0.length ∧ c0 = c0' := by simpa [Value.cells] using e0
  have k1 := h1
  have lt1 : ∀ x ∈ p1, x.block < W.heap.size := by obtain ⟨m, hm⟩ := k1; exact DataW.trod_lt m _ _ _ hm
  have L1 : Light Try.prog 32 d1 := light_of hsz (j := 1) (t := 32) rfl rfl
  obtain ⟨cs1, rfl, z1⟩ := okWide_array Try.underlying32 (hval 1 32 v1 rfl rfl)
  obtain ⟨fuel1, f1⟩ := h1
  obtain ⟨x1, K1, g1⟩ := (opens_array (P := Try.prog) (t := 32) Try.underlying32 (by kernel_rfl) (opensL_cons (opens_int (P := Try.prog) (t := 31) Try.underlying31) (opensL_one (opens_int (P := Try.prog) (t := 31) Try.underlying31)))) H enc W _ _ _ _ _ _ f1 L1
  have e1 : (Value.agg cs1).cells.toList = [.int .u16 x1.1, .int .u16 x1.2] := by
    have K_ := K1
    obtain ⟨c_0, r_0, hcc_0, hh_0, K_0⟩ := K_
    rw [hcc_0]
    rw [show c_0 = [.int .u16 x1.1] from hh_0]
    rw [show r_0 = [.int .u16 x1.2] from K_0]
    rfl
  obtain rfl : cs1 = #[.int .u16 x1.1, .int .u16 x1.2] := by simpa [Value.cells] using agg_of e1
  obtain ⟨a2, rfl, rfl, rfl, w2⟩ := open_int Try.underlying5 (hval 2 5 v2 rfl rfl) h2
  clear hA0 hval0 hsz0 hsz
  obtain ⟨kk, pure⟩ : ∃ k, waypointlaw08_FletcherChanged.f k l0 x1.1 x1.2 a2 = some true := Pure.FletcherChanged l0 x1.1 x1.2 a2 g0 g1.1 g1.2 w2
  refine (waypointlaw08_FletcherChanged.calls kk A0 c0 l0 _ _ a2 true W hr0 hc0 pure).mono fun e W' he => ?_
  have bel : Below W.heap.size W W' := by first | exact he.2 | exact below_of_drawn0 he.2
  obtain rfl := he.1
  exact ⟨_, rfl, _, _, _, [], _, [], hW', trodAll_mk1 (shut_bool Try.underlying4 _), (trodAll_cons_mk (Below.trod laidOut (by kernel_rfl) (of_decide_eq_true (by kernel_rfl)) k0 bel lt0) (trodAll_cons_mk (Below.trod laidOut (by kernel_rfl) (of_decide_eq_true (by kernel_rfl)) k1 bel lt1) (trodAll_cons_mk (shut_int Try.underlying5 w2) trodAll_mk0))), rfl, bel.frame _, fun h => by cases h⟩
theorem over : Rows.fletcherChangedRow.holds Try.pinned (OpenSpec.ofChange Rows.fletcherChangedSpec) :=
  OpenClaim.holds_of_wide 5 Try.f5 rfl rfl rfl rfl rfl rfl rfl ⟨rfl, rfl, rfl, rfl, rfl⟩ rfl rfl rfl rfl rfl (by kernel_rfl) Try.func5 (by kernel_rfl)
    (of_decide_eq_true (by kernel_rfl)) (by unfold Func.isWrapper; first | (rw [if_pos (by decide +kernel)]; kernel_rfl) | (rw [if_neg (by decide +kernel)]; exact ⟨rfl, rfl⟩))
    (fun os started H enc _ => lifted os started H enc)
theorem proved : Rows.FletcherChangedSaid := over
#print axioms proved
end Go.Proofs.Ytandnmkllijnhaa.fletcherChanged
namespace Go.Proofs.Ytandnmkllijnhaa
/-- The row, under a short name, for the claim. -/
theorem fletcherChanged_holds : Rows.FletcherChangedSaid := fletcherChanged.proved
end Go.Proofs.Ytandnmkllijnhaa

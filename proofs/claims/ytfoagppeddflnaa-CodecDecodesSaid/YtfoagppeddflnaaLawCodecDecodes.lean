/- The row of the law CodecDecodes, out of its printed contract and its pure statement. Written by myrow.py, a program of mine; Lean checks every row. -/
import Derived.Test.YtfoagppeddflnaaRows
import Derived.Test.YtfoagppeddflnaaPT0714
import Derived.Test.YtfoagppeddflnaaPureCodecDecodes
import Derived.Test.YtfoagppeddflnaaOpen
import Derived.WalkKit
import Derived.ProofKit
import Derived.OpenShut
import Derived.ShutString
import Derived.ChangeOld
import Derived.Below
import Derived.SizedLaws
namespace Go.Proofs.Ytfoagppeddflnaa.codecDecodes
open Go.ChangeShapes Go.WideShapes Go.ChangeAt Go.RowKit Go.Proofs.Ytfoagppeddflnaa.PT07 Go.Proofs.YtfoagppeddflnaaW.PrintWords
open Go.ChangeMaps (open_string shut_string)
set_option linter.unusedVariables false
theorem own : ownKnob Try.prog.godebug = none := by kernel_rfl
theorem laidOut : laidOutB Try.prog = true := by kernel_rfl
set_option maxRecDepth 100000 in
theorem lifted (os : Os) (started : os.Started) (H : Type) (enc : TypeId × Value → H) :
    ReturnsInHanded {} Try.checked os 4 .any (Rows.codecDecodesSpec.pre6 enc Try.prog Try.f4 Rows.codecDecodesRow.domain false) (Rows.codecDecodesSpec.post enc Try.prog Try.f4 false true false false) := by
  refine returnsInHanded_of_change_sized (C := Try.checked) own started (by kernel_rfl) Try.func4
    (ChangeSpec.witness6 (enc := enc) (C := Try.checked) false ⟨#[], #[.slice none 0 0], []⟩ 8 (by kernel_rfl) (by kernel_rfl) (by kernel_rfl) (by kernel_rfl)) ?_
  intro W base args ds gs before hval0 hW hcnd hsz0 _
  have hsz : (DataW.weightsEach Try.prog (Try.f4.params.toList ++ Rows.codecDecodesSpec.plain.varTypes Try.prog) (ds ++ gs)).all (· ≤ reachBytes) = true := hsz0
  have hval : ∀ (j : Nat) t v, Try.f4.params[j]? = some t → args[j]? = some v → Value.okWide Try.prog W .any base t v := hval0
  have hW' := hW
  obtain ⟨p, q, hA0, hV, rfl, hfz, hnd⟩ := hW
  have hA : DataW.TrodAll enc Try.prog W 0 (fun _ => true) true Try.f4.params.toList args.toList ds p := hA0
  rw [Try.params4] at hA hval hsz
  obtain ⟨v0, vs0, d0, ds0, p0, q0, hargs, rfl, rfl, h0, r0⟩ := trodAll_cons hA
  obtain ⟨rfl, rfl, rfl⟩ := trodAll_nil r0
  obtain rfl : args = #[v0] := by cases args; simp_all
  obtain ⟨rfl, rfl⟩ := trodVars_none hV
  have k0 := h0
  have lt0 : ∀ x ∈ p0, x.block < W.heap.size := by obtain ⟨m, hm⟩ := k0; exact DataW.trod_lt m _ _ _ hm
  have L0 : Light Try.prog 27 d0 := light_of hsz (j := 0) (t := 27) rfl rfl
  obtain ⟨A0, len0, c0, rfl⟩ := okWide_slice Try.underlying27 (hval 0 27 v0 rfl rfl)
  obtain ⟨fuel0, f0⟩ := h0
  obtain ⟨l0, ⟨A0', c0', e0, hc0, hr0⟩, g0⟩ := (opens_slice (P := Try.prog) (t := 27) (e := 5) (B := 1) Try.underlying27 (by kernel_rfl) (by kernel_rfl) (opens_int (P := Try.prog) (t := 5) Try.underlying5)) H enc W _ _ _ _ _ _ f0 L0
  obtain ⟨rfl, rfl, rfl⟩ : A0 = A0' ∧ len0 = l0.length ∧ c0 = c0' := by simpa [Value.cells] using e0
  clear hA0 hval0 hsz0 hsz
  obtain ⟨kk, pure⟩ : ∃ k, waypointlaw07_CodecDecodes.f k l0 = some true := Pure.CodecDecodes l0 g0
  refine (waypointlaw07_CodecDecodes.calls kk A0 c0 l0 true W hr0 hc0 pure).mono fun e W' he => ?_
  have bel : Below W.heap.size W W' := by first | exact he.2 | exact below_of_drawn0 he.2
  obtain rfl := he.1
  exact ⟨_, rfl, _, _, _, [], _, [], hW', trodAll_mk1 (shut_bool Try.underlying4 _), (trodAll_cons_mk (Below.trod laidOut (by kernel_rfl) (of_decide_eq_true (by kernel_rfl)) k0 bel lt0) trodAll_mk0), rfl, bel.frame _, fun h => by cases h⟩
theorem over : Rows.codecDecodesRow.holds Try.pinned (OpenSpec.ofChange Rows.codecDecodesSpec) :=
  OpenClaim.holds_of_wide 4 Try.f4 rfl rfl rfl rfl rfl rfl rfl ⟨rfl, rfl, rfl, rfl, rfl⟩ rfl rfl rfl rfl rfl (by kernel_rfl) Try.func4 (by kernel_rfl)
    (of_decide_eq_true (by kernel_rfl)) (by unfold Func.isWrapper; first | (rw [if_pos (by decide +kernel)]; kernel_rfl) | (rw [if_neg (by decide +kernel)]; exact ⟨rfl, rfl⟩))
    (fun os started H enc _ => lifted os started H enc)
theorem proved : Rows.CodecDecodesSaid := over
#print axioms proved
end Go.Proofs.Ytfoagppeddflnaa.codecDecodes
namespace Go.Proofs.Ytfoagppeddflnaa
/-- The row, under a short name, for the claim. -/
theorem codecDecodes_holds : Rows.CodecDecodesSaid := codecDecodes.proved
end Go.Proofs.Ytfoagppeddflnaa

-- WRITTEN BY mygen.py, a program of mine over the kit's print; Lean checks every row
import Derived.Test.YtopdnkihecomnaaProg
import Derived.Below
import Derived.Deep.Draws
import Derived.Deep.AppendLies
import Derived.Maps.AppendAt
import Derived.OwnWalk
import Derived.Laws.BytesArg
import Derived.Laws.MakeOwn
import Derived.Laws.OwnMore
import Derived.Deep.OwnRows
import Derived.Tactics
import Derived.Lib.ConvBytes
import Derived.Laws.Slices
import Derived.WalkKit
import Derived.KernelRfl
import Derived.RowKit3
import Derived.Deep.LoopGhost
import Derived.Deep.QuietTactic
import Derived.BigQuiet
import Derived.WideLaws
import Derived.Deep.DeepCutAuto
import Derived.Deep.CutBlock
import Derived.Deep.RegionHeld3
import Derived.Laws.Rows
import Derived.Lib.AppendStr
import Derived.ArgAppend
import Derived.Laws.IdiomCopy
import Derived.OrdersHeld
import Derived.Laws.BitsLemmas
import Derived.RowKit
import Derived.Lib.SliceRun
import Derived.Test.YtopdnkihecomnaaMine
import Derived.Test.YtopdnkihecomnaaWWords
import Derived.Test.YtopdnkihecomnaaWLast
import Derived.Test.YtopdnkihecomnaaWTab
import Derived.Test.YtopdnkihecomnaaWFour
import Derived.Test.YtopdnkihecomnaaWQPut
import Derived.Test.YtopdnkihecomnaaWApart
import Derived.Test.YtopdnkihecomnaaWArr
import Derived.Test.YtopdnkihecomnaaWZeros
import Derived.Test.YtopdnkihecomnaaWFoot
import Derived.Test.YtopdnkihecomnaaWKept
import Derived.Test.YtopdnkihecomnaaWShare
import Derived.Test.YtopdnkihecomnaaWN
import Derived.Test.YtopdnkihecomnaaWFootNe
import Derived.Test.YtopdnkihecomnaaWAt
import Derived.Test.YtopdnkihecomnaaWEqStruct
import Derived.Test.YtopdnkihecomnaaWRepsOne
import Derived.Test.YtopdnkihecomnaaWInv
import Derived.Test.YtopdnkihecomnaaWInvWords
import Derived.Test.YtopdnkihecomnaaWGuard
import Derived.Test.YtopdnkihecomnaaWNEv
import Derived.Test.YtopdnkihecomnaaWMore
namespace Go.Proofs.Ytopdnkihecomnaa.PT34
open Go.RowKit Go.Proofs.YtopdnkihecomnaaW.PrintWords Go.Proofs.YtopdnkihecomnaaW.PrintLast Go.Proofs.YtopdnkihecomnaaW.PrintMore
attribute [local go_sem] max2_int min2_int max_two min_two max_three min_three max_four min_four   -- for this text's walks alone
set_option linter.unusedVariables false
set_option linter.unusedSimpArgs false



def errW : Option Int → Value
  | none => .nilIface
  | some c => .iface 0 (.int .i64 c)
theorem errW_none : errW none = .nilIface := rfl
theorem errW_some (c : Int) : errW (some c) = .iface 0 (.int .i64 c) := rfl

-- the values' own types
/-! #### struct type 35 -/
structure S35 where
  f0 : Bool
  f1 : Bool
  f2 : Int
def z35 : S35 := ⟨false, false, (0 : Int)⟩
def k35 : Kd S35 := Kd.iso (Kd.pair Kd.bool (Kd.pair Kd.bool (Kd.int .i64))) (fun x : S35 => (x.f0, x.f1, x.f2))
theorem k35_open {w : World} {x : S35} {cs : List Value} (h : k35.K w x cs) : cs = [.bool x.f0, .bool x.f1, .int .i64 x.f2] := by
  obtain ⟨_, _, rfl, rfl, ⟨_, _, rfl, rfl, rfl⟩⟩ := h
  exact rfl
theorem k35_openM {w : World} {base : Nat} {ok : Nat → Prop} {x : S35} {cs : List Value} (h : k35.M w base ok x cs) : cs = [.bool x.f0, .bool x.f1, .int .i64 x.f2] := by
  obtain ⟨_, _, rfl, rfl, ⟨_, _, rfl, rfl, rfl⟩⟩ := h
  exact rfl
theorem k35_mk (w : World) (x : S35)  : k35.K w x [.bool x.f0, .bool x.f1, .int .i64 x.f2] := ⟨[.bool x.f0], [.bool x.f1, .int .i64 x.f2], rfl, rfl, ⟨[.bool x.f1], [.int .i64 x.f2], rfl, rfl, rfl⟩⟩
theorem k35_mkM (w : World) (base : Nat) (ok : Nat → Prop) (x : S35)  : k35.M w base ok x [.bool x.f0, .bool x.f1, .int .i64 x.f2] := ⟨[.bool x.f0], [.bool x.f1, .int .i64 x.f2], rfl, rfl, ⟨[.bool x.f1], [.int .i64 x.f2], rfl, rfl, rfl⟩⟩
def rd_T35 (xs : List S35) (i : Int) : S35 := xs.getD i.toNat z35
theorem at_T35 {w : World} {A : Option Addr} {n : Nat} {xs : List S35} (h : Kd.C k35 w A n xs) (i : Int) (h0 : 0 ≤ i) (h1 : i < n) : ∃ ad , A = some ad ∧ w.cell? (ad.add (i.toNat * 3)) = some (.bool (rd_T35 xs i).f0) ∧ w.cell? ⟨(ad.add (i.toNat * 3)).block, (ad.add (i.toNat * 3)).off + 1, none⟩ = some (.bool (rd_T35 xs i).f1) ∧ w.cell? ⟨(ad.add (i.toNat * 3)).block, (ad.add (i.toNat * 3)).off + 2, none⟩ = some (.int .i64 (rd_T35 xs i).f2) := by
  obtain ⟨ad, c, e, _, hK, hc0⟩ := Kd.C_get h z35 i h0 h1
  have hc : ∀ j u, c[j]? = some u → w.cell? (ad.add (i.toNat * 3 + j)) = some u := hc0
  obtain rfl := k35_open hK
  exact ⟨ad, e, hc 0 _ rfl, by rw [← add_field _ _ 1 (by omega)]; exact hc 1 _ rfl, by rw [← add_field _ _ 2 (by omega)]; exact hc 2 _ rfl⟩

/-! #### struct type 45 -/
structure S45 where
  f0 : Bool
  f1 : Bool
def z45 : S45 := ⟨false, false⟩
def k45 : Kd S45 := Kd.iso (Kd.pair Kd.bool Kd.bool) (fun x : S45 => (x.f0, x.f1))
theorem k45_open {w : World} {x : S45} {cs : List Value} (h : k45.K w x cs) : cs = [.bool x.f0, .bool x.f1] := by
  obtain ⟨_, _, rfl, rfl, rfl⟩ := h
  exact rfl
theorem k45_openM {w : World} {base : Nat} {ok : Nat → Prop} {x : S45} {cs : List Value} (h : k45.M w base ok x cs) : cs = [.bool x.f0, .bool x.f1] := by
  obtain ⟨_, _, rfl, rfl, rfl⟩ := h
  exact rfl
theorem k45_mk (w : World) (x : S45)  : k45.K w x [.bool x.f0, .bool x.f1] := ⟨[.bool x.f0], [.bool x.f1], rfl, rfl, rfl⟩
theorem k45_mkM (w : World) (base : Nat) (ok : Nat → Prop) (x : S45)  : k45.M w base ok x [.bool x.f0, .bool x.f1] := ⟨[.bool x.f0], [.bool x.f1], rfl, rfl, rfl⟩
def rd_T45 (xs : List S45) (i : Int) : S45 := xs.getD i.toNat z45
theorem at_T45 {w : World} {A : Option Addr} {n : Nat} {xs : List S45} (h : Kd.C k45 w A n xs) (i : Int) (h0 : 0 ≤ i) (h1 : i < n) : ∃ ad , A = some ad ∧ w.cell? (ad.add (i.toNat * 2)) = some (.bool (rd_T45 xs i).f0) ∧ w.cell? ⟨(ad.add (i.toNat * 2)).block, (ad.add (i.toNat * 2)).off + 1, none⟩ = some (.bool (rd_T45 xs i).f1) := by
  obtain ⟨ad, c, e, _, hK, hc0⟩ := Kd.C_get h z45 i h0 h1
  have hc : ∀ j u, c[j]? = some u → w.cell? (ad.add (i.toNat * 2 + j)) = some u := hc0
  obtain rfl := k45_open hK
  exact ⟨ad, e, hc 0 _ rfl, by rw [← add_field _ _ 1 (by omega)]; exact hc 1 _ rfl⟩

end Go.Proofs.Ytopdnkihecomnaa.PT34

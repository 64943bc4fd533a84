/- Kinds of structs, as lists of values in memory. Written by mykinds.py over the kit's kinds.py. -/
import Derived.Test.YtpliaagfhjnnaaaWWords
namespace Go.Proofs.Ytpliaagfhjnnaaa.Ev
open Go.RowKit Go.Proofs.YtpliaagfhjnnaaaW.PrintWords
set_option linter.unusedVariables false

/-! #### struct type 47 -/
structure S47 where
  f0 : Int
  f1 : Int
  f2 : Int
def z47 : S47 := ⟨(0 : Int), (0 : Int), (0 : Int)⟩
def k47 : Kd S47 := Kd.iso (Kd.pair (Kd.int .u8) (Kd.pair (Kd.int .i64) (Kd.int .i64))) (fun x : S47 => (x.f0, x.f1, x.f2))
theorem k47_open {w : World} {x : S47} {cs : List Value} (h : k47.K w x cs) : cs = [.int .u8 x.f0, .int .i64 x.f1, .int .i64 x.f2] := by
  obtain ⟨_, _, rfl, rfl, ⟨_, _, rfl, rfl, rfl⟩⟩ := h
  exact rfl
theorem k47_openM {w : World} {base : Nat} {ok : Nat → Prop} {x : S47} {cs : List Value} (h : k47.M w base ok x cs) : cs = [.int .u8 x.f0, .int .i64 x.f1, .int .i64 x.f2] := by
  obtain ⟨_, _, rfl, rfl, ⟨_, _, rfl, rfl, rfl⟩⟩ := h
  exact rfl
theorem k47_mk (w : World) (x : S47)  : k47.K w x [.int .u8 x.f0, .int .i64 x.f1, .int .i64 x.f2] := ⟨[.int .u8 x.f0], [.int .i64 x.f1, .int .i64 x.f2], rfl, rfl, ⟨[.int .i64 x.f1], [.int .i64 x.f2], rfl, rfl, rfl⟩⟩
theorem k47_mkM (w : World) (base : Nat) (ok : Nat → Prop) (x : S47)  : k47.M w base ok x [.int .u8 x.f0, .int .i64 x.f1, .int .i64 x.f2] := ⟨[.int .u8 x.f0], [.int .i64 x.f1, .int .i64 x.f2], rfl, rfl, ⟨[.int .i64 x.f1], [.int .i64 x.f2], rfl, rfl, rfl⟩⟩
def rd_T47 (xs : List S47) (i : Int) : S47 := xs.getD i.toNat z47
theorem at_T47 {w : World} {A : Option Addr} {n : Nat} {xs : List S47} (h : Kd.C k47 w A n xs) (i : Int) (h0 : 0 ≤ i) (h1 : i < n) : ∃ ad , A = some ad ∧ w.cell? (ad.add (i.toNat * 3)) = some (.int .u8 (rd_T47 xs i).f0) ∧ w.cell? ⟨(ad.add (i.toNat * 3)).block, (ad.add (i.toNat * 3)).off + 1, none⟩ = some (.int .i64 (rd_T47 xs i).f1) ∧ w.cell? ⟨(ad.add (i.toNat * 3)).block, (ad.add (i.toNat * 3)).off + 2, none⟩ = some (.int .i64 (rd_T47 xs i).f2) := by
  obtain ⟨ad, c, e, _, hK, hc0⟩ := Kd.C_get h z47 i h0 h1
  have hc : ∀ j u, c[j]? = some u → w.cell? (ad.add (i.toNat * 3 + j)) = some u := hc0
  obtain rfl := k47_open hK
  exact ⟨ad, e, hc 0 _ rfl, by rw [← add_field _ _ 1 (by omega)]; exact hc 1 _ rfl, by rw [← add_field _ _ 2 (by omega)]; exact hc 2 _ rfl⟩

end Go.Proofs.Ytpliaagfhjnnaaa.Ev

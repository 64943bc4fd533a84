import Derived.Test.YtpliaagfhjnnaaaHeapJ
import Derived.Test.YtpliaagfhjnnaaaEvP
import Derived.Maps.OwnOps
import Derived.Maps.OwnSet
import Derived.Deep.OwnRows
namespace Go.Proofs.Ytpliaagfhjnnaaa.Ev
open Go.RowKit Go.Proofs.YtpliaagfhjnnaaaW.PrintWords Go.Proofs.Ytpliaagfhjnnaaa.Sep Go.Proofs.Ytpliaagfhjnnaaa.HeapP Go.Proofs.Ytpliaagfhjnnaaa.Heap Go.Proofs.Ytpliaagfhjnnaaa.EvP
set_option linter.unusedVariables false

/-! A map of whole numbers. -/
section
variable {P : Program} {k e t : TypeId}
def MapI (P : Program) (k e : TypeId) (w : World) (b c : Nat) (M : Int → Option Int) : Prop :=
  ∃ (n : Nat) (D : DataW Unit), w.ownsMap P k (plainElem P e) b n D ∧ n ≤ c ∧ ∀ id, (M id).isSome = Maps.has D (.int .i64 id) ∧ D.atKey (.int .i64 id) (.lit (.int .i64 0)) = .lit (.int .i64 ((M id).getD 0))
theorem MapI.lt {w : World} {b c : Nat} {M : Int → Option Int} (h : MapI P k e w b c M) : b < w.heap.size := by
  obtain ⟨n, D, h1, _⟩ := h
  exact h1.lt
theorem MapI.blocks {w w1 : World} {b c : Nat} {M : Int → Option Int} (h : MapI P k e w b c M) (hb : w1.heap[b]? = w.heap[b]?) : MapI P k e w1 b c M := by
  obtain ⟨n, D, ⟨es, cl, h1, h2⟩, h3⟩ := h
  exact ⟨n, D, ⟨es, cl, hb.trans h1, h2⟩, h3⟩
theorem MapI.made (w : World) : MapI P k e (w.alloc (.map #[] 0)) w.heap.size 0 (fun _ => none) :=
  ⟨0, _, World.ownsMap_made w P k _, Nat.le_refl _, fun id => ⟨rfl, rfl⟩⟩
theorem MapI.update {w : World} {b c : Nat} {M : Int → Option Int} (h : MapI P k e w b c M) (hk : P.underlying k = some (.int .i64)) (he : P.underlying e = some (.int .i64)) (ht : P.underlying t = some (.map k e)) (hc : c < 9223372036854775807) (id v : Int) (hid : (Lit.int .i64 id).wf = true) (hv : (Lit.int .i64 v).wf = true) :
    ∃ w', (Instr.mapUpdate t (.map (some b)) (.int .i64 id) (.int .i64 v)).run P w = .ok () w' ∧ MapI P k e w' b (c + 1) (fun x => if x = id then some v else M x) ∧ w.grownBy w' (some b) := by
  obtain ⟨n, D, h1, h2, h3⟩ := h
  have hK := Maps.int_keyed hk
  have hkey := Maps.keyOf_int_mk hk hid
  obtain ⟨w', hrun, h4, h5⟩ := h1.update hK ht (by unfold maxLen; omega) hkey (plainElem_int he hv)
  refine ⟨w', hrun, ⟨n + 1, _, h4, by omega, fun x => ?_⟩, h5⟩
  by_cases c1 : x = id
  · subst c1
    simp only [if_true]
    rw [Maps.has_put_same h1.isMap (hK.key hkey), Maps.atKey_put_same h1.isMap (hK.key hkey)]
    exact ⟨rfl, rfl⟩
  · simp only [if_neg c1]
    have hne : (Lit.int .i64 x) ≠ (Lit.int .i64 id) := fun q => c1 (by injection q)
    rw [Maps.has_put_other hne, Maps.atKey_put_other hne]
    exact h3 x
theorem MapI.look {w : World} {b c : Nat} {M : Int → Option Int} (h : MapI P k e w b c M) (hk : P.underlying k = some (.int .i64)) (he : P.underlying e = some (.int .i64)) (ht : P.underlying t = some (.map k e)) (hz : (zeroValue e).run P w = .ok (.int .i64 0) w) (id : Int) (hid : (Lit.int .i64 id).wf = true) :
    (Instr.lookup t (.map (some b)) (.int .i64 id) true).run P w = .ok (.tuple #[.int .i64 ((M id).getD 0), .bool (M id).isSome]) w := by
  obtain ⟨n, D, h1, h2, h3⟩ := h
  have hK := Maps.int_keyed hk
  have hkey := Maps.keyOf_int_mk hk hid
  obtain ⟨v, ps, hrun, hv⟩ := h1.look_ok hK ht hz (plainElem_int he (by decide)) hkey
  rw [(h3 id).2] at hv
  obtain ⟨c', rfl, hc', _⟩ := plainElem_int_inv he hv
  simp only [Prod.mk.injEq] at hc'
  have h9 := hc'.1
  injection h9 with h9
  injection h9 with _ h9
  rw [hrun, (h3 id).1, h9]
theorem MapI.delete {w : World} {b c : Nat} {M : Int → Option Int} (h : MapI P k e w b c M) (hk : P.underlying k = some (.int .i64)) (ht : P.underlying t = some (.map k e)) (id : Int) (hid : (Lit.int .i64 id).wf = true) (ty : TypeId) :
    ∃ w', (Builtin.delete_ #[t, k] ty #[.map (some b), .int .i64 id]).run P w = .ok (.tuple #[]) w' ∧ MapI P k e w' b c (fun x => if x = id then none else M x) ∧ w.grownBy w' (some b) := by
  obtain ⟨n, D, h1, h2, h3⟩ := h
  have hK := Maps.int_keyed hk
  have hkey := Maps.keyOf_int_mk hk hid
  obtain ⟨w', hrun, h4, h5⟩ := h1.drop hK ht hkey ty
  refine ⟨w', hrun, ⟨n, _, h4, h2, fun x => ?_⟩, ?_⟩
  · by_cases c1 : x = id
    · subst c1
      simp only [if_true]
      rw [Maps.has_del_same, Maps.atKey_del_same]
      exact ⟨rfl, rfl⟩
    · simp only [if_neg c1]
      have hne : (Lit.int .i64 x) ≠ (Lit.int .i64 id) := fun q => c1 (by injection q)
      rw [Maps.has_del_other hne, Maps.atKey_del_other hne]
      exact h3 x
  · exact h5.grown
end
/-! A row of events. -/
def evc (l : List Ev) : List Value := l.flatMap fun x => [.int .i64 x.id, .int .i64 x.time, .int .i64 x.data]
theorem evc_length (l : List Ev) : (evc l).length = l.length * 3 := by
  induction l with
  | nil => rfl
  | cons x l ih => simp [evc] at ih ⊢; omega
theorem evc_append (l m : List Ev) : evc (l ++ m) = evc l ++ evc m := by simp [evc]
theorem evc_get (l : List Ev) (i : Nat) (hi : i < l.length) : (evc l)[i * 3]? = some (.int .i64 (pe l i).id) ∧ (evc l)[i * 3 + 1]? = some (.int .i64 (pe l i).time) ∧ (evc l)[i * 3 + 2]? = some (.int .i64 (pe l i).data) := by
  induction l generalizing i with
  | nil => simp at hi
  | cons x l ih =>
    have e : evc (x :: l) = [.int .i64 x.id, .int .i64 x.time, .int .i64 x.data] ++ evc l := rfl
    rw [e]
    cases i with
    | zero => exact ⟨rfl, rfl, rfl⟩
    | succ i =>
      have h := ih i (by simpa using hi)
      have e2 : pe (x :: l) (i + 1) = pe l i := rfl
      rw [e2, List.getElem?_append_right (by simp; omega), List.getElem?_append_right (by simp; omega), List.getElem?_append_right (by simp; omega)]
      have q1 : (i + 1) * 3 - [Value.int IntKind.i64 x.id, Value.int IntKind.i64 x.time, Value.int IntKind.i64 x.data].length = i * 3 := by simp; omega
      have q2 : (i + 1) * 3 + 1 - [Value.int IntKind.i64 x.id, Value.int IntKind.i64 x.time, Value.int IntKind.i64 x.data].length = i * 3 + 1 := by simp; omega
      have q3 : (i + 1) * 3 + 2 - [Value.int IntKind.i64 x.id, Value.int IntKind.i64 x.time, Value.int IntKind.i64 x.data].length = i * 3 + 2 := by simp; omega
      rw [q1, q2, q3]
      exact h
theorem evc_set (l : List Ev) (i : Nat) (v : Ev) (hi : i < l.length) : (((evc l).set (i * 3) (.int .i64 v.id)).set (i * 3 + 1) (.int .i64 v.time)).set (i * 3 + 2) (.int .i64 v.data) = evc (l.set i v) := by
  induction l generalizing i with
  | nil => simp at hi
  | cons x l ih =>
    have e : evc (x :: l) = .int .i64 x.id :: .int .i64 x.time :: .int .i64 x.data :: evc l := rfl
    rw [e]
    cases i with
    | zero => rfl
    | succ i =>
      have h := ih i (by simpa using hi)
      have e3 : (i + 1) * 3 = i * 3 + 1 + 1 + 1 := by omega
      rw [e3]
      simp only [List.set_cons_succ]
      rw [h]
      rfl
def OwnE (e : TypeId) (w : World) (v : Value) (l : List Ev) : Prop := w.ownsRow 0 e 3 v l.length (evc l)
section
variable {e : TypeId} {w w1 : World} {v : Value} {l : List Ev} {g c n : Nat}
theorem OwnE.blocks (h : OwnE e w v l) (hk : ∀ k, v.ownBlock = some k → w1.heap[k]? = w.heap[k]?) : OwnE e w1 v l := own_at_blocks h hk
theorem OwnE.lt (h : OwnE e w v l) (k : Nat) (hk : v.ownBlock = some k) : k < w.heap.size := own_lt h k hk
theorem OwnE.slice (h : OwnE e w v l) : ∃ A c, v = .slice A l.length c := own_slice h
theorem OwnE.form (h : OwnE e w v l) (hn : 0 < l.length) : ∃ g c, v = .slice (some ⟨g, 0, none⟩) l.length c ∧ g < w.heap.size := by
  obtain ⟨g, c, rfl, _, hl⟩ := World.ownsRow.form h hn
  exact ⟨g, c, rfl, hl⟩
theorem OwnE.cells (h : OwnE e w (.slice (some ⟨g, 0, none⟩) n c) l) (i : Nat) (hi : i < l.length) : w.cell? ⟨g, i * 3, none⟩ = some (.int .i64 (pe l i).id) ∧ w.cell? ⟨g, i * 3 + 1, none⟩ = some (.int .i64 (pe l i).time) ∧ w.cell? ⟨g, i * 3 + 2, none⟩ = some (.int .i64 (pe l i).data) := by
  have hc := fun j u (hu : (evc l)[j]? = some u) => World.ownsRow.cells h (g := g) rfl j u hu
  simp only [add_plain] at hc
  obtain ⟨a, b, d⟩ := evc_get l i hi
  exact ⟨hc _ _ a, hc _ _ b, hc _ _ d⟩
theorem OwnE.free (h : OwnE e w (.slice (some ⟨g, 0, none⟩) n c) l) (i : Nat) : w.frozen? ⟨g, i, none⟩ = false := by
  rcases h.2 with ⟨h', _⟩ | ⟨g', cap', cur, h', _, hh, _⟩
  · cases h'
  · have : g = g' := by injection h' with h'; injection h' with h'; injection h' with h'
    subst this
    simp [World.frozen?, hh]
theorem OwnE.len {A : Option Addr} (h : OwnE e w (.slice A n c) l) : n = l.length := by
  rcases h.2 with ⟨h', h2⟩ | ⟨g', cap', cur, h', _⟩
  · injection h' with _ h3
    omega
  · injection h' with _ h3
theorem OwnE.store (h : OwnE e w (.slice (some ⟨g, 0, none⟩) n c) l) (i : Nat) (hi : i < l.length) (x : Ev) : OwnE e (((w.setCell ⟨g, i * 3, none⟩ (.int .i64 x.id)).setCell ⟨g, i * 3 + 1, none⟩ (.int .i64 x.time)).setCell ⟨g, i * 3 + 2, none⟩ (.int .i64 x.data)) (.slice (some ⟨g, 0, none⟩) n c) (l.set i x) := by
  obtain rfl := h.len
  have h1 := (World.ownsRow.stored h (i * 3) (.int .i64 x.id)).1
  have h2 := (World.ownsRow.stored h1 (i * 3 + 1) (.int .i64 x.time)).1
  have h3 := (World.ownsRow.stored h2 (i * 3 + 2) (.int .i64 x.data)).1
  unfold OwnE
  rw [List.length_set, ← evc_set l i x hi]
  exact h3
end
end Go.Proofs.Ytpliaagfhjnnaaa.Ev

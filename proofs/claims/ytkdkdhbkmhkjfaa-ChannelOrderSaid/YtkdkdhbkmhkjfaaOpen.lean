/- How arguments are opened, kind by kind: what a datum of a type reads as, is told by the print's kinds. Plain lemmas, no program named. -/
import Derived.Test.YtkdkdhbkmhkjfaaWWords
import Derived.ChangeArms
import Derived.OpenShut
import Derived.Deep.Slices
import Derived.SizedLaws
namespace Go.Proofs.YtkdkdhbkmhkjfaaW.PrintWords
open Go.RowKit

/-- No part of a datum is heavier than the reach. -/
def Light {H : Type} (P : Program) (t : TypeId) (d : DataW H) : Prop := ∀ n ∈ d.weights P t, n ≤ 140737488351232

/-- Whatever reads as data of type t is of the kind k, and good. -/
def Opens {α : Type} (P : Program) (t : TypeId) (k : Kd α) (good : α → Prop) : Prop :=
  ∀ (H : Type) (enc : TypeId × Value → H) (w : World) (spare : Nat → Bool) (held : Bool) (fuel : Nat) (cs : List Value) (d : DataW H) (ps : List MemPlace),
    DataW.trod enc P w 0 spare held fuel t cs = some (d, ps) → Light P t d → ∃ a, k.K w a cs ∧ good a

theorem opens_int {P : Program} {t : TypeId} {k : IntKind} (ht : P.underlying t = some (.int k)) : Opens P t (Kd.int k) (fun n => (Lit.int k n).wf = true) := by
  intro H enc w spare held fuel cs d ps h _
  obtain ⟨n, rfl, _, hw⟩ := DataW.trod_int ht h
  exact ⟨n, rfl, hw⟩
theorem opens_bool {P : Program} {t : TypeId} (ht : P.underlying t = some .bool) : Opens P t Kd.bool (fun _ => True) := by
  intro H enc w spare held fuel cs d ps h _
  obtain ⟨b, rfl, _⟩ := DataW.trod_bool ht h
  exact ⟨b, rfl, trivial⟩
theorem opens_string {P : Program} {t : TypeId} (ht : P.underlying t = some .string) : Opens P t Kd.string (fun s => s.size ≤ 140737488351232) := by
  intro H enc w spare held fuel cs d ps h hl
  obtain ⟨s, rfl, hx, _⟩ := DataW.trod_string ht h
  obtain ⟨rfl, _⟩ := Prod.mk.inj hx
  refine ⟨s, rfl, ?_⟩
  have := hl s.data.toList.length (by simp [DataW.weights])
  rwa [Array.length_toList] at this
theorem opens_iso {α β : Type} {P : Program} {t : TypeId} {k : Kd α} {good : α → Prop} (f : β → α) (g : α → β) (hfg : ∀ a, f (g a) = a) (h : Opens P t k good) : Opens P t (Kd.iso k f) (fun b => good (f b)) := by
  intro H enc w spare held fuel cs d ps ht hl
  obtain ⟨a, hK, hg⟩ := h H enc w spare held fuel cs d ps ht hl
  exact ⟨g a, by show k.K w (f (g a)) cs; rw [hfg]; exact hK, by show good (f (g a)); rw [hfg]; exact hg⟩

/-- Cells that read as data of these types, one behind the other. -/
def SeqRead {H : Type} (enc : TypeId × Value → H) (P : Program) (w : World) (spare : Nat → Bool) (held : Bool) (fuel : Nat) : List TypeId → List Value → List (DataW H × List MemPlace) → Prop
  | [], cs, xs => cs = [] ∧ xs = []
  | t :: ts, cs, xs => ∃ c0 c1 x xs', cs = c0 ++ c1 ∧ c0.length = P.cellsOf t ∧ xs = x :: xs' ∧ DataW.trod enc P w 0 spare held fuel t c0 = some x ∧ SeqRead enc P w spare held fuel ts c1 xs'
theorem seq_of {H : Type} {enc : TypeId × Value → H} {P : Program} {w : World} {spare : Nat → Bool} {held : Bool} {fuel : Nat} (ts : List TypeId) : ∀ (cs : List Value) (xs : List (DataW H × List MemPlace)) (o : Nat),
    cs.length = o + (ts.map P.cellsOf).sum → xs.length = ts.length →
    (∀ i t, ts[i]? = some t → DataW.trod enc P w 0 spare held fuel t ((cs.drop (o + ((ts.take i).map P.cellsOf).sum)).take (P.cellsOf t)) = xs[i]?) →
    SeqRead enc P w spare held fuel ts (cs.drop o) xs := by
  induction ts with
  | nil =>
    intro cs xs o hc hx _
    exact ⟨List.drop_eq_nil_of_le (by simp at hc; omega), List.eq_nil_of_length_eq_zero (by simpa using hx)⟩
  | cons t ts ih =>
    intro cs xs o hc hx h
    simp only [List.map_cons, List.sum_cons] at hc
    obtain ⟨x, xs', rfl⟩ : ∃ x xs', xs = x :: xs' := by
      cases xs with
      | nil => simp at hx
      | cons x xs' => exact ⟨x, xs', rfl⟩
    have h0 := h 0 t rfl
    simp only [List.take_zero, List.map_nil, List.sum_nil, Nat.add_zero, List.getElem?_cons_zero] at h0
    refine ⟨(cs.drop o).take (P.cellsOf t), cs.drop (o + P.cellsOf t), x, xs', ?_, ?_, rfl, h0, ?_⟩
    · rw [← List.drop_drop, List.take_append_drop]
    · rw [List.length_take, List.length_drop]; omega
    · refine ih cs xs' (o + P.cellsOf t) (by omega) (by simpa using hx) (fun i t' hi => ?_)
      have := h (i + 1) t' (by simpa using hi)
      simp only [List.take_succ_cons, List.map_cons, List.sum_cons, List.getElem?_cons_succ] at this
      rw [Nat.add_assoc]
      exact this

/-- Cells of these types in line are of the kind k. -/
def OpensL {α : Type} (P : Program) (ts : List TypeId) (k : Kd α) (good : α → Prop) : Prop :=
  ∀ (H : Type) (enc : TypeId × Value → H) (w : World) (spare : Nat → Bool) (held : Bool) (fuel : Nat) (cs : List Value) (xs : List (DataW H × List MemPlace)),
    SeqRead enc P w spare held fuel ts cs xs → (∀ n ∈ DataW.weightsEach P ts (xs.map (·.1)), n ≤ 140737488351232) → ∃ a, k.K w a cs ∧ good a
theorem opensL_one {α : Type} {P : Program} {t : TypeId} {k : Kd α} {good : α → Prop} (h : Opens P t k good) : OpensL P [t] k good := by
  rintro H enc w spare held fuel cs xs ⟨c0, c1, x, xs', rfl, _, rfl, hx, rfl, rfl⟩ hl
  rw [List.append_nil]
  exact h H enc w spare held fuel c0 x.1 x.2 hx (fun n hn => hl n (by simp [DataW.weightsEach, hn]))
theorem opensL_cons {α β : Type} {P : Program} {t : TypeId} {ts : List TypeId} {a : Kd α} {b : Kd β} {ga : α → Prop} {gb : β → Prop} (h : Opens P t a ga) (hs : OpensL P ts b gb) : OpensL P (t :: ts) (Kd.pair a b) (fun x => ga x.1 ∧ gb x.2) := by
  rintro H enc w spare held fuel cs xs ⟨c0, c1, x, xs', rfl, hlen, rfl, hx, hr⟩ hl
  obtain ⟨y, hy, gy⟩ := h H enc w spare held fuel c0 x.1 x.2 hx (fun n hn => hl n (by simp [DataW.weightsEach, hn]))
  obtain ⟨z, hz, gz⟩ := hs H enc w spare held fuel c1 xs' hr (fun n hn => hl n (by simp only [List.map_cons, DataW.weightsEach, List.mem_append]; exact .inr hn))
  exact ⟨(y, z), ⟨c0, c1, rfl, hy, hz⟩, gy, gz⟩
/-- The fields lie one behind the other. -/
def inLine (P : Program) (t : TypeId) (fs : Array Field) : Bool :=
  P.cellsOf t == ((fs.toList.map (·.type)).map P.cellsOf).sum && (List.range fs.size).all (fun i => match fs[i]? with | some f => f.offset == (((fs.toList.map (·.type)).take i).map P.cellsOf).sum | none => false)
theorem opens_struct {α : Type} {P : Program} {t : TypeId} {fs : Array Field} {k : Kd α} {good : α → Prop} (ht : P.underlying t = some (.struct fs)) (hin : inLine P t fs = true) (h : OpensL P (fs.toList.map (·.type)) k good) : Opens P t k good := by
  intro H enc w spare held fuel cs d ps hr hl
  obtain ⟨xs, n, _, hx, hc, hlen, hi⟩ := DataW.trod_struct ht hr
  obtain ⟨rfl, _⟩ := Prod.mk.inj hx
  simp only [inLine, Bool.and_eq_true, beq_iff_eq, List.all_eq_true, List.mem_range] at hin
  have hs := seq_of (enc := enc) (P := P) (w := w) (spare := spare) (held := held) (fuel := n) (fs.toList.map (·.type)) cs xs 0 (by rw [hc, hin.1]; simp) (by simp [hlen]) (fun i t' ht' => by
    simp only [List.getElem?_map, Option.map_eq_some_iff] at ht'
    obtain ⟨f, hf, rfl⟩ := ht'
    have hf' : fs[i]? = some f := by simpa using hf
    have hlt : i < fs.size := (Array.getElem?_eq_some_iff.1 hf').1
    have ho := hin.2 i hlt
    rw [hf'] at ho
    simp only [beq_iff_eq] at ho
    rw [Nat.zero_add, ← ho]
    exact hi i f hf')
  rw [List.drop_zero] at hs
  exact h H enc w spare held n cs xs hs (fun m hm => hl m (by simpa [DataW.weights, ht] using hm))
theorem weightsAll_each {H : Type} (P : Program) (e : TypeId) (l : List (DataW H)) : DataW.weightsAll P e l = DataW.weightsEach P (List.replicate l.length e) l := by
  induction l with
  | nil => simp [DataW.weightsAll, DataW.weightsEach]
  | cons d l ih => simp [DataW.weightsAll, DataW.weightsEach, List.replicate_succ, ih]
theorem opens_array {α : Type} {P : Program} {t e : TypeId} {m : Nat} {k : Kd α} {good : α → Prop} (ht : P.underlying t = some (.array m e)) (hin : P.cellsOf t = m * P.cellsOf e) (h : OpensL P (List.replicate m e) k good) : Opens P t k good := by
  intro H enc w spare held fuel cs d ps hr hl
  obtain ⟨xs, n, _, hx, hc, hlen, hi⟩ := DataW.trod_array ht hr
  obtain ⟨rfl, _⟩ := Prod.mk.inj hx
  have hsum : ∀ j, ((List.replicate j e).map P.cellsOf).sum = j * P.cellsOf e := by
    intro j
    simp [List.map_replicate, List.sum_replicate_nat]
  have hs := seq_of (enc := enc) (P := P) (w := w) (spare := spare) (held := held) (fuel := n) (List.replicate m e) cs xs 0 (by rw [hc, hin, hsum]; simp) (by simp [hlen]) (fun i t' ht' => by
    obtain ⟨hlt, he⟩ := List.getElem?_eq_some_iff.1 ht'
    simp only [List.length_replicate] at hlt
    simp only [List.getElem_replicate] at he
    subst he
    rw [List.take_replicate, Nat.min_eq_left (Nat.le_of_lt hlt), hsum, Nat.zero_add]
    exact hi i hlt)
  rw [List.drop_zero] at hs
  refine h H enc w spare held n cs xs hs (fun q hq => hl q ?_)
  simp only [DataW.weights, ht]
  rw [weightsAll_each]
  simpa [hlen] using hq
theorem light_mem {H : Type} {P : Program} {e : TypeId} {l : List (DataW H)} {d : DataW H} (hd : d ∈ l) : ∀ n ∈ d.weights P e, n ∈ DataW.weightsAll P e l := by
  induction l with
  | nil => simp at hd
  | cons x l ih =>
    intro n hn
    simp only [DataW.weightsAll, List.mem_append]
    rcases List.mem_cons.1 hd with rfl | hd
    · exact .inl hn
    · exact .inr (ih hd n hn)
theorem opens_slice {α : Type} {P : Program} {t e : TypeId} {B : Nat} {k : Kd α} {good : α → Prop} (ht : P.underlying t = some (.slice e)) (hc : P.cellsOf e = k.sz) (hB : P.bytesOf e = B) (h : Opens P e k good) :
    Opens P t (Kd.slice e k) (fun l => l.length * B ≤ 140737488351232 ∧ ∀ x ∈ l, good x) := by
  intro H enc w spare held fuel cs d ps hr hl
  rcases Go.Deep.open_slice ht hr with ⟨rfl, _⟩ | ⟨a, len, cap, m, n, D, Pl, rfl, _, hlc, hcm, hm, hx, hi⟩
  · exact ⟨[], ⟨none, 0, rfl, by simp, by simp, by simp, fun h => by simp at h⟩, by simp, by simp⟩
  · obtain ⟨rfl, _⟩ := Prod.mk.inj hx
    have hlm : len ≤ m := by rw [hm]; split <;> omega
    have hel : ∀ i : Fin len, ∃ x, (∃ c, c.length = k.sz ∧ k.K w x c ∧ ∀ j u, c[j]? = some u → w.cell? (a.add (i.1 * k.sz + j)) = some u) ∧ good x := by
      intro i
      obtain ⟨cs', hcs, hrd⟩ := hi i.1 (by omega)
      obtain ⟨_, hcl, hat⟩ := World.cells?_some hcs
      obtain ⟨x, hK, hg⟩ := h H enc w spare held n cs' (D i.1) (Pl i.1) hrd (fun q hq => hl q (by
        simp only [DataW.weights, ht]
        refine List.mem_cons_of_mem _ (List.mem_append_left _ (light_mem (d := D i.1) (List.mem_map.2 ⟨i.1, List.mem_range.2 i.2, rfl⟩) q hq))))
      refine ⟨x, ⟨cs', by rw [hcl, hc], hK, fun j u hu => ?_⟩, hg⟩
      have hj : j < P.cellsOf e := by rw [← hcl]; exact (List.getElem?_eq_some_iff.1 hu).1
      rw [← hc, ← Go.Deep.add_add, hat j hj, hu]
    obtain ⟨f, hf⟩ := Classical.axiomOfChoice hel
    have hlen : (List.ofFn f).length = len := by simp
    have hw : len * B ≤ 140737488351232 := by
      have := hl ((((List.range len).map D).length + ((List.range (m - len)).map fun j => D (len + j)).length) * P.bytesOf e) (by simp [DataW.weights, ht])
      rw [hB] at this
      refine Nat.le_trans (Nat.mul_le_mul_right _ ?_) this
      simp
    refine ⟨List.ofFn f, ⟨some a, cap, by rw [hlen], by rw [hlen]; exact hlc, rfl, by rw [hlen]; have := hcm; unfold maxLen at this; omega, fun _ => ⟨a, rfl, fun j p hp => ?_⟩⟩, by rw [hlen]; exact hw, fun x hx => ?_⟩
    · obtain ⟨hj, he⟩ := List.getElem?_eq_some_iff.1 hp
      simp at hj
      simp at he
      subst he
      exact (hf ⟨j, hj⟩).1
    · obtain ⟨i, rfl⟩ := List.mem_ofFn.1 hx
      exact (hf i).2
/-- One argument, out of the row's words. -/
theorem light_of {H : Type} {P : Program} {ts : List TypeId} {ds : List (DataW H)} (h : (DataW.weightsEach P ts ds).all (· ≤ reachBytes) = true) {j : Nat} {t : TypeId} {d : DataW H} (ht : ts[j]? = some t) (hd : ds[j]? = some d) : Light P t d := by
  intro n hn
  have := List.all_eq_true.1 h _ (DataW.weights_mem_each ht hd n hn)
  exact of_decide_eq_true this
theorem okWide_array {P : Program} {w : World} {r : Reach} {base n : Nat} {t e : TypeId} {v : Value} (ht : P.underlying t = some (.array n e)) (h : Value.okWide P w r base t v) : ∃ cs, v = .agg cs ∧ cs.size = P.cellsOf t := by
  simp only [Value.okWide, ht] at h
  obtain ⟨cs, h1, h2, _⟩ := h
  exact ⟨cs, h1, h2⟩
theorem agg_of {cs : Array Value} {l : List Value} (h : cs.toList = l) : cs = l.toArray := by
  rw [← h]
end Go.Proofs.YtkdkdhbkmhkjfaaW.PrintWords

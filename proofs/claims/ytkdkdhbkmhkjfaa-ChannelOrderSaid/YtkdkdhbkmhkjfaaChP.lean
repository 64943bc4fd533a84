/- Plain laws of the channel. No Go, no memory. -/
namespace Go.Proofs.Ytkdkdhbkmhkjfaa.ChP

structure Ft where
  kind : Int
  n : Int
def zF : Ft := ⟨0, 0⟩
def right (f : Ft) : Bool := if f.kind = 0 ∨ f.kind = 1 then decide (f.n = 0) else if f.kind = 2 ∨ f.kind = 3 then decide (0 ≤ f.n ∧ f.n ≤ 65536) else false
def numsOk (dl rt rm : Int) : Bool := decide (1 ≤ dl ∧ dl ≤ 65536 ∧ 1 ≤ rt ∧ rt ≤ 1048576 ∧ 0 ≤ rm ∧ rm ≤ 65536)
def valid (dl rt rm : Int) (sc : List Ft) : Bool := numsOk dl rt rm && sc.all right
def gl (l : List Int) (i : Nat) : Int := l.getD i 0
def last (l : List Int) : Int := gl l (l.length - 1)
def dep (rt : Int) (l : List Int) (now : Int) : Int := if l.length = 0 then now else if last l < now then now else if rt ≤ (l.length : Int) ∧ gl l (l.length - rt.toNat) = last l then last l + 1 else last l
def wait (l : List Int) (now : Int) : Nat := (l.filter (fun t => decide (now < t))).length
def cnt (l : List Int) (t : Int) : Nat := (l.filter (fun x => decide (x = t))).length
def rtick (l : List Int) (now : Int) : Int := if l.length = 0 then now else max now (last l)
def rdep (rt : Int) (l : List Int) (now : Int) : Int := if rt ≤ (cnt l (rtick l now) : Int) then rtick l now + 1 else rtick l now
def full (rt rm : Int) (ds : List Int) (now : Int) : Bool := decide (now < dep rt ds now) && decide (rm ≤ (wait ds now : Int))
def arr (f : Ft) (t : Int) : List Int := if f.kind = 0 then [t] else if f.kind = 1 then [] else if f.kind = 2 then [t, t + f.n] else [t + f.n]
structure Inv (ds : List Int) : Prop where
  sorted : ds.Pairwise (· ≤ ·)
  bound : ∀ t ∈ ds, 0 ≤ t ∧ t ≤ 1073741824 + (ds.length : Int)
  len : ds.length ≤ 100000
theorem gl_mem {l : List Int} {i : Nat} (h : i < l.length) : gl l i ∈ l := by simp [gl, List.getD_eq_getElem?_getD, List.getElem?_eq_getElem h]
theorem gl_get {l : List Int} {i : Nat} (h : i < l.length) : gl l i = l[i] := by simp [gl, List.getD_eq_getElem?_getD, List.getElem?_eq_getElem h]
theorem Inv.le {ds : List Int} (h : Inv ds) {i j : Nat} (hij : i ≤ j) (hj : j < ds.length) : gl ds i ≤ gl ds j := by
  rcases Nat.lt_or_eq_of_le hij with h1 | rfl
  · rw [gl_get (by omega), gl_get hj]
    exact List.pairwise_iff_getElem.1 h.sorted i j (by omega) hj h1
  · exact Int.le_refl _
theorem Inv.at_ {ds : List Int} (h : Inv ds) {i : Nat} (hi : i < ds.length) : 0 ≤ gl ds i ∧ gl ds i ≤ 1073741824 + (ds.length : Int) := h.bound _ (gl_mem hi)
theorem Inv.nil : Inv [] := ⟨List.Pairwise.nil, fun _ h => by simp at h, by simp⟩
theorem Inv.last_ge {ds : List Int} (h : Inv ds) : ∀ t ∈ ds, t ≤ last ds := by
  intro t ht
  obtain ⟨i, hi, rfl⟩ := List.getElem_of_mem ht
  rw [← gl_get hi]
  exact h.le (by omega) (by omega)
theorem dep_ge {rt : Int} {ds : List Int} {now : Int} (h : Inv ds) : now ≤ dep rt ds now ∧ ∀ t ∈ ds, t ≤ dep rt ds now := by
  unfold dep
  by_cases c1 : ds.length = 0
  · have := List.eq_nil_of_length_eq_zero c1
    subst this
    simp
  · rw [if_neg c1]
    by_cases c2 : last ds < now
    · rw [if_pos c2]
      exact ⟨Int.le_refl _, fun t ht => by have := h.last_ge t ht; omega⟩
    · rw [if_neg c2]
      split
      · exact ⟨by omega, fun t ht => by have := h.last_ge t ht; omega⟩
      · exact ⟨by omega, fun t ht => h.last_ge t ht⟩
theorem dep_bound {rt : Int} {ds : List Int} {now : Int} (h : Inv ds) (h0 : 0 ≤ now) (h1 : now ≤ 1073741824) : 0 ≤ dep rt ds now ∧ dep rt ds now ≤ 1073741824 + (ds.length : Int) + 1 := by
  unfold dep
  by_cases c1 : ds.length = 0
  · rw [if_pos c1]; omega
  · rw [if_neg c1]
    have hl : 0 ≤ last ds ∧ last ds ≤ 1073741824 + (ds.length : Int) := h.at_ (by omega)
    by_cases c2 : last ds < now
    · rw [if_pos c2]; omega
    · rw [if_neg c2]
      split <;> omega
theorem Inv.push {rt : Int} {ds : List Int} {now : Int} (h : Inv ds) (h0 : 0 ≤ now) (h1 : now ≤ 1073741824) (hl : ds.length + 1 ≤ 100000) : Inv (ds ++ [dep rt ds now]) := by
  refine ⟨List.pairwise_append.2 ⟨h.sorted, by simp, fun a ha b hb => ?_⟩, fun t ht => ?_, by simpa using hl⟩
  · simp only [List.mem_singleton] at hb
    rw [hb]
    exact (dep_ge h).2 a ha
  · rw [List.length_append, List.length_singleton]
    rcases List.mem_append.1 ht with h2 | h2
    · have := h.bound t h2; omega
    · simp only [List.mem_singleton] at h2
      rw [h2]
      have := dep_bound (rt := rt) h h0 h1
      omega
/-- Sorted: those above a bound are the last ones. -/
theorem wait_spec {ds : List Int} (hs : ds.Pairwise (· ≤ ·)) (now : Int) : wait ds now ≤ ds.length ∧ (∀ i, i < ds.length → (now < gl ds i ↔ ds.length - wait ds now ≤ i)) := by
  induction ds with
  | nil => exact ⟨Nat.le_refl _, fun i hi => by simp at hi⟩
  | cons x l ih =>
    obtain ⟨h1, h2⟩ := List.pairwise_cons.1 hs
    obtain ⟨i1, i2⟩ := ih h2
    by_cases c : now < x
    · have hall : l.filter (fun t => decide (now < t)) = l := by
        rw [List.filter_eq_self]
        intro t ht
        have := h1 t ht
        simp; omega
      have hw : wait (x :: l) now = l.length + 1 := by simp [wait, c, hall]
      refine ⟨by rw [hw]; simp, fun i hi => ?_⟩
      rw [hw]
      simp only [List.length_cons, Nat.sub_self, Nat.zero_le, iff_true]
      cases i with
      | zero => exact c
      | succ i =>
        have hi2 : i < l.length := by simpa using hi
        have h3 := h1 _ (gl_mem hi2)
        show now < gl l i
        omega
    · have hw : wait (x :: l) now = wait l now := by simp [wait, c]
      refine ⟨by rw [hw]; simp; omega, fun i hi => ?_⟩
      rw [hw]
      simp only [List.length_cons] at hi ⊢
      cases i with
      | zero => 
        have : gl (x :: l) 0 = x := rfl
        rw [this]
        omega
      | succ i =>
        have h3 := i2 i (by omega)
        have : gl (x :: l) (i + 1) = gl l i := rfl
        rw [this, h3]
        omega
theorem cnt_last {ds : List Int} (h : Inv ds) {rt : Int} (hr : 1 ≤ rt) (hn : 0 < ds.length) : rt ≤ (cnt ds (last ds) : Int) ↔ rt ≤ (ds.length : Int) ∧ gl ds (ds.length - rt.toNat) = last ds := by
  have hw := wait_spec h.sorted (last ds - 1)
  have hc : cnt ds (last ds) = wait ds (last ds - 1) := by
    unfold cnt wait
    congr 1
    apply List.filter_congr
    intro t ht
    have := h.last_ge t ht
    rw [Bool.eq_iff_iff]
    simp
    omega
  rw [hc]
  obtain ⟨w1, w2⟩ := hw
  constructor
  · intro h1
    refine ⟨by omega, ?_⟩
    have h2 := (w2 (ds.length - rt.toNat) (by omega)).2 (by omega)
    have h3 := h.last_ge _ (gl_mem (l := ds) (i := ds.length - rt.toNat) (by omega))
    omega
  · rintro ⟨h1, h2⟩
    have h3 := (w2 (ds.length - rt.toNat) (by omega)).1 (by omega)
    omega
theorem rdep_eq {ds : List Int} (h : Inv ds) {rt now : Int} (hr : 1 ≤ rt) : rdep rt ds now = dep rt ds now := by
  unfold rdep dep
  by_cases c1 : ds.length = 0
  · have := List.eq_nil_of_length_eq_zero c1
    subst this
    have : ¬ rt ≤ (cnt [] (rtick [] now) : Int) := by simp [cnt]; omega
    rw [if_neg this]
    simp [rtick]
  · rw [if_neg c1]
    by_cases c2 : last ds < now
    · rw [if_pos c2]
      have ht : rtick ds now = now := by unfold rtick; rw [if_neg c1]; omega
      rw [ht]
      have hc : cnt ds now = 0 := by
        unfold cnt
        rw [List.length_eq_zero_iff, List.filter_eq_nil_iff]
        intro t hm
        have := h.last_ge t hm
        simp; omega
      rw [hc, if_neg (by omega)]
    · rw [if_neg c2]
      have ht : rtick ds now = last ds := by unfold rtick; rw [if_neg c1]; omega
      rw [ht]
      by_cases c3 : rt ≤ (cnt ds (last ds) : Int)
      · rw [if_pos c3, if_pos ((cnt_last h hr (by omega)).1 c3)]
      · rw [if_neg c3, if_neg (fun q => c3 ((cnt_last h hr (by omega)).2 q))]
end Go.Proofs.Ytkdkdhbkmhkjfaa.ChP

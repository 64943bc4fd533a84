import Derived.Test.YtpliaagfhjnnaaaHeapP
namespace Go.Proofs.Ytpliaagfhjnnaaa.EvP
open Go.Proofs.Ytpliaagfhjnnaaa.HeapP
set_option linter.unusedVariables false

/-! The plain part of the queue of events. -/
structure Ev where
  id : Int
  time : Int
  data : Int
def z : Ev := ⟨0, 0, 0⟩
def rank (e : Ev) : Int := e.time * 4294967296 + e.id
def pe (l : List Ev) (i : Nat) : Ev := l.getD i z
theorem pe_set (xs : List Ev) (a i : Nat) (v : Ev) : pe (xs.set a v) i = if i = a ∧ a < xs.length then v else pe xs i := by
  simp only [pe, List.getD_eq_getElem?_getD, List.getElem?_set]
  by_cases h : a = i
  · subst h
    by_cases h2 : a < xs.length
    · simp [h2]
    · simp [h2]
  · simp [h, Ne.symm h]
theorem pe_set_same (xs : List Ev) (a : Nat) (v : Ev) (h : a < xs.length) : pe (xs.set a v) a = v := by rw [pe_set, if_pos ⟨rfl, h⟩]
theorem pe_set_ne (xs : List Ev) {a i : Nat} (v : Ev) (h : i ≠ a) : pe (xs.set a v) i = pe xs i := by rw [pe_set, if_neg (fun c => h c.1)]
theorem pe_snoc (xs : List Ev) (v : Ev) {j : Nat} (h : j < xs.length) : pe (xs ++ [v]) j = pe xs j := by simp [pe, List.getElem?_append_left h]
theorem pe_mem {xs : List Ev} {i : Nat} (h : i < xs.length) : pe xs i ∈ xs := by simp [pe, List.getD_eq_getElem?_getD, List.getElem?_eq_getElem h]
theorem pe_get {xs : List Ev} {i : Nat} (h : i < xs.length) : pe xs i = xs[i] := by simp [pe, List.getD_eq_getElem?_getD, List.getElem?_eq_getElem h]
def drop (E : List Ev) (id : Int) : List Ev := E.filter fun x => decide (x.id ≠ id)
structure Inv (E : List Ev) (last now : Int) (PL : List Ev) (FR : List Int) (Has : List Bool) (ks : List Int) (M : Int → Option Int) : Prop where
  sorted : E.Pairwise (fun a b => a.id < b.id)
  ids : ∀ e ∈ E, 1 ≤ e.id ∧ e.id ≤ last
  times : ∀ e ∈ E, now ≤ e.time ∧ e.time ≤ 1073741824
  now0 : 0 ≤ now ∧ now ≤ 1073741824
  last0 : 0 ≤ last
  hl : Has.length = 65536
  kl : ks.length = 65536
  cnt : Has.count true = E.length
  on : ∀ a, gb Has a = true → a < PL.length ∧ pe PL a ∈ E ∧ gi ks a = rank (pe PL a)
  ex : ∀ e ∈ E, ∃ a, gb Has a = true ∧ pe PL a = e
  uq : ∀ a b, gb Has a = true → gb Has b = true → (pe PL a).id = (pe PL b).id → a = b
  fr : ∀ x ∈ FR, ∃ a : Nat, x = (a : Int) ∧ a < PL.length ∧ gb Has a = false
  nd : FR.Nodup
  fl : PL.length = FR.length + E.length
  pm : PL.length ≤ 65536
  mp : ∀ id v, M id = some v ↔ ∃ a : Nat, v = (a : Int) ∧ gb Has a = true ∧ (pe PL a).id = id
section
variable {E : List Ev} {last now : Int} {PL : List Ev} {FR : List Int} {Has : List Bool} {ks : List Int} {M : Int → Option Int}
/-- A new place. -/
theorem Inv.grow (h : Inv E last now PL [] Has ks M) (hlt : E.length < 65536) : Inv E last now (PL ++ [z]) [(PL.length : Int)] Has ks M := by
  have hfl := h.fl
  simp at hfl
  refine ⟨h.sorted, h.ids, h.times, h.now0, h.last0, h.hl, h.kl, h.cnt, fun a ha => ?_, fun e he => ?_, fun a b ha hb e => ?_, fun x hx => ?_, by simp, by simp; omega, by simp; omega, fun id v => ?_⟩
  · obtain ⟨l, m, k⟩ := h.on a ha
    rw [pe_snoc _ _ l]
    exact ⟨by simp; omega, m, k⟩
  · obtain ⟨a, ha, e1⟩ := h.ex e he
    exact ⟨a, ha, by rw [pe_snoc _ _ (h.on a ha).1]; exact e1⟩
  · rw [pe_snoc _ _ (h.on a ha).1, pe_snoc _ _ (h.on b hb).1] at e
    exact h.uq a b ha hb e
  · simp only [List.mem_singleton] at hx
    refine ⟨PL.length, hx, by simp, ?_⟩
    cases hb : gb Has PL.length with
    | false => rfl
    | true => have := (h.on _ hb).1; omega
  · rw [h.mp]
    constructor
    · rintro ⟨a, e, ha, e2⟩
      exact ⟨a, e, ha, by rw [pe_snoc _ _ (h.on a ha).1]; exact e2⟩
    · rintro ⟨a, e, ha, e2⟩
      exact ⟨a, e, ha, by rw [pe_snoc _ _ (h.on a ha).1] at e2; exact e2⟩
/-- An event is added. -/
theorem Inv.add {F0 : List Int} {a : Nat} (h : Inv E last now PL (F0 ++ [(a : Int)]) Has ks M) (t d : Int) (ht : now ≤ t ∧ t ≤ 1073741824) : Inv (E ++ [⟨last + 1, t, d⟩]) (last + 1) now (PL.set a ⟨last + 1, t, d⟩) F0 (Has.set a true) (ks.set a (rank ⟨last + 1, t, d⟩)) (fun id => if id = last + 1 then some (a : Int) else M id) := by
  obtain ⟨a', ea, al, ab⟩ := h.fr (a : Int) (by simp)
  obtain rfl : a' = a := by omega
  have hpm := h.pm
  have hhl := h.hl
  have hkl := h.kl
  have hl0 := h.last0
  have far : ∀ b, b ≠ a' → gb Has b = true → (pe PL b).id ≤ last := fun b _ hb => (h.ids _ (h.on b hb).2.1).2
  refine ⟨?_, fun e he => ?_, fun e he => ?_, h.now0, by omega, by simpa using h.hl, by simpa using h.kl, ?_, fun b hb => ?_, fun e he => ?_, fun b c hb hc e => ?_, fun x hx => ?_, (List.nodup_append.1 h.nd).1, ?_, by simpa using h.pm, fun id v => ?_⟩
  · rw [List.pairwise_append]
    refine ⟨h.sorted, by simp, fun x hx y hy => ?_⟩
    simp only [List.mem_singleton] at hy
    subst hy
    have := (h.ids x hx).2
    show x.id < last + 1
    omega
  · rcases List.mem_append.1 he with he | he
    · have := h.ids e he; omega
    · simp only [List.mem_singleton] at he
      subst he
      constructor <;> simp <;> omega
  · rcases List.mem_append.1 he with he | he
    · exact h.times e he
    · simp only [List.mem_singleton] at he
      subst he
      exact ht
  · have := count_set Has a' true (by omega)
    rw [ab] at this
    have := h.cnt
    simp at *
    omega
  · by_cases c : b = a'
    · subst c
      rw [pe_set_same _ _ _ al, gi_set_same _ _ _ (by omega)]
      exact ⟨by simpa using al, by simp, rfl⟩
    · rw [gb_set_ne _ _ c] at hb
      rw [pe_set_ne _ _ c, gi_set_ne _ _ c]
      obtain ⟨l, m, k⟩ := h.on b hb
      exact ⟨by simpa using l, List.mem_append_left _ m, k⟩
  · rcases List.mem_append.1 he with he | he
    · obtain ⟨b, hb, e1⟩ := h.ex e he
      have c : b ≠ a' := fun c => by subst c; rw [ab] at hb; cases hb
      exact ⟨b, by rw [gb_set_ne _ _ c]; exact hb, by rw [pe_set_ne _ _ c]; exact e1⟩
    · simp only [List.mem_singleton] at he
      subst he
      exact ⟨a', gb_set_same _ _ _ (by omega), pe_set_same _ _ _ al⟩
  · by_cases cb : b = a'
    · by_cases cc : c = a'
      · omega
      · subst cb
        rw [gb_set_ne _ _ cc] at hc
        rw [pe_set_same _ _ _ al, pe_set_ne _ _ cc] at e
        have := far c cc hc
        simp at e
        omega
    · rw [gb_set_ne _ _ cb] at hb
      by_cases cc : c = a'
      · subst cc
        rw [pe_set_same _ _ _ al, pe_set_ne _ _ cb] at e
        have := far b cb hb
        simp at e
        omega
      · rw [gb_set_ne _ _ cc] at hc
        rw [pe_set_ne _ _ cb, pe_set_ne _ _ cc] at e
        exact h.uq b c hb hc e
  · obtain ⟨b, e1, l1, g1⟩ := h.fr x (List.mem_append_left _ hx)
    have c : b ≠ a' := fun c => by
      subst c
      have := (List.nodup_append.1 h.nd).2.2 x hx (b : Int) (by simp)
      exact this e1
    exact ⟨b, e1, by simpa using l1, by rw [gb_set_ne _ _ c]; exact g1⟩
  · have := h.fl
    simp at this ⊢
    omega
  · by_cases c : id = last + 1
    · simp only [c, if_true]
      constructor
      · intro e
        exact ⟨a', by injection e with e; exact e.symm, gb_set_same _ _ _ (by omega), by rw [pe_set_same _ _ _ al]⟩
      · rintro ⟨b, e, hb, e2⟩
        by_cases cb : b = a'
        · rw [e, cb]
        · rw [gb_set_ne _ _ cb] at hb
          rw [pe_set_ne _ _ cb] at e2
          have := far b cb hb
          omega
    · simp only [if_neg c, h.mp]
      constructor
      · rintro ⟨b, e, hb, e2⟩
        have cb : b ≠ a' := fun c => by subst c; rw [ab] at hb; cases hb
        exact ⟨b, e, by rw [gb_set_ne _ _ cb]; exact hb, by rw [pe_set_ne _ _ cb]; exact e2⟩
      · rintro ⟨b, e, hb, e2⟩
        by_cases cb : b = a'
        · subst cb
          rw [pe_set_same _ _ _ al] at e2
          exact absurd e2.symm c
        · rw [gb_set_ne _ _ cb] at hb
          rw [pe_set_ne _ _ cb] at e2
          exact ⟨b, e, hb, e2⟩
theorem drop_sorted (h : E.Pairwise (fun a b => a.id < b.id)) (id : Int) : (drop E id).Pairwise (fun a b => a.id < b.id) := h.filter _
theorem mem_drop {x : Ev} {id : Int} : x ∈ drop E id ↔ x ∈ E ∧ x.id ≠ id := by simp [drop, List.mem_filter]
theorem drop_len (h : E.Pairwise (fun a b => a.id < b.id)) {e : Ev} (he : e ∈ E) : (drop E e.id).length + 1 = E.length := by
  induction E with
  | nil => cases he
  | cons x l ih =>
    rw [List.pairwise_cons] at h
    rcases List.mem_cons.1 he with rfl | he'
    · have : drop (e :: l) e.id = l := by
        simp only [drop, List.filter_cons]
        rw [if_neg (by simp)]
        rw [List.filter_eq_self]
        intro y hy
        have := h.1 y hy
        simp
        omega
      rw [this]
      simp
    · have hne : x.id ≠ e.id := by have := h.1 e he'; omega
      have : drop (x :: l) e.id = x :: drop l e.id := by
        simp only [drop, List.filter_cons]
        rw [if_pos (by simpa using hne)]
      rw [this]
      have := ih h.2 he'
      simp
      omega
/-- The event at a place goes. -/
theorem Inv.remove {a : Nat} (h : Inv E last now PL FR Has ks M) (ha : gb Has a = true) (now' : Int) (hn : now' = now ∨ (now' = (pe PL a).time ∧ ∀ x ∈ E, rank (pe PL a) ≤ rank x)) (hl : last < 4294967296) :
    Inv (drop E (pe PL a).id) last now' PL (FR ++ [(a : Int)]) (Has.set a false) ks (fun id => if id = (pe PL a).id then none else M id) := by
  obtain ⟨al, am, ak⟩ := h.on a ha
  have hhl : a < Has.length := by
    rcases Nat.lt_or_ge a Has.length with q | q
    · exact q
    · simp [gb, List.getElem?_eq_none q] at ha
  have hlen := drop_len h.sorted am
  have hnow : now ≤ now' ∧ now' ≤ 1073741824 ∧ ∀ x ∈ E, now' ≤ x.time := by
    rcases hn with rfl | ⟨rfl, hr⟩
    · exact ⟨Int.le_refl _, h.now0.2, fun x hx => (h.times x hx).1⟩
    · refine ⟨(h.times _ am).1, (h.times _ am).2, fun x hx => ?_⟩
      have h1 := hr x hx
      have h2 := h.ids x hx
      have h3 := h.ids _ am
      unfold rank at h1
      omega
  refine ⟨drop_sorted h.sorted _, fun e he => h.ids e (mem_drop.1 he).1, fun e he => ⟨hnow.2.2 e (mem_drop.1 he).1, (h.times e (mem_drop.1 he).1).2⟩, by have := h.now0; omega, h.last0, by simpa using h.hl, h.kl, ?_, fun b hb => ?_, fun e he => ?_, fun b c hb hc e => ?_, fun x hx => ?_, ?_, ?_, h.pm, fun id v => ?_⟩
  · have := count_set Has a false hhl
    rw [ha] at this
    have := h.cnt
    simp at *
    omega
  · have c : b ≠ a := fun c => by subst c; rw [gb_set_same _ _ _ hhl] at hb; cases hb
    rw [gb_set_ne _ _ c] at hb
    obtain ⟨l, m, k⟩ := h.on b hb
    exact ⟨l, mem_drop.2 ⟨m, fun e => c (h.uq b a hb ha e)⟩, k⟩
  · obtain ⟨m, hne⟩ := mem_drop.1 he
    obtain ⟨b, hb, e1⟩ := h.ex e m
    have c : b ≠ a := fun c => by subst c; exact hne (by rw [e1])
    exact ⟨b, by rw [gb_set_ne _ _ c]; exact hb, e1⟩
  · have cb : b ≠ a := fun c => by subst c; rw [gb_set_same _ _ _ hhl] at hb; cases hb
    have cc : c ≠ a := fun c => by subst c; rw [gb_set_same _ _ _ hhl] at hc; cases hc
    rw [gb_set_ne _ _ cb] at hb
    rw [gb_set_ne _ _ cc] at hc
    exact h.uq b c hb hc e
  · rcases List.mem_append.1 hx with hx | hx
    · obtain ⟨b, e1, l1, g1⟩ := h.fr x hx
      have c : b ≠ a := fun c => by subst c; rw [ha] at g1; cases g1
      exact ⟨b, e1, l1, by rw [gb_set_ne _ _ c]; exact g1⟩
    · simp only [List.mem_singleton] at hx
      exact ⟨a, hx, al, gb_set_same _ _ _ hhl⟩
  · rw [List.nodup_append]
    refine ⟨h.nd, by simp, fun x hx y hy => ?_⟩
    simp only [List.mem_singleton] at hy
    subst hy
    obtain ⟨b, e1, l1, g1⟩ := h.fr x hx
    intro e
    have : b = a := by omega
    subst this
    rw [ha] at g1
    cases g1
  · have := h.fl
    simp
    omega
  · by_cases c : id = (pe PL a).id
    · simp only [c, if_true]
      constructor
      · intro e; cases e
      · rintro ⟨b, e, hb, e2⟩
        have cb : b ≠ a := fun c => by subst c; rw [gb_set_same _ _ _ hhl] at hb; cases hb
        rw [gb_set_ne _ _ cb] at hb
        exact absurd (h.uq b a hb ha e2) cb
    · simp only [if_neg c, h.mp]
      constructor
      · rintro ⟨b, e, hb, e2⟩
        have cb : b ≠ a := fun q => by subst q; exact c e2.symm
        exact ⟨b, e, by rw [gb_set_ne _ _ cb]; exact hb, e2⟩
      · rintro ⟨b, e, hb, e2⟩
        have cb : b ≠ a := fun c => by subst c; rw [gb_set_same _ _ _ hhl] at hb; cases hb
        rw [gb_set_ne _ _ cb] at hb
        exact ⟨b, e, hb, e2⟩
/-- The next event. -/
def MinE (E : List Ev) (e : Ev) : Prop := e ∈ E ∧ ∀ x ∈ E, rank e ≤ rank x
theorem same_id (h : E.Pairwise (fun a b => a.id < b.id)) {x y : Ev} (hx : x ∈ E) (hy : y ∈ E) (e : x.id = y.id) : x = y := by
  induction E with
  | nil => cases hx
  | cons q l ih =>
    rw [List.pairwise_cons] at h
    rcases List.mem_cons.1 hx with rfl | _
    · rcases List.mem_cons.1 hy with rfl | hy2
      · rfl
      · have := h.1 y hy2; omega
    · rename_i hx2
      rcases List.mem_cons.1 hy with rfl | hy2
      · have := h.1 x hx2; omega
      · exact ih h.2 hx2 hy2
theorem MinE.same (hs : E.Pairwise (fun a b => a.id < b.id)) (hi : ∀ e ∈ E, 1 ≤ e.id ∧ e.id < 4294967296) {x y : Ev} (hx : MinE E x) (hy : MinE E y) : x = y := by
  have h1 := hx.2 y hy.1
  have h2 := hy.2 x hx.1
  have h3 := hi x hx.1
  have h4 := hi y hy.1
  refine same_id hs hx.1 hy.1 ?_
  unfold rank at h1 h2
  omega
theorem Inv.min (h : Inv E last now PL FR Has ks M) {a : Nat} (hL : Least Has ks a) : MinE E (pe PL a) := by
  obtain ⟨al, am, ak⟩ := h.on a hL.2.1
  refine ⟨am, fun x hx => ?_⟩
  obtain ⟨b, hb, e⟩ := h.ex x hx
  have hbl : b < Has.length := by
    rcases Nat.lt_or_ge b Has.length with q | q
    · exact q
    · simp [gb, List.getElem?_eq_none q] at hb
  have := hL.2.2 b hbl hb
  obtain ⟨_, _, bk⟩ := h.on b hb
  unfold lt at this
  simp only [Int.toNat_natCast] at this
  rw [bk, ak, e] at this
  omega
end
theorem Inv.start : Inv [] 0 0 [] [] (List.replicate 65536 false) (List.replicate 65536 0) (fun _ => none) := by
  have g : ∀ a, gb (List.replicate 65536 false) a = false := fun a => by
    simp only [gb, List.getD_eq_getElem?_getD, List.getElem?_replicate]
    split <;> rfl
  refine ⟨List.Pairwise.nil, fun _ h => absurd h (by simp), fun _ h => absurd h (by simp), by omega, by omega, List.length_replicate, List.length_replicate, ?_, fun a ha => ?_, fun _ h => absurd h (by simp), fun a b ha => ?_, fun _ h => absurd h (by simp), List.nodup_nil, rfl, by decide, fun id v => ?_⟩
  · rw [List.count_replicate, if_neg (by decide)]; rfl
  · rw [g] at ha; cases ha
  · rw [g] at ha; cases ha
  · constructor
    · intro e; cases e
    · rintro ⟨a, _, ha, _⟩
      rw [g] at ha; cases ha
/-- Taking out the i-th. -/
theorem drop_at {E : List Ev} (h : E.Pairwise (fun a b => a.id < b.id)) {i : Nat} (hi : i < E.length) : E.take i ++ E.drop (i + 1) = drop E (pe E i).id := by
  induction E generalizing i with
  | nil => simp at hi
  | cons x l ih =>
    rw [List.pairwise_cons] at h
    cases i with
    | zero =>
      simp only [List.take_zero, List.nil_append, List.drop_succ_cons, List.drop_zero, pe, List.getD_cons_zero, drop, List.filter_cons]
      rw [if_neg (by simp)]
      symm
      rw [List.filter_eq_self]
      intro y hy
      have := h.1 y hy
      simp
      omega
    | succ i =>
      have hi' : i < l.length := by simpa using hi
      have e1 : pe (x :: l) (i + 1) = pe l i := rfl
      have hne : x.id ≠ (pe l i).id := by have := h.1 _ (pe_mem hi'); omega
      rw [e1]
      simp only [List.take_succ_cons, List.drop_succ_cons, List.cons_append, EvP.drop, List.filter_cons]
      rw [if_pos (by simpa using hne)]
      congr 1
      exact ih h.2 hi'
end Go.Proofs.Ytpliaagfhjnnaaa.EvP

namespace Go.Proofs.Ytpliaagfhjnnaaa.HeapP

/-! The plain part of the heap: lists and orders alone. -/
def gi (xs : List Int) (i : Nat) : Int := xs.getD i 0
def gb (xs : List Bool) (i : Nat) : Bool := xs.getD i false
theorem gi_set (xs : List Int) (a i : Nat) (v : Int) : gi (xs.set a v) i = if i = a ∧ a < xs.length then v else gi xs i := by
  simp only [gi, List.getD_eq_getElem?_getD, List.getElem?_set]
  by_cases h : a = i
  · subst h
    by_cases h2 : a < xs.length
    · simp [h2]
    · simp [h2]
  · simp [h, Ne.symm h]
theorem gb_set (xs : List Bool) (a i : Nat) (v : Bool) : gb (xs.set a v) i = if i = a ∧ a < xs.length then v else gb xs i := by
  simp only [gb, List.getD_eq_getElem?_getD, List.getElem?_set]
  by_cases h : a = i
  · subst h
    by_cases h2 : a < xs.length
    · simp [h2]
    · simp [h2]
  · simp [h, Ne.symm h]
theorem gi_set_same (xs : List Int) (a : Nat) (v : Int) (h : a < xs.length) : gi (xs.set a v) a = v := by rw [gi_set, if_pos ⟨rfl, h⟩]
theorem gi_set_ne (xs : List Int) {a i : Nat} (v : Int) (h : i ≠ a) : gi (xs.set a v) i = gi xs i := by rw [gi_set, if_neg (fun c => h c.1)]
theorem gb_set_same (xs : List Bool) (a : Nat) (v : Bool) (h : a < xs.length) : gb (xs.set a v) a = v := by rw [gb_set, if_pos ⟨rfl, h⟩]
theorem gb_set_ne (xs : List Bool) {a i : Nat} (v : Bool) (h : i ≠ a) : gb (xs.set a v) i = gb xs i := by rw [gb_set, if_neg (fun c => h c.1)]
theorem gi_snoc_last (xs : List Int) (v : Int) : gi (xs ++ [v]) xs.length = v := by simp [gi]
theorem gi_snoc (xs : List Int) (v : Int) {j : Nat} (h : j < xs.length) : gi (xs ++ [v]) j = gi xs j := by simp [gi, List.getElem?_append_left h]
theorem gi_take (xs : List Int) {m j : Nat} (h : j < m) : gi (xs.take m) j = gi xs j := by simp [gi, h]

/-- The order of the items: by key, then by number. -/
def lt (ks : List Int) (x y : Int) : Prop := gi ks x.toNat < gi ks y.toNat ∨ (gi ks x.toNat = gi ks y.toNat ∧ x < y)
theorem lt_asymm {ks : List Int} {x y : Int} (h : lt ks x y) : ¬ lt ks y x := by unfold lt at *; omega
theorem ge_trans {ks : List Int} {x y z : Int} (h : ¬ lt ks x y) (k : ¬ lt ks y z) : ¬ lt ks x z := by unfold lt at *; omega
theorem ge_antisymm {ks : List Int} {x y : Int} (h : ¬ lt ks x y) (k : ¬ lt ks y x) : x = y := by unfold lt at *; omega
theorem lt_set {ks : List Int} {a : Nat} {v : Int} {x y : Int} (hx : x.toNat ≠ a) (hy : y.toNat ≠ a) : lt (ks.set a v) x y ↔ lt ks x y := by
  unfold lt; rw [gi_set_ne _ _ hx, gi_set_ne _ _ hy]

structure HS where
  it : List Int
  ks : List Int
  pl : List Int
structure Core (Has : List Bool) (s : HS) : Prop where
  kl : s.ks.length = Has.length
  pn : s.pl.length = Has.length
  itm : ∀ j, j < s.it.length → ∃ i : Nat, gi s.it j = (i : Int) ∧ i < Has.length ∧ gb Has i = true ∧ gi s.pl i = (j : Int)
  on : ∀ i, i < Has.length → gb Has i = true → ∃ j : Nat, j < s.it.length ∧ gi s.pl i = (j : Int) ∧ gi s.it j = (i : Int)
  off : ∀ i, i < Has.length → gb Has i = false → gi s.pl i = -1
  len : s.it.length = Has.count true
def put (s : HS) (i : Int) (a : Nat) : HS := ⟨s.it.set a i, s.ks, s.pl.set i.toNat a⟩
def sw (s : HS) (a b : Nat) : HS := ⟨(s.it.set a (gi s.it b)).set b (gi s.it a), s.ks, (s.pl.set (gi s.it b).toNat a).set (gi s.it a).toNat b⟩
theorem sw_len (s : HS) (a b : Nat) : (sw s a b).it.length = s.it.length := by simp [sw]
theorem sw_it {s : HS} {a b : Nat} (ha : a < s.it.length) (hb : b < s.it.length) (j : Nat) : gi (sw s a b).it j = if j = b then gi s.it a else if j = a then gi s.it b else gi s.it j := by
  simp only [sw]
  rw [gi_set]
  by_cases h : j = b
  · rw [if_pos ⟨h, by simpa using hb⟩, if_pos h]
  · rw [if_neg (fun c => h c.1), if_neg h, gi_set]
    by_cases h2 : j = a
    · rw [if_pos ⟨h2, ha⟩, if_pos h2]
    · rw [if_neg (fun c => h2 c.1), if_neg h2]
theorem Core.inj {Has : List Bool} {s : HS} (h : Core Has s) {a b : Nat} (ha : a < s.it.length) (hb : b < s.it.length) (e : gi s.it a = gi s.it b) : a = b := by
  obtain ⟨i, e1, _, _, e2⟩ := h.itm a ha
  obtain ⟨k, e3, _, _, e4⟩ := h.itm b hb
  have : i = k := by omega
  subst this
  omega
theorem Core.sw {Has : List Bool} {s : HS} (h : Core Has s) {a b : Nat} (ha : a < s.it.length) (hb : b < s.it.length) (hab : a ≠ b) : Core Has (sw s a b) := by
  obtain ⟨ia, ea, la, ba, pa⟩ := h.itm a ha
  obtain ⟨ib, eb, lb, bb, pb⟩ := h.itm b hb
  have hne : ia ≠ ib := fun e => hab (h.inj ha hb (by rw [ea, eb, e]))
  have hpl : ∀ i, gi (HeapP.sw s a b).pl i = if i = ia then (b : Int) else if i = ib then (a : Int) else gi s.pl i := by
    intro i
    have l1 := h.pn
    simp only [HeapP.sw, ea, eb, Int.toNat_natCast]
    rw [gi_set]
    by_cases c : i = ia
    · rw [if_pos ⟨c, by simp; omega⟩, if_pos c]
    · rw [if_neg (fun q => c q.1), if_neg c, gi_set]
      by_cases c2 : i = ib
      · rw [if_pos ⟨c2, by omega⟩, if_pos c2]
      · rw [if_neg (fun q => c2 q.1), if_neg c2]
  refine ⟨h.kl, by simp [HeapP.sw, h.pn], fun j hj => ?_, fun i hi hh => ?_, fun i hi hh => ?_, by rw [sw_len]; exact h.len⟩
  · rw [sw_len] at hj
    rw [sw_it ha hb]
    by_cases c : j = b
    · rw [if_pos c]
      exact ⟨ia, ea, la, ba, by rw [hpl, if_pos rfl, c]⟩
    · rw [if_neg c]
      by_cases c2 : j = a
      · rw [if_pos c2]
        exact ⟨ib, eb, lb, bb, by rw [hpl, if_neg (Ne.symm hne), if_pos rfl, c2]⟩
      · rw [if_neg c2]
        obtain ⟨i, e1, l1, b1, p1⟩ := h.itm j hj
        refine ⟨i, e1, l1, b1, ?_⟩
        rw [hpl, if_neg, if_neg, p1]
        · intro e; subst e; exact c (h.inj hj hb (by rw [e1, eb]))
        · intro e; subst e; exact c2 (h.inj hj ha (by rw [e1, ea]))
  · rw [hpl]
    obtain ⟨j, lj, pj, ej⟩ := h.on i hi hh
    by_cases c : i = ia
    · rw [if_pos c]
      exact ⟨b, by rw [sw_len]; exact hb, rfl, by rw [sw_it ha hb, if_pos rfl, ea, c]⟩
    · rw [if_neg c]
      by_cases c2 : i = ib
      · rw [if_pos c2]
        exact ⟨a, by rw [sw_len]; exact ha, rfl, by rw [sw_it ha hb, if_neg hab, if_pos rfl, eb, c2]⟩
      · rw [if_neg c2]
        refine ⟨j, by rw [sw_len]; exact lj, pj, ?_⟩
        rw [sw_it ha hb, if_neg, if_neg, ej]
        · intro e; subst e; omega
        · intro e; subst e; omega
  · rw [hpl, if_neg, if_neg]
    · exact h.off i hi hh
    · intro e; subst e; rw [bb] at hh; cases hh
    · intro e; subst e; rw [ba] at hh; cases hh

/-- No item comes before the one above it. -/
def ok (s : HS) (j : Nat) : Prop := ¬ lt s.ks (gi s.it j) (gi s.it ((j - 1) / 2))
def Heap (s : HS) : Prop := ∀ j, 0 < j → j < s.it.length → ok s j
/-- But for place a. -/
structure G (s : HS) (a : Nat) : Prop where
  far : ∀ j, 0 < j → j < s.it.length → j ≠ a → (j - 1) / 2 ≠ a → ok s j
  kin : 0 < a → ∀ c, 0 < c → c < s.it.length → (c - 1) / 2 = a → ¬ lt s.ks (gi s.it c) (gi s.it ((a - 1) / 2))
def D (s : HS) (a : Nat) : Prop := G s a ∧ (0 < a → ok s a)
theorem G.up {s : HS} {a : Nat} (h : G s a) (h0 : 0 < a) (ha : a < s.it.length) (hl : lt s.ks (gi s.it a) (gi s.it ((a - 1) / 2))) : G (sw s a ((a - 1) / 2)) ((a - 1) / 2) := by
  have hp : (a - 1) / 2 < a := by omega
  have hpl : (a - 1) / 2 < s.it.length := by omega
  have I := fun j => sw_it (s := s) ha hpl j
  refine ⟨fun j j0 jl n1 n2 => ?_, fun p0 c c0 cl e => ?_⟩
  · rw [sw_len] at jl
    unfold ok
    rw [I, I, if_neg n1, if_neg n2]
    by_cases c1 : j = a
    · subst c1; exact absurd rfl n2
    · rw [if_neg c1]
      by_cases c2 : (j - 1) / 2 = a
      · rw [if_pos c2]
        exact h.kin h0 j j0 jl c2
      · rw [if_neg c2]
        exact h.far j j0 jl c1 c2
  · rw [sw_len] at cl
    show ¬ lt s.ks _ _
    rw [I, I, if_neg (show ¬ ((a - 1) / 2 - 1) / 2 = (a - 1) / 2 by omega), if_neg (show ¬ ((a - 1) / 2 - 1) / 2 = a by omega), if_neg (show ¬ c = (a - 1) / 2 by omega)]
    have h2 : ok s ((a - 1) / 2) := h.far _ p0 hpl (by omega) (by omega)
    by_cases c1 : c = a
    · rw [if_pos c1]
      exact h2
    · rw [if_neg c1]
      have h3 : ok s c := h.far c c0 cl c1 (by omega)
      unfold ok at h3
      rw [e] at h3
      exact ge_trans h3 h2
theorem D.down {s : HS} {a k : Nat} (h : D s a) (k0 : 0 < k) (hk : k < s.it.length) (hp : (k - 1) / 2 = a) (hs : ∀ c, 0 < c → c < s.it.length → (c - 1) / 2 = a → ¬ lt s.ks (gi s.it c) (gi s.it k)) (hl : lt s.ks (gi s.it k) (gi s.it a)) : D (sw s a k) k := by
  have ha : a < k := by omega
  have hal : a < s.it.length := by omega
  have I := fun j => sw_it (s := s) hal hk j
  refine ⟨⟨fun j j0 jl n1 n2 => ?_, fun p0 c c0 cl e => ?_⟩, fun _ => ?_⟩
  · rw [sw_len] at jl
    unfold ok
    rw [I, I, if_neg n1, if_neg n2]
    by_cases c1 : j = a
    · subst c1
      rw [if_pos rfl, if_neg (by omega)]
      exact h.1.kin j0 k k0 hk hp
    · rw [if_neg c1]
      by_cases c2 : (j - 1) / 2 = a
      · rw [if_pos c2]
        exact hs j j0 jl c2
      · rw [if_neg c2]
        exact h.1.far j j0 jl c1 c2
  · rw [sw_len] at cl
    show ¬ lt s.ks _ _
    rw [I, I, if_neg (show ¬ c = k by omega), if_neg (show ¬ c = a by omega), hp, if_neg (show ¬ a = k by omega), if_pos rfl]
    have h3 : ok s c := h.1.far c c0 cl (by omega) (by omega)
    unfold ok at h3
    rw [e] at h3
    exact h3
  · unfold ok
    rw [I, I, if_pos rfl, hp, if_neg (show ¬ a = k by omega), if_pos rfl]
    exact lt_asymm hl
theorem D.heap {s : HS} {a : Nat} (h : D s a) (hs : ∀ c, 0 < c → c < s.it.length → (c - 1) / 2 = a → ¬ lt s.ks (gi s.it c) (gi s.it a)) : Heap s := by
  intro j j0 jl
  by_cases c1 : j = a
  · subst c1; exact h.2 j0
  · by_cases c2 : (j - 1) / 2 = a
    · have := hs j j0 jl c2
      unfold ok
      rw [c2]
      exact this
    · exact h.1.far j j0 jl c1 c2
/-- The first item comes before all others. -/
theorem Heap.first {s : HS} (h : Heap s) : ∀ n j, j < n → j < s.it.length → ¬ lt s.ks (gi s.it j) (gi s.it 0) := by
  intro n
  induction n with
  | zero => intro j hj; omega
  | succ n ih =>
    intro j hj hl
    by_cases c : j = 0
    · subst c; unfold lt; omega
    · exact ge_trans (h j (by omega) hl) (ih ((j - 1) / 2) (by omega) (by omega))

theorem count_set (xs : List Bool) : ∀ (i : Nat) (v : Bool), i < xs.length → (xs.set i v).count true + (if gb xs i = true then 1 else 0) = xs.count true + (if v = true then 1 else 0) := by
  induction xs with
  | nil => intro i v h; simp at h
  | cons x xs ih =>
    intro i v h
    cases i with
    | zero =>
      simp only [List.set_cons_zero, gb, List.getD_cons_zero, List.count_cons]
      cases x <;> cases v <;> simp
    | succ i =>
      have h2 := ih i v (by simpa using h)
      have h3 : gb (x :: xs) (i + 1) = gb xs i := rfl
      rw [h3]
      simp only [List.set_cons_succ, List.count_cons]
      omega
theorem Core.le {Has : List Bool} {s : HS} (h : Core Has s) : s.it.length ≤ Has.length := by rw [h.len]; exact List.count_le_length
/-- A key is changed. -/
theorem Heap.reset {Has : List Bool} {s : HS} (h : Heap s) (hc : Core Has s) {a : Nat} (ha : a < s.it.length) (i : Nat) (e : gi s.it a = (i : Int)) (v : Int) : G ⟨s.it, s.ks.set i v, s.pl⟩ a := by
  have off : ∀ j, j < s.it.length → j ≠ a → (gi s.it j).toNat ≠ i := fun j hj hn he => by
    obtain ⟨k, ek, _⟩ := hc.itm j hj
    exact hn (hc.inj hj ha (by rw [ek] at he; rw [ek, e]; omega))
  refine ⟨fun j j0 jl n1 n2 => ?_, fun p0 c c0 cl e2 => ?_⟩
  · have jl' : j < s.it.length := jl
    exact fun hh => h j j0 jl ((lt_set (off j jl' n1) (off _ (by omega) n2)).1 hh)
  · have cl' : c < s.it.length := cl
    have h1 := h c c0 cl'
    have h2 := h a p0 ha
    unfold ok at h1
    rw [e2] at h1
    exact fun hh => ge_trans h1 h2 ((lt_set (off c cl' (by omega)) (off _ (by omega) (by omega))).1 hh)
theorem Core.keys {Has : List Bool} {s : HS} (h : Core Has s) (i : Nat) (v : Int) : Core Has ⟨s.it, s.ks.set i v, s.pl⟩ := ⟨by simpa using h.kl, h.pn, h.itm, h.on, h.off, h.len⟩
/-- An item comes in. -/
theorem Core.push {Has : List Bool} {s : HS} (h : Core Has s) (i : Nat) (v : Int) (hi : i < Has.length) (hh : gb Has i = false) : Core (Has.set i true) ⟨s.it ++ [(i : Int)], s.ks.set i v, s.pl.set i s.it.length⟩ := by
  have l1 := h.pn
  refine ⟨by simpa using h.kl, by simpa using h.pn, fun j hj => ?_, fun k hk hb => ?_, fun k hk hb => ?_, ?_⟩
  · simp only [List.length_append, List.length_cons, List.length_nil] at hj
    by_cases c : j = s.it.length
    · subst c
      exact ⟨i, gi_snoc_last _ _, by simpa using hi, gb_set_same _ _ _ hi, gi_set_same _ _ _ (by omega)⟩
    · obtain ⟨k, e1, l2, b2, p2⟩ := h.itm j (by omega)
      have hne : k ≠ i := fun e => by subst e; rw [hh] at b2; cases b2
      exact ⟨k, by rw [gi_snoc _ _ (by omega)]; exact e1, by simpa using l2, by rw [gb_set_ne _ _ hne]; exact b2, by show gi (s.pl.set i _) k = _; rw [gi_set_ne _ _ hne]; exact p2⟩
  · show ∃ j : Nat, j < (s.it ++ [(i : Int)]).length ∧ gi (s.pl.set i _) k = _ ∧ gi (s.it ++ [(i : Int)]) j = _
    by_cases c : k = i
    · subst c
      exact ⟨s.it.length, by simp, gi_set_same _ _ _ (by omega), gi_snoc_last _ _⟩
    · rw [gb_set_ne _ _ c] at hb
      obtain ⟨j, lj, pj, ej⟩ := h.on k (by simpa using hk) hb
      exact ⟨j, by simp; omega, by rw [gi_set_ne _ _ c]; exact pj, by rw [gi_snoc _ _ lj]; exact ej⟩
  · have c : k ≠ i := fun e => by subst e; rw [gb_set_same _ _ _ hi] at hb; cases hb
    rw [gb_set_ne _ _ c] at hb
    show gi (s.pl.set i _) k = _
    rw [gi_set_ne _ _ c]
    exact h.off k (by simpa using hk) hb
  · have := count_set Has i true hi
    rw [hh] at this
    simp at this ⊢
    have := h.len
    omega
theorem Heap.push {Has : List Bool} {s : HS} (h : Heap s) (hc : Core Has s) (i : Nat) (v : Int) (hh : gb Has i = false) : G ⟨s.it ++ [(i : Int)], s.ks.set i v, s.pl.set i s.it.length⟩ s.it.length := by
  have off : ∀ j, j < s.it.length → (gi s.it j).toNat ≠ i := fun j hj he => by
    obtain ⟨k, ek, _, bk, _⟩ := hc.itm j hj
    rw [ek] at he
    have : k = i := by simpa using he
    subst this
    rw [hh] at bk
    cases bk
  refine ⟨fun j j0 jl n1 n2 => ?_, fun p0 c c0 cl e2 => ?_⟩
  · have jl' : j < s.it.length + 1 := by simpa using jl
    show ¬ lt (s.ks.set i v) (gi (s.it ++ [(i : Int)]) j) (gi (s.it ++ [(i : Int)]) ((j - 1) / 2))
    rw [gi_snoc _ _ (by omega), gi_snoc _ _ (by omega), lt_set (off j (by omega)) (off _ (by omega))]
    exact h j j0 (by omega)
  · have cl' : c < s.it.length + 1 := by simpa using cl
    exact absurd e2 (by omega)
/-- The last item goes. -/
theorem Core.pop {Has : List Bool} {s : HS} (h : Core Has s) {m i : Nat} (hm : s.it.length = m + 1) (e : gi s.it m = (i : Int)) : Core (Has.set i false) ⟨s.it.take m, s.ks, s.pl.set i (-1)⟩ := by
  have l1 := h.pn
  obtain ⟨i', e', li, bi, pi⟩ := h.itm m (by omega)
  obtain rfl : i' = i := by omega
  refine ⟨by simpa using h.kl, by simpa using h.pn, fun j hj => ?_, fun k hk hb => ?_, fun k hk hb => ?_, ?_⟩
  · have hj' : j < m := by simp [List.length_take] at hj; omega
    obtain ⟨k, e1, l2, b2, p2⟩ := h.itm j (by omega)
    have hne : k ≠ i' := fun e => by subst e; omega
    exact ⟨k, by show gi (s.it.take m) j = _; rw [gi_take _ hj']; exact e1, by simpa using l2, by rw [gb_set_ne _ _ hne]; exact b2, by show gi (s.pl.set i' _) k = _; rw [gi_set_ne _ _ hne]; exact p2⟩
  · have c : k ≠ i' := fun e => by subst e; rw [gb_set_same _ _ _ li] at hb; cases hb
    rw [gb_set_ne _ _ c] at hb
    obtain ⟨j, lj, pj, ej⟩ := h.on k (by simpa using hk) hb
    have hj' : j < m := by
      rcases Nat.lt_or_ge j m with q | q
      · exact q
      · exfalso
        have : j = m := by omega
        subst this
        rw [e] at ej
        exact c (by omega)
    exact ⟨j, by show j < (s.it.take m).length; simp [List.length_take]; omega, by show gi (s.pl.set i' _) k = _; rw [gi_set_ne _ _ c]; exact pj, by show gi (s.it.take m) j = _; rw [gi_take _ hj']; exact ej⟩
  · show gi (s.pl.set i' _) k = _
    by_cases c : k = i'
    · subst c
      exact gi_set_same _ _ _ (by omega)
    · rw [gb_set_ne _ _ c] at hb
      rw [gi_set_ne _ _ c]
      exact h.off k (by simpa using hk) hb
  · have := count_set Has i' false li
    rw [bi] at this
    have h2 := h.len
    simp [List.length_take] at this ⊢
    omega
theorem Heap.pop {s : HS} (h : Heap s) {m : Nat} (hm : s.it.length = m + 1) (pl : List Int) : Heap ⟨s.it.take m, s.ks, pl⟩ := by
  intro j j0 jl
  have jl' : j < m := by simp [List.length_take] at jl; omega
  show ¬ lt s.ks (gi (s.it.take m) j) (gi (s.it.take m) ((j - 1) / 2))
  rw [gi_take _ jl', gi_take _ (by omega)]
  exact h j j0 (by omega)
/-- An item goes, the last one comes into its place. -/
theorem Core.drop {Has : List Bool} {s : HS} (h : Core Has s) {m a i l : Nat} (hm : s.it.length = m + 1) (ha : a < m) (e : gi s.it a = (i : Int)) (el : gi s.it m = (l : Int)) : Core (Has.set i false) ⟨(s.it.take m).set a l, s.ks, (s.pl.set i (-1)).set l a⟩ := by
  have l1 := h.pn
  have h1 := (h.sw (a := a) (b := m) (by omega) (by omega) (by omega))
  have h2 : (HeapP.sw s a m).it.length = m + 1 := by rw [sw_len]; exact hm
  have h3 : gi (HeapP.sw s a m).it m = (i : Int) := by rw [sw_it (by omega) (by omega), if_pos rfl]; exact e
  have h4 := h1.pop h2 h3
  obtain ⟨i', ei, li, _, pi⟩ := h.itm a (by omega)
  obtain ⟨l', el', ll, _, pl⟩ := h.itm m (by omega)
  obtain rfl : i' = i := by omega
  obtain rfl : l' = l := by omega
  have hne : i' ≠ l' := fun q => by subst q; omega
  have e1 : (HeapP.sw s a m).it.take m = (s.it.take m).set a (l' : Int) := by
    simp only [HeapP.sw]
    rw [el, List.take_set, List.take_set]
    rw [List.set_eq_of_length_le (by simp [List.length_take]; omega)]
  have e2 : (HeapP.sw s a m).pl.set i' (-1) = (s.pl.set i' (-1)).set l' a := by
    simp only [HeapP.sw]
    rw [el, e, Int.toNat_natCast, Int.toNat_natCast, List.set_set, List.set_comm _ _ (Ne.symm hne)]
  rw [e1, e2] at h4
  exact h4
theorem Heap.drop {s : HS} (h : Heap s) {m a : Nat} {l : Int} (hm : s.it.length = m + 1) (ha : a < m) (pl : List Int) : G ⟨(s.it.take m).set a l, s.ks, pl⟩ a := by
  have I : ∀ j, j < m → j ≠ a → gi ((s.it.take m).set a l) j = gi s.it j := fun j hj hn => by rw [gi_set_ne _ _ hn, gi_take _ hj]
  refine ⟨fun j j0 jl n1 n2 => ?_, fun p0 c c0 cl e2 => ?_⟩
  · have jl' : j < m := by simp [List.length_take] at jl; omega
    show ¬ lt s.ks (gi ((s.it.take m).set a l) j) (gi ((s.it.take m).set a l) ((j - 1) / 2))
    rw [I j jl' n1, I _ (by omega) n2]
    exact h j j0 (by omega)
  · have cl' : c < m := by simp [List.length_take] at cl; omega
    show ¬ lt s.ks (gi ((s.it.take m).set a l) c) (gi ((s.it.take m).set a l) ((a - 1) / 2))
    rw [I c cl' (by omega), I _ (by omega) (by omega)]
    have h1 := h c c0 (by omega)
    unfold ok at h1
    rw [e2] at h1
    exact ge_trans h1 (h a p0 (by omega))
/-- Two puts are an exchange. -/
theorem put_put {s : HS} {i : Nat} {p : Nat} {a b : Nat} (ha : a < s.it.length) (hab : a ≠ b) (hp : gi s.it b = (p : Int)) (hne : i ≠ p) : put (put s p a) i b = sw (put s i a) a b := by
  have e1 : gi (s.it.set a (i : Int)) a = (i : Int) := gi_set_same _ _ _ ha
  have e2 : gi (s.it.set a (i : Int)) b = (p : Int) := by rw [gi_set_ne _ _ (Ne.symm hab), hp]
  simp only [put, sw, e1, e2, Int.toNat_natCast, List.set_set]
  rw [List.set_comm _ _ hne, List.set_set]
theorem set_self (xs : List Int) (a : Nat) (v : Int) (h : gi xs a = v) : xs.set a v = xs := by
  apply List.ext_getElem
  · simp
  · intro n h1 h2
    rw [List.getElem_set]
    split
    · rename_i e
      subst e
      rw [← h]
      simp [gi, List.getD_eq_getElem?_getD, List.getElem?_eq_getElem h2]
    · rfl
theorem put_self {Has : List Bool} {s : HS} (h : Core Has s) {a : Nat} (ha : a < s.it.length) : put s (gi s.it a) a = s := by
  obtain ⟨i, e, _, _, p⟩ := h.itm a ha
  simp only [put]
  rw [set_self _ _ _ rfl, e, Int.toNat_natCast, set_self _ _ _ p]
/-- What every item comes behind. -/
def Least (Has : List Bool) (ks : List Int) (i : Nat) : Prop := i < Has.length ∧ gb Has i = true ∧ ∀ k, k < Has.length → gb Has k = true → ¬ lt ks (k : Int) (i : Int)
theorem Least.same {Has : List Bool} {ks : List Int} {i k : Nat} (h : Least Has ks i) (h2 : Least Has ks k) : i = k := by
  have := ge_antisymm (h.2.2 k h2.1 h2.2.1) (h2.2.2 i h.1 h.2.1)
  omega
theorem Heap.least {Has : List Bool} {s : HS} (h : Heap s) (hc : Core Has s) (h0 : 0 < s.it.length) {i : Nat} (e : gi s.it 0 = (i : Int)) : Least Has s.ks i := by
  obtain ⟨i', e', li, bi, _⟩ := hc.itm 0 h0
  obtain rfl : i' = i := by omega
  refine ⟨li, bi, fun k hk hb => ?_⟩
  obtain ⟨j, lj, _, ej⟩ := hc.on k hk hb
  rw [← ej, ← e]
  exact h.first (j + 1) j (by omega) lj
theorem Core.none {Has : List Bool} {s : HS} (h : Core Has s) (h0 : s.it.length = 0) : ∀ i, i < Has.length → gb Has i = false := by
  intro i hi
  cases hb : gb Has i with
  | false => rfl
  | true =>
    obtain ⟨j, lj, _⟩ := h.on i hi hb
    omega
end Go.Proofs.Ytpliaagfhjnnaaa.HeapP

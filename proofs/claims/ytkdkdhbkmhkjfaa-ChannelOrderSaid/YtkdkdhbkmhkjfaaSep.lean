import Derived.Test.YtkdkdhbkmhkjfaaWWords
namespace Go.Proofs.Ytkdkdhbkmhkjfaa.Sep
open Go.RowKit Go.Proofs.YtkdkdhbkmhkjfaaW.PrintWords
/-- What is not in F is as it was. -/
structure Chg (F : Nat → Prop) (w w' : World) : Prop where
  os : w'.os = w.os
  tape : w'.tape = w.tape
  output : w'.output = w.output
  size : w.heap.size ≤ w'.heap.size
  block : ∀ k, k < w.heap.size → ¬ F k → w'.heap[k]? = w.heap[k]?
theorem Chg.refl (F : Nat → Prop) (w : World) : Chg F w w := ⟨rfl, rfl, rfl, Nat.le_refl _, fun _ _ _ => rfl⟩
theorem Chg.trans {F G : Nat → Prop} {w w1 w2 : World} (h : Chg F w w1) (k : Chg G w1 w2) (hs : ∀ i, i < w.heap.size → G i → F i) : Chg F w w2 :=
  ⟨k.os.trans h.os, k.tape.trans h.tape, k.output.trans h.output, Nat.le_trans h.size k.size, fun i hi hn => (k.block i (Nat.lt_of_lt_of_le hi h.size) (fun hg => hn (hs i hi hg))).trans (h.block i hi hn)⟩
theorem Chg.mono {F G : Nat → Prop} {w w1 : World} (h : Chg F w w1) (hs : ∀ i, i < w.heap.size → F i → G i) : Chg G w w1 :=
  ⟨h.os, h.tape, h.output, h.size, fun i hi hn => h.block i hi (fun hf => hn (hs i hi hf))⟩
theorem Chg.alloc {F : Nat → Prop} {w w1 : World} (h : Chg F w w1) (o : Obj) : Chg F w (w1.alloc o) :=
  h.trans (G := fun _ => False) ⟨rfl, rfl, rfl, by simp, fun k hk _ => Below.heap_alloc w1 o k hk⟩ (fun _ _ h => h.elim)
theorem Chg.setCell {F : Nat → Prop} {w w1 : World} (h : Chg F w w1) (p : Addr) (hp : p.block < w.heap.size → F p.block) (v : Value) : Chg F w (w1.setCell p v) :=
  h.trans (G := fun k => k = p.block) ⟨rfl, rfl, rfl, by simp, fun k _ hk => Below.heap_setCell w1 p v k hk⟩ (fun i hi e => by subst e; exact hp hi)
theorem Chg.drew {F : Nat → Prop} {w w1 : World} (h : Chg F w w1) : Chg F w w1.drew := ⟨h.os, h.tape, h.output, h.size, h.block⟩
theorem Chg.drewN {F : Nat → Prop} {w w1 : World} (h : Chg F w w1) (n : Nat) : Chg F w (w1.drewN n) := ⟨h.os, h.tape, h.output, h.size, h.block⟩
theorem Chg.undrewN {F : Nat → Prop} {w w1 : World} {n : Nat} (h : Chg F (w.drewN n) w1) : Chg F w w1 := ⟨h.os, h.tape, h.output, h.size, h.block⟩
theorem Chg.undrew {F : Nat → Prop} {w w1 : World} (h : Chg F w.drew w1) : Chg F w w1 := ⟨h.os, h.tape, h.output, h.size, h.block⟩
theorem Chg.grown {F : Nat → Prop} {w w1 w2 : World} {row : Option Nat} (h : Chg F w w1) (hg : w1.grownBy w2 row) (hr : ∀ k, row = some k → k < w.heap.size → F k) : Chg F w w2 :=
  h.trans (G := fun k => row = some k) ⟨hg.os, hg.tape, hg.output, hg.size, fun k hk hn => hg.block k hk (fun e => hn e.symm)⟩ (fun i hi e => hr i e hi)
theorem Chg.of_below {F : Nat → Prop} {w w1 : World} (h : Below w.heap.size w w1) : Chg F w w1 := ⟨h.os, h.tape, h.output, h.size, fun k hk _ => h.block k hk⟩
theorem Chg.below {F : Nat → Prop} {B : Nat} {w0 w w1 : World} (hb : Below B w0 w) (h : Chg F w w1) (hB : B ≤ w.heap.size) (hF : ∀ i, F i → B ≤ i) : Below B w0 w1 :=
  hb.trans ⟨h.os, h.tape, h.output, h.size, fun k hk => h.block k (Nat.lt_of_lt_of_le hk hB) (fun hf => absurd (hF k hf) (Nat.not_le.2 hk))⟩
theorem Chg.at_ {F : Nat → Prop} {w w1 : World} (h : Chg F w w1) {k : Nat} {o : Obj} (ho : w.heap[k]? = some o) (hn : ¬ F k) : w1.heap[k]? = some o :=
  (h.block k (Array.getElem?_eq_some_iff.1 ho).1 hn).trans ho
theorem own_at_blocks {w w1 : World} {base : Nat} {e : TypeId} {size n : Nat} {v : Value} {xs : List Value} (h : w.ownsRow base e size v n xs) (hk : ∀ k, v.ownBlock = some k → w1.heap[k]? = w.heap[k]?) : w1.ownsRow base e size v n xs := by
  refine ⟨h.1, ?_⟩
  rcases h.2 with h2 | ⟨g, cap, cur, rfl, hb, hh, hr⟩
  · exact .inl h2
  · exact .inr ⟨g, cap, cur, rfl, hb, (hk g rfl).trans hh, hr⟩
theorem Chg.own {F : Nat → Prop} {w w1 : World} {base : Nat} {e : TypeId} {size n : Nat} {v : Value} {xs : List Value} (h : Chg F w w1) (ho : w.ownsRow base e size v n xs) (hd : ∀ k, v.ownBlock = some k → ¬ F k) : w1.ownsRow base e size v n xs :=
  own_at_blocks ho (fun k hk => h.block k (own_lt ho k hk) (hd k hk))
/-- A slice of whole numbers of its own. -/
def OwnI (e : TypeId) (w : World) (v : Value) (xs : List Int) : Prop := w.ownsRow 0 e 1 v xs.length (nums .i64 xs)
def Ap (a b : Value) : Prop := a.ownBlock = none ∨ a.ownBlock ≠ b.ownBlock
theorem OwnI.form {e : TypeId} {w : World} {v : Value} {xs : List Int} (h : OwnI e w v xs) (hn : 0 < xs.length) : ∃ g c, v = .slice (some ⟨g, 0, none⟩) xs.length c ∧ g < w.heap.size := by
  obtain ⟨g, c, rfl, _, hl⟩ := World.ownsRow.form h hn
  exact ⟨g, c, rfl, hl⟩
theorem OwnI.slice {e : TypeId} {w : World} {v : Value} {xs : List Int} (h : OwnI e w v xs) : ∃ A c, v = .slice A xs.length c := own_slice h
theorem OwnI.cell {e : TypeId} {w : World} {g c n : Nat} {xs : List Int} (h : OwnI e w (.slice (some ⟨g, 0, none⟩) n c) xs) (i : Nat) (hi : i < xs.length) : w.cell? ⟨g, i, none⟩ = some (.int .i64 (xs.getD i 0)) := by
  have h2 := World.ownsRow.cells h (g := g) rfl i (.int .i64 (xs.getD i 0)) (by simp [nums, List.getElem?_eq_getElem hi, List.getD_eq_getElem?_getD])
  rwa [add_plain] at h2
theorem OwnI.free {e : TypeId} {w : World} {g c n : Nat} {xs : List Int} (h : OwnI e w (.slice (some ⟨g, 0, none⟩) n c) xs) (i : Nat) : w.frozen? ⟨g, i, none⟩ = false := by
  rcases h.2 with ⟨h', _⟩ | ⟨g', cap', cur, h', _, hh, _⟩
  · cases h'
  · have : g = g' := by injection h' with h'; injection h' with h'; injection h' with h'
    subst this
    simp [World.frozen?, hh]
theorem OwnI.len {e : TypeId} {w : World} {A : Option Addr} {c n : Nat} {xs : List Int} (h : OwnI e w (.slice A n c) xs) : n = xs.length := by
  rcases h.2 with ⟨h', h2⟩ | ⟨g', cap', cur, h', _⟩
  · injection h' with _ h3
    omega
  · injection h' with _ h3
theorem OwnI.lt {e : TypeId} {w : World} {v : Value} {xs : List Int} (h : OwnI e w v xs) (k : Nat) (hk : v.ownBlock = some k) : k < w.heap.size := own_lt h k hk
theorem OwnI.blocks {e : TypeId} {w w1 : World} {v : Value} {xs : List Int} (h : OwnI e w v xs) (hk : ∀ k, v.ownBlock = some k → w1.heap[k]? = w.heap[k]?) : OwnI e w1 v xs := own_at_blocks h hk
theorem OwnI.store {e : TypeId} {w : World} {g c n : Nat} {xs : List Int} (h : OwnI e w (.slice (some ⟨g, 0, none⟩) n c) xs) (i : Nat) (x : Int) : OwnI e (w.setCell ⟨g, i, none⟩ (.int .i64 x)) (.slice (some ⟨g, 0, none⟩) n c) (xs.set i x) := by
  obtain rfl := h.len
  have h2 := (own_store (k := .i64) h (i : Int) x).1
  unfold OwnI
  rw [List.length_set]
  simpa using h2
theorem OwnI.drewN {e : TypeId} {w : World} {v : Value} {xs : List Int} (h : OwnI e w v xs) (n : Nat) : OwnI e (w.drewN n) v xs := h.blocks (fun _ _ => rfl)
theorem OwnI.alloc {e : TypeId} {w : World} {v : Value} {xs : List Int} (h : OwnI e w v xs) (o : Obj) : OwnI e (w.alloc o) v xs := World.ownsRow.alloc h o
theorem OwnI.cut {e : TypeId} {w : World} {g c n m : Nat} {xs : List Int} (h : OwnI e w (.slice (some ⟨g, 0, none⟩) n c) xs) (hm : m ≤ n) : OwnI e w (.slice (some ⟨g, 0, none⟩) m c) (xs.take m) := by
  have hl := OwnI.len h
  refine ⟨by simp [nums], ?_⟩
  rcases h.2 with ⟨h', _⟩ | ⟨g', cap', cur, h', hb, hh, hn, hc, hs, ht⟩
  · cases h'
  · injection h' with h1 h2 h3
    injection h1 with h1
    injection h1 with h1
    subst h1 h3
    have e1 : (xs.take m).length = m := by simp [List.length_take]; omega
    refine .inr ⟨g, c, cur, by rw [e1], hb, hh, by omega, hc, hs, ?_⟩
    rw [e1, Nat.mul_one]
    have : nums .i64 (xs.take m) = (nums .i64 xs).take m := by simp [nums, List.map_take]
    rw [this, ← ht, Nat.mul_one, List.take_take]
    congr 1
    omega
theorem OwnI.cap {e : TypeId} {w : World} {g c n : Nat} {xs : List Int} (h : OwnI e w (.slice (some ⟨g, 0, none⟩) n c) xs) : n ≤ c := by
  rcases h.2 with ⟨h', _⟩ | ⟨g', cap', cur, h', _, _, hn, _⟩
  · cases h'
  · injection h' with h1 h2 h3
    omega
/-- A slice of bools of its own. -/
def OwnB (e : TypeId) (w : World) (v : Value) (xs : List Bool) : Prop := w.ownsRow 0 e 1 v xs.length (bools xs)
theorem OwnB.cell {e : TypeId} {w : World} {g c n : Nat} {xs : List Bool} (h : OwnB e w (.slice (some ⟨g, 0, none⟩) n c) xs) (i : Nat) (hi : i < xs.length) : w.cell? ⟨g, i, none⟩ = some (.bool (xs.getD i false)) := by
  have h2 := World.ownsRow.cells h (g := g) rfl i (.bool (xs.getD i false)) (by simp [bools, List.getElem?_eq_getElem hi, List.getD_eq_getElem?_getD])
  rwa [add_plain] at h2
theorem OwnB.free {e : TypeId} {w : World} {g c n : Nat} {xs : List Bool} (h : OwnB e w (.slice (some ⟨g, 0, none⟩) n c) xs) (i : Nat) : w.frozen? ⟨g, i, none⟩ = false := by
  rcases h.2 with ⟨h', _⟩ | ⟨g', cap', cur, h', _, hh, _⟩
  · cases h'
  · have : g = g' := by injection h' with h'; injection h' with h'; injection h' with h'
    subst this
    simp [World.frozen?, hh]
theorem OwnB.form {e : TypeId} {w : World} {v : Value} {xs : List Bool} (h : OwnB e w v xs) (hn : 0 < xs.length) : ∃ g c, v = .slice (some ⟨g, 0, none⟩) xs.length c ∧ g < w.heap.size := by
  obtain ⟨g, c, rfl, _, hl⟩ := World.ownsRow.form h hn
  exact ⟨g, c, rfl, hl⟩
theorem OwnB.slice {e : TypeId} {w : World} {v : Value} {xs : List Bool} (h : OwnB e w v xs) : ∃ A c, v = .slice A xs.length c := own_slice h
theorem OwnB.lt {e : TypeId} {w : World} {v : Value} {xs : List Bool} (h : OwnB e w v xs) (k : Nat) (hk : v.ownBlock = some k) : k < w.heap.size := own_lt h k hk
theorem OwnB.blocks {e : TypeId} {w w1 : World} {v : Value} {xs : List Bool} (h : OwnB e w v xs) (hk : ∀ k, v.ownBlock = some k → w1.heap[k]? = w.heap[k]?) : OwnB e w1 v xs := own_at_blocks h hk
theorem OwnB.store {e : TypeId} {w : World} {g c n : Nat} {xs : List Bool} (h : OwnB e w (.slice (some ⟨g, 0, none⟩) n c) xs) (i : Nat) (x : Bool) : OwnB e (w.setCell ⟨g, i, none⟩ (.bool x)) (.slice (some ⟨g, 0, none⟩) n c) (xs.set i x) := by
  have hl : n = xs.length := by
    have := h.1
    rcases h.2 with ⟨h', h2⟩ | ⟨g', cap', cur, h', _⟩
    · cases h'
    · injection h' with _ h3
  subst hl
  have h2 := (World.ownsRow.stored h i (.bool x)).1
  have he : (bools xs).set i (.bool x) = bools (xs.set i x) := by simp [bools, List.map_set]
  unfold OwnB
  rw [List.length_set, ← he]
  exact h2
/-- An argument: a slice of whole numbers. -/
theorem arg_ints {w : World} {A : Option Addr} {l : List Int} {k : IntKind} (h : (Kd.int k).C w A l.length l) : ∃ ad : Addr, l.length = 0 ∨ (A = some ad ∧ ∀ i, i < l.length → ∀ w', Below w.heap.size w w' → w'.cell? (ad.add i) = some (.int k (l.getD i 0))) := by
  rcases Nat.eq_zero_or_pos l.length with h0 | h0
  · exact ⟨⟨0, 0, none⟩, .inl h0⟩
  · obtain ⟨ad, rfl, _⟩ := Kd.at_int h 0 (by omega) (by omega)
    refine ⟨ad, .inr ⟨rfl, fun i hi w' hb => ?_⟩⟩
    obtain ⟨ad2, e, hc⟩ := Kd.at_int h (i : Int) (by omega) (by omega)
    injection e with e
    subst e
    have : rd l (i : Int) = l.getD i 0 := by simp [rd]
    rw [this, Int.toNat_natCast] at hc
    exact pw_cell_below hb hc
/-- A cell of a block that is known whole. -/
theorem blk_at {w : World} {b : Nat} {cs : Array Value} {t : TypeId} (h : w.heap[b]? = some (.cells cs t (0, 0))) (i : Nat) (v : Value) (hv : cs[i]? = some v) : w.cell? ⟨b, i, none⟩ = some v := by simp [World.cell?, h, hv]
theorem blk_free {w : World} {b : Nat} {cs : Array Value} {t : TypeId} (h : w.heap[b]? = some (.cells cs t (0, 0))) (i : Nat) : w.frozen? ⟨b, i, none⟩ = false := by simp [World.frozen?, h]
theorem blk_set {w : World} {b : Nat} {cs : Array Value} {t : TypeId} {fr : Nat × Nat} (h : w.heap[b]? = some (.cells cs t fr)) (i : Nat) (v : Value) : (w.setCell ⟨b, i, none⟩ v).heap[b]? = some (.cells (cs.setIfInBounds i v) t fr) := by
  have hlt := (Array.getElem?_eq_some_iff.1 h).1
  simp [World.setCell, Array.getElem?_modify, h]
theorem blk_other {w : World} {b : Nat} (a : Addr) (v : Value) (h : b ≠ a.block) : (w.setCell a v).heap[b]? = w.heap[b]? := Below.heap_setCell w a v b h
end Go.Proofs.Ytkdkdhbkmhkjfaa.Sep

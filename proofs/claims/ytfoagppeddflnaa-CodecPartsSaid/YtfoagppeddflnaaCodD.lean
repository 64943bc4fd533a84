import Derived.Test.YtfoagppeddflnaaCodA
import Derived.Test.YtfoagppeddflnaaCodB
namespace Go.Proofs.Ytfoagppeddflnaa.PT07
open Go.RowKit Go.Shelf Go.Proofs.YtfoagppeddflnaaW.PrintWords Go.Proofs.YtfoagppeddflnaaW.PrintLast

theorem records_calls (A : Option Addr) (n c : Nat) (w : World) :
    Calls Try.prog 25 #[.slice A n c] w fun e w' => e = .returned (.func (.func 27) #[] #[.pointer (some ⟨w.heap.size, 0, none⟩)]) ∧ w' = w.alloc (.cells #[.slice A n c] 27) := by
  go_enter Try.func25, Try.ntmps25
  go_wp2
  go_ret
  exact ⟨rfl, rfl⟩
def DJ (w : World) (n0 : Nat) (lp : Loop) (s : List S56) (W : World) : Prop := n0 + 6 ≤ W.heap.size ∧ W.heap[n0]? = some (.cells #[.slice none 0 0] 25 (0, 0)) ∧ W.heap[n0 + 1]? = some (.cells #[.int .i64 0] 28 (0, 0)) ∧ (∃ v, W.heap[n0 + 2]? = some (.cells #[v] 25 (0, 0)) ∧ Kd.S k56 56 W n0 (fun k => n0 + 6 ≤ k) v s) ∧ W.heap[n0 + 4]? = some (.deferred (some [])) ∧ W.heap[n0 + 5]? = some (.loop lp) ∧ Below n0 w W
def DX (w : World) (n0 : Nat) (lp : Loop) (W : World) : Prop := W.heap[n0]? = some (.cells #[.slice none 0 0] 25 (0, 0)) ∧ W.heap[n0 + 1]? = some (.cells #[.int .i64 4] 28 (0, 0)) ∧ W.heap[n0 + 4]? = some (.deferred (some [])) ∧ W.heap[n0 + 5]? = some (.loop lp) ∧ Below n0 w W
theorem DJ.step {w W W' : World} {n0 : Nat} {lp : Loop} {s : List S56} (h : DJ w n0 lp s W) (hk : ∀ k, k < W.heap.size → k ≠ n0 + 3 → W'.heap[k]? = W.heap[k]?) (hs : W.heap.size ≤ W'.heap.size) (hb : Below n0 W W') : DJ w n0 lp s W' := by
  obtain ⟨h1, h2, h3, ⟨v, h4, h5⟩, h6, h7, h8⟩ := h
  refine ⟨by omega, (hk _ (by omega) (by omega)).trans h2, (hk _ (by omega) (by omega)).trans h3, ⟨v, (hk _ (by omega) (by omega)).trans h4, ?_⟩, (hk _ (by omega) (by omega)).trans h6, (hk _ (by omega) (by omega)).trans h7, h8.trans hb⟩
  exact Kd.S_step h5 (fun k hk1 hk2 => hk k hk2 (by omega))
attribute [local go_sem] Oper.semAt_some
/-- Behind the append: what the round leaves. -/
theorem fin_yes {w W0 X w1 : World} {n0 : Nat} {lb lr : Loop} {acc2 : List S56} {vo v1 : Value} (h1 : n0 + 6 ≤ X.heap.size) (h2 : X.heap[n0]? = some (.cells #[.slice none 0 0] 25 (0, 0))) (h3 : X.heap[n0 + 1]? = some (.cells #[.int .i64 0] 28 (0, 0)))
    (h4 : X.heap[n0 + 2]? = some (.cells #[vo] 25 (0, 0))) (h6 : X.heap[n0 + 4]? = some (.deferred (some []))) (h7 : X.heap[n0 + 5]? = some (.loop lb)) (hB0 : Below n0 W0 X) (h3' : X.heap[n0 + 3]? = W0.heap[n0 + 3]?) (hwn : w.heap.size = n0)
    (hvo : ∀ k, vo.ownBlock = some k → n0 + 6 ≤ k) (hS : Kd.S k56 56 w1 n0 (fun k => n0 + 6 ≤ k) v1 acc2) (hb1 : Below n0 w w1) (hg : X.grownBy w1 vo.ownBlock) :
    (w1.setCell ⟨n0 + 2, 0, none⟩ v1).heap[n0 + 5]? = some (.loop lb) ∧ DJ w n0 lr acc2 ((w1.setCell ⟨n0 + 2, 0, none⟩ v1).putObj (n0 + 5) (.loop lr)) ∧ ((w1.setCell ⟨n0 + 2, 0, none⟩ v1).putObj (n0 + 5) (.loop lr)).heap[n0 + 3]? = W0.heap[n0 + 3]? ∧ Below n0 W0 ((w1.setCell ⟨n0 + 2, 0, none⟩ v1).putObj (n0 + 5) (.loop lr)) := by
  have hsz := hg.size
  have blk : ∀ k, k < n0 + 6 → w1.heap[k]? = X.heap[k]? := fun k hk => hg.block k (by omega) (fun e => by have := hvo k e.symm; omega)
  have hset : ∀ k, k ≠ n0 + 2 → (w1.setCell ⟨n0 + 2, 0, none⟩ v1).heap[k]? = w1.heap[k]? := fun k hk => Below.heap_setCell w1 ⟨n0 + 2, 0, none⟩ v1 k hk
  have hput : ∀ k, k ≠ n0 + 5 → ((w1.setCell ⟨n0 + 2, 0, none⟩ v1).putObj (n0 + 5) (.loop lr)).heap[k]? = (w1.setCell ⟨n0 + 2, 0, none⟩ v1).heap[k]? := fun k hk => World.putObj_heap_other hk
  have hbx : Boxed w1 (n0 + 2) 25 vo := (blk _ (by omega)).trans h4
  have hbx2 := hbx.set v1
  have hl5 : (w1.setCell ⟨n0 + 2, 0, none⟩ v1).heap[n0 + 5]? = some (.loop lb) := (hset _ (by omega)).trans ((blk _ (by omega)).trans h7)
  have hlt5 := (Array.getElem?_eq_some_iff.1 hl5).1
  have szs : (w1.setCell ⟨n0 + 2, 0, none⟩ v1).heap.size = w1.heap.size := by simp
  have szp : ((w1.setCell ⟨n0 + 2, 0, none⟩ v1).putObj (n0 + 5) (.loop lr)).heap.size = w1.heap.size := by simp [World.putObj]
  have bset : Below n0 w1 ((w1.setCell ⟨n0 + 2, 0, none⟩ v1).putObj (n0 + 5) (.loop lr)) := ((Below.refl n0 w1).setCell (p := ⟨n0 + 2, 0, none⟩) (by simp) v1).grown (grownBy_putObj' _ (n0 + 5) _) (by rw [szs]; omega) (fun k e => by cases e; omega)
  refine ⟨hl5, ⟨by rw [szp]; omega, ?_, ?_, ⟨v1, ?_, ?_⟩, ?_, World.putObj_heap_same hlt5, hb1.trans bset⟩, ?_, (hB0.grown hg (by omega) (fun k e => by have := hvo k e; omega)).trans bset⟩
  · exact (hput _ (by omega)).trans ((hset _ (by omega)).trans ((blk _ (by omega)).trans h2))
  · exact (hput _ (by omega)).trans ((hset _ (by omega)).trans ((blk _ (by omega)).trans h3))
  · exact (hput _ (by omega)).trans hbx2
  · exact Kd.S_step hS (fun k hk _ => (hput k (by omega)).trans (hset k (by omega)))
  · exact (hput _ (by omega)).trans ((hset _ (by omega)).trans ((blk _ (by omega)).trans h6))
  · exact (hput _ (by omega)).trans ((hset _ (by omega)).trans ((blk _ (by omega)).trans h3'))
theorem results_2c {w : World} {tmps : Array Value} {a b : Nat} {v v' : Value} (hp : tmps.getD 2 undef = .pointer (some ⟨a, 0, none⟩)) (hp' : tmps.getD 3 undef = .pointer (some ⟨b, 0, none⟩)) (hc : w.cell? ⟨a, 0, none⟩ = some v) (hc' : w.cell? ⟨b, 0, none⟩ = some v') :
    (results Try.f17 tmps).run Try.prog w = .ok (.tuple #[v, v']) w := by
  have h1 : tmps[2]?.getD undef = .pointer (some ⟨a, 0, none⟩) := by simpa using hp
  have h2 : tmps[3]?.getD undef = .pointer (some ⟨b, 0, none⟩) := by simpa using hp'
  simp [results, Try.f17, h1, h2, asAddr, loadVar, go_sem, hc, hc']
theorem fin_ok {w X : World} {n0 : Nat} {vo : Value} {s : List S56} (h1 : n0 + 6 ≤ X.heap.size) (h2 : X.heap[n0]? = some (.cells #[.slice none 0 0] 25 (0, 0))) (h3 : X.heap[n0 + 1]? = some (.cells #[.int .i64 0] 28 (0, 0)))
    (h6 : X.heap[n0 + 4]? = some (.deferred (some []))) (hS : Kd.S k56 56 X n0 (fun k => n0 + 6 ≤ k) vo s) (hbX : Below n0 w X) :
    ((X.setCell ⟨n0, 0, none⟩ vo).setCell ⟨n0 + 1, 0, none⟩ (.int .i64 0)).heap[n0 + 4]? = some (.deferred (some [])) ∧
    (((X.setCell ⟨n0, 0, none⟩ vo).setCell ⟨n0 + 1, 0, none⟩ (.int .i64 0)).putObj (n0 + 4) (.deferred none)).cell? ⟨n0, 0, none⟩ = some vo ∧
    (((X.setCell ⟨n0, 0, none⟩ vo).setCell ⟨n0 + 1, 0, none⟩ (.int .i64 0)).putObj (n0 + 4) (.deferred none)).cell? ⟨n0 + 1, 0, none⟩ = some (.int .i64 0) ∧
    Kd.S k56 56 (((X.setCell ⟨n0, 0, none⟩ vo).setCell ⟨n0 + 1, 0, none⟩ (.int .i64 0)).putObj (n0 + 4) (.deferred none)) n0 (fun _ => True) vo s ∧
    Below n0 w (((X.setCell ⟨n0, 0, none⟩ vo).setCell ⟨n0 + 1, 0, none⟩ (.int .i64 0)).putObj (n0 + 4) (.deferred none)) := by
  have hs1 : ∀ k, k ≠ n0 → (X.setCell ⟨n0, 0, none⟩ vo).heap[k]? = X.heap[k]? := fun k hk => Below.heap_setCell X ⟨n0, 0, none⟩ _ k hk
  have hs2 : ∀ k, k ≠ n0 + 1 → ((X.setCell ⟨n0, 0, none⟩ vo).setCell ⟨n0 + 1, 0, none⟩ (.int .i64 0)).heap[k]? = (X.setCell ⟨n0, 0, none⟩ vo).heap[k]? := fun k hk => Below.heap_setCell _ ⟨n0 + 1, 0, none⟩ _ k hk
  have hput : ∀ k, k ≠ n0 + 4 → (((X.setCell ⟨n0, 0, none⟩ vo).setCell ⟨n0 + 1, 0, none⟩ (.int .i64 0)).putObj (n0 + 4) (.deferred none)).heap[k]? = ((X.setCell ⟨n0, 0, none⟩ vo).setCell ⟨n0 + 1, 0, none⟩ (.int .i64 0)).heap[k]? := fun k hk => World.putObj_heap_other hk
  have b0 : Boxed X n0 25 (.slice none 0 0) := h2
  have b1 : Boxed (X.setCell ⟨n0, 0, none⟩ vo) (n0 + 1) 28 (.int .i64 0) := (hs1 _ (by omega)).trans h3
  have r0 : Boxed (((X.setCell ⟨n0, 0, none⟩ vo).setCell ⟨n0 + 1, 0, none⟩ (.int .i64 0)).putObj (n0 + 4) (.deferred none)) n0 25 vo := (hput _ (by omega)).trans ((hs2 _ (by omega)).trans (b0.set _))
  have r1 : Boxed (((X.setCell ⟨n0, 0, none⟩ vo).setCell ⟨n0 + 1, 0, none⟩ (.int .i64 0)).putObj (n0 + 4) (.deferred none)) (n0 + 1) 28 (.int .i64 0) := (hput _ (by omega)).trans (b1.set _)
  refine ⟨(hs2 _ (by omega)).trans ((hs1 _ (by omega)).trans h6), r0.cell, r1.cell, Kd.S_mono (Kd.S_step hS (fun k hk _ => (hput k (by omega)).trans ((hs2 k (by omega)).trans (hs1 k (by omega))))) (fun _ _ => trivial), hbX.trans ?_⟩
  exact ((((Below.refl n0 X).setCell (p := ⟨n0, 0, none⟩) (by simp) _).setCell (p := ⟨n0 + 1, 0, none⟩) (by simp) _)).grown (grownBy_putObj' _ (n0 + 4) _) (by simp; omega) (fun k e => by cases e; omega)
theorem fin_bad {w X : World} {n0 : Nat} (h1 : n0 + 5 ≤ X.heap.size) (h2 : X.heap[n0]? = some (.cells #[.slice none 0 0] 25 (0, 0))) (h3 : X.heap[n0 + 1]? = some (.cells #[.int .i64 4] 28 (0, 0))) (hbX : Below n0 w X) :
    (X.putObj (n0 + 4) (.deferred none)).cell? ⟨n0, 0, none⟩ = some (.slice none 0 0) ∧ (X.putObj (n0 + 4) (.deferred none)).cell? ⟨n0 + 1, 0, none⟩ = some (.int .i64 4) ∧ Below n0 w (X.putObj (n0 + 4) (.deferred none)) := by
  have hput : ∀ k, k ≠ n0 + 4 → (X.putObj (n0 + 4) (.deferred none)).heap[k]? = X.heap[k]? := fun k hk => World.putObj_heap_other hk
  have r0 : Boxed (X.putObj (n0 + 4) (.deferred none)) n0 25 (.slice none 0 0) := (hput _ (by omega)).trans h2
  have r1 : Boxed (X.putObj (n0 + 4) (.deferred none)) (n0 + 1) 28 (.int .i64 4) := (hput _ (by omega)).trans h3
  exact ⟨r0.cell, r1.cell, hbX.grown (grownBy_putObj' _ (n0 + 4) _) (by omega) (fun k e => by cases e; omega)⟩
theorem fin_no {w X : World} {n0 : Nat} {lb lr : Loop} (h1 : n0 + 6 ≤ X.heap.size) (h2 : X.heap[n0]? = some (.cells #[.slice none 0 0] 25 (0, 0))) (h3 : X.heap[n0 + 1]? = some (.cells #[.int .i64 0] 28 (0, 0)))
    (h6 : X.heap[n0 + 4]? = some (.deferred (some []))) (h7 : X.heap[n0 + 5]? = some (.loop lb)) (hbX : Below n0 w X) :
    ((X.setCell ⟨n0, 0, none⟩ (.slice none 0 0)).setCell ⟨n0 + 1, 0, none⟩ (.int .i64 4)).heap[n0 + 5]? = some (.loop lb) ∧ DX w n0 lr (((X.setCell ⟨n0, 0, none⟩ (.slice none 0 0)).setCell ⟨n0 + 1, 0, none⟩ (.int .i64 4)).putObj (n0 + 5) (.loop lr)) := by
  have hs1 : ∀ k, k ≠ n0 → (X.setCell ⟨n0, 0, none⟩ (.slice none 0 0)).heap[k]? = X.heap[k]? := fun k hk => Below.heap_setCell X ⟨n0, 0, none⟩ _ k hk
  have hs2 : ∀ k, k ≠ n0 + 1 → ((X.setCell ⟨n0, 0, none⟩ (.slice none 0 0)).setCell ⟨n0 + 1, 0, none⟩ (.int .i64 4)).heap[k]? = (X.setCell ⟨n0, 0, none⟩ (.slice none 0 0)).heap[k]? := fun k hk => Below.heap_setCell _ ⟨n0 + 1, 0, none⟩ _ k hk
  have hput : ∀ k, k ≠ n0 + 5 → (((X.setCell ⟨n0, 0, none⟩ (.slice none 0 0)).setCell ⟨n0 + 1, 0, none⟩ (.int .i64 4)).putObj (n0 + 5) (.loop lr)).heap[k]? = ((X.setCell ⟨n0, 0, none⟩ (.slice none 0 0)).setCell ⟨n0 + 1, 0, none⟩ (.int .i64 4)).heap[k]? := fun k hk => World.putObj_heap_other hk
  have hl5 : ((X.setCell ⟨n0, 0, none⟩ (.slice none 0 0)).setCell ⟨n0 + 1, 0, none⟩ (.int .i64 4)).heap[n0 + 5]? = some (.loop lb) := (hs2 _ (by omega)).trans ((hs1 _ (by omega)).trans h7)
  have b0 : Boxed X n0 25 (.slice none 0 0) := h2
  have b1 : Boxed (X.setCell ⟨n0, 0, none⟩ (.slice none 0 0)) (n0 + 1) 28 (.int .i64 0) := (hs1 _ (by omega)).trans h3
  have bset : Below n0 X (((X.setCell ⟨n0, 0, none⟩ (.slice none 0 0)).setCell ⟨n0 + 1, 0, none⟩ (.int .i64 4)).putObj (n0 + 5) (.loop lr)) := ((((Below.refl n0 X).setCell (p := ⟨n0, 0, none⟩) (by simp) _).setCell (p := ⟨n0 + 1, 0, none⟩) (by simp) _)).grown (grownBy_putObj' _ (n0 + 5) _) (by simp; omega) (fun k e => by cases e; omega)
  refine ⟨hl5, ?_, ?_, ?_, World.putObj_heap_same (Array.getElem?_eq_some_iff.1 hl5).1, hbX.trans bset⟩
  · exact (hput _ (by omega)).trans ((hs2 _ (by omega)).trans (b0.set _))
  · exact (hput _ (by omega)).trans (b1.set _)
  · exact (hput _ (by omega)).trans ((hs2 _ (by omega)).trans ((hs1 _ (by omega)).trans h6))
set_option maxHeartbeats 4000000 in
set_option maxRecDepth 100000 in
theorem codec_Decode.callsL (k : Nat) (A0 : Option Addr) (c0 : Nat) (l0 : List Int) (r1 : List S56) (r2 : Int) (w : World) (hr0 : Kd.C (Kd.int .u8) w A0 l0.length l0) (hc0 : l0.length ≤ c0) (h : codec_Decode.l0 k l0 [] = some (r1, r2)) :
    Calls Try.prog 17 #[.slice A0 l0.length c0] w fun e w' => ∃ v0_ : Value, e = .returned (.tuple #[v0_, .int .i64 r2]) ∧ Kd.S k56 56 w' w.heap.size (fun _ => True) v0_ r1 ∧ Below w.heap.size w w' := by
  rw [← callsIn_wide (n := 6)]
  refine callsIn_of_wp_marks Try.func17 rfl trivial ?_ rfl
  simp only [Try.ntmps17, List.size_toArray, List.length_cons, List.length_nil, Nat.reduceAdd, Nat.reduceSub, Array.replicate_succ, Array.replicate_zero, List.push_toArray, List.append_toArray, List.nil_append, List.cons_append]
  gi_wp2_with (refine ⟨trivial, ?_⟩; gi_at_call 25; refine (callsIn_wide.2 (records_calls _ _ _ _)).mono ?_; rintro e w' ⟨rfl, rfl⟩)
  refine range_mine rfl (enters_of Try.func27 (by kernel_rfl) rfl) ?_
  intro rec hrec fn
  simp only [World.size_alloc, Nat.add_assoc, Nat.reduceAdd] at hrec ⊢
  have HREC := Aside0.mk hrec
  clear hrec
  refine (clo 2 (w.heap.size + 5) (w.heap.size + 3) w r1 r2 (DJ w w.heap.size (rec fn .ready none)) (DX w w.heap.size (rec fn .done (some .ret))) (by omega) ?_ ?_ ?_ ?_ k A0 c0 l0 hr0 hc0 h _ ?_ ?_ ?_).mono ?_
  case refine_1 =>
    intro acc v ty bytes W0 W hj hb hR hacc hlt
    have hjW := hj.step (fun k hk _ => hb.block k hk) hb.size (hb.mono (by have := hj.1; omega))
    obtain ⟨j1, j2, j3, ⟨vo, j4, j5⟩, j6, j7, j8⟩ := hjW
    obtain ⟨Av, cv, rfl⟩ := Kd.R_slice hR
    obtain ⟨i1, i2, i3, ⟨vo', i4, i5⟩, i6, i7, i8⟩ := hj
    have hlt2 := (Array.getElem?_eq_some_iff.1 i4).1
    obtain rfl : vo' = vo := by
      have e1 := (hb.block (w.heap.size + 2) hlt2).symm.trans j4
      rw [i4] at e1
      injection e1 with e1
      injection e1 with e1
      simpa using e1
    have hS0 : Kd.S k56 56 W0 w.heap.size (fun k => w.heap.size + 6 ≤ k ∧ k < W0.heap.size) vo' acc := Kd.S_mono (Kd.S_bound i5) (fun k hk => ⟨hk.1, hk.2.2.1⟩)
    obtain ⟨Ao, co, rfl⟩ := Kd.R_slice (Kd.S_R hS0)
    have hsW := hb.size
    refine round_mine HREC.out j7 rfl ?_
    gi_wp2
    refine ⟨(Below.heap_alloc W _ _ (by omega)).trans j7, ?_⟩
    have hltl : w.heap.size + 5 < (W.alloc (.cells #[.int .i64 ty, .slice Av bytes.length cv] 56)).heap.size := by simp; omega
    obtain ⟨X, hX⟩ : ∃ X, (W.alloc (.cells #[.int .i64 ty, .slice Av bytes.length cv] 56)).putObj (w.heap.size + 5) (.loop (rec fn .busy none)) = X := ⟨_, rfl⟩
    rw [hX]
    have xk : ∀ k, k < W.heap.size → k ≠ w.heap.size + 5 → X.heap[k]? = W.heap[k]? := fun k hk hne => by
      rw [← hX]; exact (World.putObj_heap_other hne).trans (Below.heap_alloc W _ _ hk)
    have xs : X.heap.size = W.heap.size + 1 := by rw [← hX]; simp [World.putObj]
    have xn : X.heap[W.heap.size]? = some (.cells #[.int .i64 ty, .slice Av bytes.length cv] 56 (0, 0)) := by
      rw [← hX]; exact (World.putObj_heap_other (by omega)).trans (World.alloc_heap_new W _)
    have xl : X.heap[w.heap.size + 5]? = some (.loop (rec fn .busy none)) := by
      rw [← hX]; exact World.putObj_heap_same hltl
    have xb : Below w.heap.size W X := by
      rw [← hX]
      exact ((Below.refl w.heap.size W).alloc (by omega) _).grown (grownBy_putObj' _ (w.heap.size + 5) _) (by simp; omega) (fun k e => by cases e; omega)
    clear hX hltl
    have x2 := (xk _ (by omega) (by omega)).trans j2
    have x3 := (xk _ (by omega) (by omega)).trans j3
    have x4 : X.heap[w.heap.size + 2]? = _ := (xk _ (by omega) (by omega)).trans j4
    have x6 := (xk _ (by omega) (by omega)).trans j6
    have c4 := blk_cell x4 0
    have f4 := blk_frozen x4 0
    have c50 := blk_cell xn 0
    have c51 := blk_cell xn 1
    have hSX : Kd.S k56 56 X w.heap.size (fun k => w.heap.size + 6 ≤ k ∧ k < W0.heap.size) (.slice Ao acc.length co) acc := Kd.S_step hS0 (fun k hk _ => (xk k (by omega) (by omega)).trans (hb.block k hk.2))
    have hRX : Kd.R (Kd.int .u8) 5 X w.heap.size (fun k => some k = (.slice Av bytes.length cv : Value).ownBlock) (.slice Av bytes.length cv) bytes := by
      refine Kd.R_step (Kd.R_lower (Kd.R_tight rfl hR) (by omega)) (fun k hk hk2 => xk k hk2 ?_)
      have := Kd.R_base hR k hk.symm
      omega
    have hvo : ∀ k, (.slice Ao acc.length co : Value).ownBlock = some k → w.heap.size + 6 ≤ k ∧ k < W0.heap.size := fun k hk => (Kd.S_R hS0).1 k hk
    have hvv : ∀ k, (.slice Av bytes.length cv : Value).ownBlock = some k → W0.heap.size ≤ k := Kd.R_base hR
    have hHO : Kd.S k56 56 X w.heap.size (fun k => w.heap.size + 6 ≤ k ∧ ¬ some k = (.slice Av bytes.length cv : Value).ownBlock) (.slice Ao acc.length co) acc := Kd.S_mono hSX (fun k hk => ⟨hk.1, fun e => by have := hvv k e.symm; omega⟩)
    have hokp : ∀ k, some k = (.slice Av bytes.length cv : Value).ownBlock → w.heap.size + 6 ≤ k ∧ some k ≠ (.slice Ao acc.length co : Value).ownBlock := fun k hk => by
      have h1 := hvv k hk.symm
      refine ⟨by omega, fun e => ?_⟩
      have h2 := hvo k e.symm
      omega
    have hfr : ∀ k, X.heap.size ≤ k → w.heap.size + 6 ≤ k := fun k hk => by omega
    have hbd : (acc.length + 1) * 32 ≤ 140737488355328 := by omega
    have hbase : w.heap.size ≤ X.heap.size := by omega
    have hbX : Below w.heap.size w X := j8.trans xb
    have hx3 : X.heap[w.heap.size + 3]? = W0.heap[w.heap.size + 3]? := (xk _ (by omega) (by omega)).trans (hb.block _ (by omega))
    have hB0 : Below w.heap.size W0 X := (hb.mono (by omega)).trans xb
    have hsz6 : w.heap.size + 6 ≤ X.heap.size := by omega
    have XS := Aside0.mk xs
    clear xs
    gi_wp2_with (gi_at_builtin; refine S_append_in k56 (w0 := w) w.heap.size rfl (.tmp 13) (.tmp 15) 25 56 (.agg #[.int .i64 0, .slice none 0 0]) 32 rfl Try.underlying25 info56 rfl (by decide) (by omega) (.slice Ao acc.length co) acc ⟨ty, bytes⟩ [.int .i64 ty, .slice Av bytes.length cv] (fun k => w.heap.size + 6 ≤ k) (fun k => some k = (.slice Av bytes.length cv : Value).ownBlock) rfl rfl (k56_mkM X _ _ ⟨ty, bytes⟩ hRX) hokp hfr hHO hbX hbase hbd ?_; intro v1 w1 hS1 hb1 hg1 hat1; have hblk2 := (hg1.block (w.heap.size + 2) (by omega) (fun e => by have := hvo _ e.symm; omega)).trans x4; have g4 := blk_cell hblk2 0; have g4f := blk_frozen hblk2 0; obtain ⟨A1, c1, rfl⟩ := Kd.R_slice (Kd.S_R hS1))
    obtain ⟨f1, f2, f3, f5⟩ := fin_yes (lr := rec fn .ready none) hsz6 x2 x3 x4 x6 xl hB0 hx3 rfl (fun k hk => (hvo k hk).1) hS1 hb1 hg1
    have hlen : (acc ++ [(⟨ty, bytes⟩ : S56)]).length = acc.length + 1 := by simp
    rw [hlen] at f1 f2 f3 f5
    first | exact ⟨f1, rfl, f2, f3, f5⟩ | exact ⟨f1, f2, f3, f5⟩ | exact ⟨f1, f2, f3.trans (Array.getElem?_eq_getElem _), f5⟩
  case refine_2 =>
    intro acc W hj
    obtain ⟨j1, j2, j3, ⟨vo, j4, j5⟩, j6, j7, j8⟩ := hj
    refine round_mine HREC.out j7 rfl ?_
    gi_wp2
    refine ⟨(Below.heap_alloc W _ _ (by omega)).trans j7, ?_⟩
    have hltl : w.heap.size + 5 < (W.alloc (.cells #[.int .i64 0, .slice none 0 0] 56)).heap.size := by simp; omega
    obtain ⟨X, hX⟩ : ∃ X, (W.alloc (.cells #[.int .i64 0, .slice none 0 0] 56)).putObj (w.heap.size + 5) (.loop (rec fn .busy none)) = X := ⟨_, rfl⟩
    rw [hX]
    have xk : ∀ k, k < W.heap.size → k ≠ w.heap.size + 5 → X.heap[k]? = W.heap[k]? := fun k hk hne => by
      rw [← hX]; exact (World.putObj_heap_other hne).trans (Below.heap_alloc W _ _ hk)
    have xs : X.heap.size = W.heap.size + 1 := by rw [← hX]; simp [World.putObj]
    have xl : X.heap[w.heap.size + 5]? = some (.loop (rec fn .busy none)) := by
      rw [← hX]; exact World.putObj_heap_same hltl
    have xb : Below w.heap.size W X := by
      rw [← hX]
      exact ((Below.refl w.heap.size W).alloc (by omega) _).grown (grownBy_putObj' _ (w.heap.size + 5) _) (by simp; omega) (fun k e => by cases e; omega)
    clear hX hltl
    have x2 : X.heap[w.heap.size]? = _ := (xk _ (by omega) (by omega)).trans j2
    have x3 : X.heap[w.heap.size + 1]? = _ := (xk _ (by omega) (by omega)).trans j3
    have x6 := (xk _ (by omega) (by omega)).trans j6
    have c2 := blk_cell x2 0
    have f2 := blk_frozen x2 0
    have c3 := blk_cell x3 0
    have f3 := blk_frozen x3 0
    have hfin := fin_no (lr := rec fn .done (some .ret)) (by omega) x2 x3 x6 xl (j8.trans xb)
    have XS := Aside0.mk xs
    have HFIN := Aside0.mk hfin
    clear xs hfin
    gi_wp2
    first | exact ⟨HFIN.out.1, rfl, HFIN.out.2⟩ | exact HFIN.out
  case refine_3 =>
    intro acc W v hj
    exact hj.step (fun k _ hk => Below.heap_setCell W ⟨w.heap.size + 3, 0, none⟩ v k hk) (by simp) ((Below.refl _ W).setCell (p := ⟨w.heap.size + 3, 0, none⟩) (by simp) v)
  case refine_4 =>
    intro acc W hj
    exact hj.step (fun k _ _ => rfl) (Nat.le_refl _) (below_drew (Below.refl _ W))
  case refine_5 =>
    have b1 : Boxed ((((w.alloc (.cells #[.slice none 0 0] 25)).alloc (.cells #[.int .i64 0] 28)).alloc (.cells #[.slice none 0 0] 25)).alloc (.cells #[.slice A0 l0.length c0] 27)) (w.heap.size + 3) 27 (.slice A0 l0.length c0) := by
      have := Boxed.new (((w.alloc (.cells #[.slice none 0 0] 25)).alloc (.cells #[.int .i64 0] 28)).alloc (.cells #[.slice none 0 0] 25)) 27 (.slice A0 l0.length c0)
      simpa only [World.size_alloc, Nat.add_assoc, Nat.reduceAdd] using this
    exact (b1.alloc _).alloc _
  case refine_6 => exact ((((((Below.refl _ w).alloc (Nat.le_refl _) _).alloc (by simp) _).alloc (by simp; omega) _).alloc (by simp; omega) _).alloc (by simp; omega) _).alloc (by simp; omega) _
  case refine_7 =>
    have bb := ((((((Below.refl _ w).alloc (Nat.le_refl _) (.cells #[.slice none 0 0] 25)).alloc (by simp) (.cells #[.int .i64 0] 28)).alloc (by simp; omega) (.cells #[.slice none 0 0] 25)).alloc (by simp; omega) (.cells #[.slice A0 l0.length c0] 27)).alloc (by simp; omega) (.deferred (some []))).alloc (by simp; omega) (.loop (rec fn .ready none))
    have n0 := Boxed.new w 25 (.slice none 0 0)
    have n1 := Boxed.new (w.alloc (.cells #[.slice none 0 0] 25)) 28 (.int .i64 0)
    have n2 := Boxed.new ((w.alloc (.cells #[.slice none 0 0] 25)).alloc (.cells #[.int .i64 0] 28)) 25 (.slice none 0 0)
    have n4 := World.alloc_heap_new ((((w.alloc (.cells #[.slice none 0 0] 25)).alloc (.cells #[.int .i64 0] 28)).alloc (.cells #[.slice none 0 0] 25)).alloc (.cells #[.slice A0 l0.length c0] 27)) (.deferred (some []))
    have n5 := World.alloc_heap_new (((((w.alloc (.cells #[.slice none 0 0] 25)).alloc (.cells #[.int .i64 0] 28)).alloc (.cells #[.slice none 0 0] 25)).alloc (.cells #[.slice A0 l0.length c0] 27)).alloc (.deferred (some []))) (.loop (rec fn .ready none))
    simp only [World.size_alloc, Nat.add_assoc, Nat.reduceAdd] at n1 n2 n4 n5
    exact ⟨by simp, ((((n0.alloc _).alloc _).alloc _).alloc _).alloc _, (((n1.alloc _).alloc _).alloc _).alloc _, ⟨_, ((n2.alloc _).alloc _).alloc _, Kd.S_nil _ _ _ _ _⟩, (Below.heap_alloc _ _ _ (by simp)).trans n4, n5, bb⟩
  case refine_8 =>
    rintro e W' ⟨⟨v, rfl⟩, (⟨rfl, hj⟩ | ⟨rfl, rfl, hx⟩)⟩
    · obtain ⟨j1, j2, j3, ⟨vo, j4, j5⟩, j6, j7, j8⟩ := hj
      refine ⟨⟨_, rfl⟩, .ready, none, by simp, j7, ?_⟩
      dsimp only
      obtain ⟨X, hX⟩ : ∃ X, W'.putObj (w.heap.size + 5) (.loop (rec fn .exhausted none)) = X := ⟨_, rfl⟩
      rw [hX]
      have xk : ∀ k, k ≠ w.heap.size + 5 → X.heap[k]? = W'.heap[k]? := fun k hne => by
        rw [← hX]; exact World.putObj_heap_other hne
      have xs : X.heap.size = W'.heap.size := by rw [← hX]; simp [World.putObj]
      have xb : Below w.heap.size w X := by
        rw [← hX]
        exact j8.grown (grownBy_putObj' _ (w.heap.size + 5) _) (by omega) (fun k e => by cases e; omega)
      clear hX
      have x2 : X.heap[w.heap.size]? = _ := (xk _ (by omega)).trans j2
      have x3 : X.heap[w.heap.size + 1]? = _ := (xk _ (by omega)).trans j3
      have x4 : X.heap[w.heap.size + 2]? = _ := (xk _ (by omega)).trans j4
      have x6 : X.heap[w.heap.size + 4]? = _ := (xk _ (by omega)).trans j6
      have hS := Kd.S_step j5 (fun k hk _ => xk k (by omega))
      obtain ⟨Ao, co, rfl⟩ := Kd.R_slice (Kd.S_R hS)
      have c2 := blk_cell x2 0
      have f2 := blk_frozen x2 0
      have c3 := blk_cell x3 0
      have f3 := blk_frozen x3 0
      have c4 := blk_cell x4 0
      have XS := Aside0.mk xs
      clear xs
      have hfin := fin_ok (by rw [XS.out]; omega) x2 x3 x6 hS xb
      have HFIN := Aside0.mk hfin
      clear hfin
      gi_wp2
      obtain ⟨g1, g2, g3, g4, g5⟩ := HFIN.out
      refine ⟨by simp, .inl ⟨_, _, rfl, run_takeDeferred g1, ?_⟩⟩
      exact ⟨_, results_2c rfl rfl g2 g3, _, rfl, g4, g5⟩
    · obtain ⟨j2, j3, j6, j7, j8⟩ := hx
      have hlt := (Array.getElem?_eq_some_iff.1 j7).1
      refine ⟨⟨_, rfl⟩, .done, some .ret, by simp, j7, ?_⟩
      dsimp only
      obtain ⟨X, hX⟩ : ∃ X, W'.putObj (w.heap.size + 5) (.loop (rec fn .exhausted (some .ret))) = X := ⟨_, rfl⟩
      rw [hX]
      have xk : ∀ k, k ≠ w.heap.size + 5 → X.heap[k]? = W'.heap[k]? := fun k hne => by
        rw [← hX]; exact World.putObj_heap_other hne
      have xs : X.heap.size = W'.heap.size := by rw [← hX]; simp [World.putObj]
      have xb : Below w.heap.size w X := by
        rw [← hX]
        exact j8.grown (grownBy_putObj' _ (w.heap.size + 5) _) (by omega) (fun k e => by cases e; omega)
      clear hX
      have x6 : X.heap[w.heap.size + 4]? = _ := (xk _ (by omega)).trans j6
      have hfin := fin_bad (by omega) ((xk _ (by omega)).trans j2) ((xk _ (by omega)).trans j3) xb
      have HFIN := Aside0.mk hfin
      clear hfin
      gi_wp2
      obtain ⟨g2, g3, g5⟩ := HFIN.out
      refine ⟨by simp, .inl ⟨_, _, rfl, run_takeDeferred x6, ?_⟩⟩
      exact ⟨_, results_2c rfl rfl g2 g3, _, rfl, Kd.S_nil _ _ _ _ _, g5⟩
end Go.Proofs.Ytfoagppeddflnaa.PT07

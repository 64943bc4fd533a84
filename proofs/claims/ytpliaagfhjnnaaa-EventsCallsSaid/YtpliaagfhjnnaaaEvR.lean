import Derived.Test.YtpliaagfhjnnaaaEvK
namespace Go.Proofs.Ytpliaagfhjnnaaa.Ev
open Go.RowKit Go.Proofs.YtpliaagfhjnnaaaW.PrintWords Go.Proofs.Ytpliaagfhjnnaaa.Sep Go.Proofs.Ytpliaagfhjnnaaa.HeapP Go.Proofs.Ytpliaagfhjnnaaa.Heap Go.Proofs.Ytpliaagfhjnnaaa.EvP
set_option linter.unusedVariables false
set_option linter.unusedSimpArgs false

/-! The reference queue. -/
structure QRV (w : World) (r : Nat) (vE : Value) (E : List EvP.Ev) (added clock : Int) : Prop where
  blk : w.heap[r]? = some (.cells #[vE, .int .i64 added, .int .i64 clock] 45 (0, 0))
  oe : OwnE 64 w vE E
def RF (r : Nat) (vE : Value) (k : Nat) : Prop := k = r ∨ vE.ownBlock = some k
def RQ (w : World) (G : Nat → Prop) (r : Nat) (E : List EvP.Ev) (added clock : Int) : Prop := ∃ vE, QRV w r vE E added clock ∧ (∀ k, RF r vE k → G k) ∧ ∀ k, G k → k < w.heap.size
def RPst (w : World) (G : Nat → Prop) (r : Nat) (E : List EvP.Ev) (added clock : Int) (w' : World) : Prop := RQ w' (Gr G w w') r E added clock ∧ Chg G w w'
section
variable {w w1 : World} {G F : Nat → Prop} {r : Nat} {vE v1 : Value} {E : List EvP.Ev} {added clock : Int}
theorem QRV.er (h : QRV w r vE E added clock) (k : Nat) (hk : vE.ownBlock = some k) : k ≠ r := own_ne h.oe h.blk (by decide) hk
theorem QRV.rl (h : QRV w r vE E added clock) : r < w.heap.size := (Array.getElem?_eq_some_iff.1 h.blk).1
theorem QRV.lt (h : QRV w r vE E added clock) (k : Nat) (hk : RF r vE k) : k < w.heap.size := by
  rcases hk with rfl | e
  · exact h.rl
  · exact h.oe.lt k e
theorem QRV.kept (h : QRV w r vE E added clock) (hc : Chg F w w1) (hd : ∀ k, RF r vE k → ¬ F k) : QRV w1 r vE E added clock :=
  ⟨(hc.block r h.rl (hd r (.inl rfl))).trans h.blk, h.oe.blocks (fun k hk => hc.block k (h.oe.lt k hk) (hd k (.inr hk)))⟩
theorem RQ.lt (h : RQ w G r E added clock) (k : Nat) (hk : G k) : k < w.heap.size := by
  obtain ⟨vE, _, _, hl⟩ := h
  exact hl k hk
theorem RQ.kept (h : RQ w G r E added clock) (hc : Chg F w w1) (hd : ∀ k, G k → ¬ F k) : RQ w1 G r E added clock := by
  obtain ⟨vE, hv, hG, hl⟩ := h
  exact ⟨vE, hv.kept hc (fun k hk => hd k (hG k hk)), hG, fun k hk => Nat.lt_of_lt_of_le (hl k hk) hc.size⟩
theorem RQ.new {E' : List EvP.Ev} {a' c' : Int} (hG : ∀ k, RF r vE k → G k) (hl : ∀ k, G k → k < w.heap.size) (hv : QRV w1 r v1 E' a' c') (hch : Chg (RF r vE) w w1) (hp : v1.ownBlock = vE.ownBlock ∨ ∃ d, v1.ownBlock = some d ∧ w.heap.size ≤ d) : RPst w G r E' a' c' w1 := by
  refine ⟨⟨v1, hv, fun k hk => ?_, fun k hk => ?_⟩, hch.mono (fun k _ hk => hG k hk)⟩
  · have hlt := hv.lt k hk
    rcases hk with e | e
    · exact .inl (hG k (.inl e))
    · rcases hp with h | ⟨d, h, hd⟩
      · exact .inl (hG k (.inr (h ▸ e)))
      · rw [e] at h; injection h with h; exact .inr ⟨by omega, hlt⟩
  · rcases hk with q | q
    · exact Nat.lt_of_lt_of_le (hl k q) hch.size
    · exact q.2
theorem RPst.refl (h : RQ w G r E added clock) : RPst w G r E added clock w := by
  obtain ⟨vE, hv, hG, hl⟩ := h
  exact RQ.new hG hl hv (Chg.refl _ _) (.inl rfl)
end
/-- The place of the first event of the least time, among the first i. -/
def BestE (E : List EvP.Ev) (i : Nat) (b : Int) : Prop := (b = -1 ∧ i = 0) ∨ ∃ m : Nat, b = (m : Int) ∧ m < i ∧ (∀ k, k < m → (pe E m).time < (pe E k).time) ∧ ∀ k, k < i → (pe E m).time ≤ (pe E k).time
set_option maxHeartbeats 4000000 in
set_option maxRecDepth 100000 in
theorem first_calls {w : World} {r : Nat} {vE : Value} {E : List EvP.Ev} {added clock : Int} (h : QRV w r vE E added clock) (hlen : E.length ≤ 65536) : Calls Try.prog 28 #[.pointer (some ⟨r, 0, none⟩)] w fun e w' => ∃ b, e = .returned (.int .i64 b) ∧ BestE E E.length b ∧ ∃ n, w' = w.drewN n := by
  obtain ⟨A, c, rfl⟩ := h.oe.slice
  obtain ⟨N, hN⟩ : ∃ N, E.length = N := ⟨_, rfl⟩
  have HO := Aside0.mk h
  have f0 := blk_at h.blk 0 _ rfl
  have HN := Aside0.mk (And.intro hN hlen)
  rw [hN] at f0
  have b1 : (N : Int) ≤ 65536 := by omega
  clear h hlen
  rw [hN]
  clear hN
  go_enter Try.func28, Try.ntmps28
  go_wp2
  go_loopg [3, 4] N (fun g u v wr => ∃ (i : Nat) (b : Int) (n : Nat), v = .int .i64 (i : Int) ∧ u = .int .i64 b ∧ N - i ≤ g ∧ i ≤ N ∧ Aside0 (BestE E i b) ∧ wr = w.drewN n)
  case atStart => exact ⟨0, -1, 0, rfl, rfl, by omega, by omega, ⟨.inl ⟨rfl, rfl⟩⟩, rfl⟩
  case round =>
    obtain ⟨i, b, n, rfl, rfl, hg, hi, hn, rfl⟩ := hrel
    by_cases hlt : i < N
    · obtain ⟨ga, ca, ea, _⟩ := HO.out.oe.form (by have := HN.out; omega)
      injection ea with ea _ _
      subst ea
      have ci := (HO.out.oe.cells i (by have := HN.out; omega)).2.1
      obtain ⟨x, hx⟩ : ∃ x, (pe E i).time = x := ⟨_, rfl⟩
      rw [hx] at ci
      have HX := Aside0.mk hx
      have GG := Aside0.mk (And.intro hg (And.intro hi hlt))
      have d1 : (i : Int) < (N : Int) := by omega
      clear hg hi hlt hx
      rcases hn.out with ⟨rfl, hi0⟩ | ⟨m, hm, hml, hmb, hmin⟩
      · have HI := Aside0.mk hi0
        clear hi0
        go_wp2_with fail
        go_quiet (fail)
        go_wp2
        go_roundg (N - (i + 1))
        case measure => have := GG.out; omega
        case rel => exact ⟨i + 1, (i : Int), _, by go_num, rfl, by omega, by have := GG.out; omega, ⟨.inr ⟨i, rfl, by omega, fun k hk => by have := HI.out; omega, fun k hk => by have := HI.out; have e : k = i := (by omega); subst e; exact Int.le_refl _⟩⟩, rfl⟩
      · subst hm
        have cm := (HO.out.oe.cells m (by have := HN.out; have := GG.out; omega)).2.1
        obtain ⟨y, hy⟩ : ∃ y, (pe E m).time = y := ⟨_, rfl⟩
        rw [hy] at cm
        have d2 : (m : Int) < (N : Int) := by have := GG.out; omega
        have d3 : decide ((m : Int) < 0) = false := decide_eq_false (by omega)
        have HB := Aside0.mk (And.intro hml (And.intro hmb (And.intro hmin hy)))
        clear hml hmb hmin hy
        by_cases hxy : x < y
        · have HXY := Aside0.mk hxy
          go_wp2_with fail
          go_quiet (fail)
          go_wp2
          go_roundg (N - (i + 1))
          case measure => have := GG.out; omega
          case rel =>
            refine ⟨i + 1, (i : Int), _, by go_num, rfl, by omega, by have := GG.out; omega, ⟨.inr ⟨i, rfl, by omega, fun k hk => ?_, fun k hk => ?_⟩⟩, rfl⟩
            · have h1 := HB.out.2.2.1 k hk
              have := HB.out.2.2.2
              have := HX.out
              have := HXY.out
              omega
            · by_cases c : k = i
              · subst c; exact Int.le_refl _
              · have h1 := HB.out.2.2.1 k (by omega)
                have := HB.out.2.2.2
                have := HX.out
                have := HXY.out
                omega
        · have d4 : decide (x < y) = false := decide_eq_false hxy
          have HXY := Aside0.mk hxy
          go_wp2_with fail
          go_quiet (fail)
          go_wp2
          go_roundg (N - (i + 1))
          case measure => have := GG.out; omega
          case rel =>
            refine ⟨i + 1, (m : Int), _, by go_num, rfl, by omega, by have := GG.out; omega, ⟨.inr ⟨m, rfl, by have := HB.out.1; omega, HB.out.2.1, fun k hk => ?_⟩⟩, rfl⟩
            by_cases c : k = i
            · subst c
              have := HB.out.2.2.2
              have := HX.out
              have := HXY.out
              omega
            · exact HB.out.2.2.1 k (by omega)
    · obtain rfl : i = N := by omega
      clear hg hi hlt
      go_wp2
      go_ret
      exact ⟨b, rfl, hn.out, n, rfl⟩
/-- append at a step of a region that draws, of however many elements, none too. -/
theorem step_append_any {P : Program} {w : World} {ops : Array Oper} {o : Oper} {a : Act} {K : Act → World → Prop} {Q : Exit → Act → World → Prop} {X : Prop} (hgd : o.guard = none) (s x : Operand) (t : TypeId)
    (ho : o.op = .call { callee := .builtin .append, args := #[s, x], argTypes := #[t, t] })
    (base : Nat) (e : TypeId) (i : TypeInfo) (z : Value) (size bytes : Nat) (ht : P.underlying t = some (.slice e)) (hi : P.info? e = some i) (hz : i.zero = some z)
    (hsize : i.size = size) (hby : i.bytes = bytes) (hzs : z.cells.size = size) (hsz : 0 < size)
    (v : Value) (n : Nat) (xs : List Value) (hs : a.eval s = v) (hown : w.ownsRow base e size v n xs)
    (ad : Addr) (m c : Nat) (news : List Value) (hx : a.eval x = .slice (some ad) m c) (hl : news.length = m * size) (hnews : ∀ j u, news[j]? = some u → w.cell? (ad.add j) = some u) (h1 : ∀ u ∈ news, u.oneCell' = true)
    (h63 : n + m ≤ maxLen) (hbytes : (n + m) * bytes ≤ 140737488355328) (hbase : base ≤ w.heap.size)
    (h : ∀ v' w', w'.ownsRow base e size v' (n + m) (xs ++ news) → w.grownBy w' v.ownBlock → (v'.ownBlock = v.ownBlock ∨ v'.ownBlock = some w.heap.size) → K (a.put o.dst v') w') :
    if Region.wanted o (yielded ops a.tmps) = true then Oper.wp P o a w K Q else X := by
  have hw : Region.wanted o (yielded ops a.tmps) = true := by simp [Region.wanted, hgd]
  rw [if_pos hw]
  obtain ⟨v', w', hr, h2, h3, _, h5⟩ := run_append_own_at (P := P) w base t o.type e i z size bytes ht hi hz hsize hby hzs hsz v n xs hown ad m c news hl hnews h1 h63 hbytes hbase
  unfold Oper.wp execOp
  simp only [ho, resolve, invoke, builtin, Sem.run_bind, Sem.run_pure, Result.andThen_ok, List.map_toArray, List.map_cons, List.map_nil, hs, hx, hr]
  exact h v' w' h2 h3 h5
theorem infoREvent : (Try.prog.info? 64).map (fun i => (i.zero, i.size, i.bytes)) = some (some zE, 3, 24) := by kernel_rfl
end Go.Proofs.Ytpliaagfhjnnaaa.Ev

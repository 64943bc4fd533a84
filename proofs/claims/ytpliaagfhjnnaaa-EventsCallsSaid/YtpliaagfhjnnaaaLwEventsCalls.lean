/- The walk of the law EventsCalls. -/
import Derived.Test.YtpliaagfhjnnaaaEvZ
import Derived.Test.YtpliaagfhjnnaaaKinds
import Derived.Deep.Cut
import Derived.Deep.RegionHeld3
namespace Go.Proofs.Ytpliaagfhjnnaaa.Ev
open Go.RowKit Go.Proofs.YtpliaagfhjnnaaaW.PrintWords Go.Proofs.Ytpliaagfhjnnaaa.Sep Go.Proofs.Ytpliaagfhjnnaaa.HeapP Go.Proofs.Ytpliaagfhjnnaaa.Heap Go.Proofs.Ytpliaagfhjnnaaa.EvP
set_option linter.unusedVariables false
set_option linter.unusedSimpArgs false

def actsOk (l : List S47) : Bool := l.all fun x => decide (0 ≤ x.f0) && decide (x.f0 ≤ 255) && (Lit.int .i64 x.f1).wf
def waypointlaw51_EventsCalls.f (l0 : List S47) : Option Bool := if actsOk l0 = true then some true else none
theorem cellAt {F : Nat → Prop} {w w1 : World} (h : Chg F w w1) {a : Addr} {v : Value} (hc : w.cell? a = some v) (hn : ¬ F a.block) : w1.cell? a = some v :=
  (World.cell?_of_block (w := w) (h.block a.block (World.block_lt_of_cell? w a hc) hn)).trans hc
theorem arg_acts {w : World} {A : Option Addr} {l : List S47} (h : Kd.C k47 w A l.length l) : ∃ ad : Addr, l.length = 0 ∨ (A = some ad ∧ ∀ i, i < l.length → ∀ w', Below w.heap.size w w' → w'.cell? (ad.add (i * 3)) = some (.int .u8 (l.getD i z47).f0) ∧ w'.cell? ⟨(ad.add (i * 3)).block, (ad.add (i * 3)).off + 1, none⟩ = some (.int .i64 (l.getD i z47).f1) ∧ w'.cell? ⟨(ad.add (i * 3)).block, (ad.add (i * 3)).off + 2, none⟩ = some (.int .i64 (l.getD i z47).f2)) := by
  rcases Nat.eq_zero_or_pos l.length with h0 | h0
  · exact ⟨⟨0, 0, none⟩, .inl h0⟩
  · obtain ⟨ad, rfl, _⟩ := at_T47 h 0 (by omega) (by omega)
    refine ⟨ad, .inr ⟨rfl, fun i hi w' hb => ?_⟩⟩
    obtain ⟨ad2, e, c0, c1, c2⟩ := at_T47 h (i : Int) (by omega) (by omega)
    injection e with e
    subst e
    have e2 : rd_T47 l (i : Int) = l.getD i z47 := by simp [rd_T47]
    rw [e2, Int.toNat_natCast] at c0 c1 c2
    exact ⟨pw_cell_below hb c0, pw_cell_below hb c1, pw_cell_below hb c2⟩
theorem actsOk_at {l : List S47} (h : actsOk l = true) (i : Nat) (hi : i < l.length) : (0 ≤ (l.getD i z47).f0 ∧ (l.getD i z47).f0 ≤ 255) ∧ (Lit.int .i64 (l.getD i z47).f1).wf = true := by
  simp only [actsOk, List.all_eq_true, Bool.and_eq_true, decide_eq_true_eq] at h
  have := h (l.getD i z47) (by simp [List.getD_eq_getElem?_getD, List.getElem?_eq_getElem hi])
  exact this
theorem addL_le {l er : Int} {j : Nat} (h : l ≤ (j : Int)) : addL l er ≤ ((j + 1 : Nat) : Int) := by unfold addL; split <;> omega
theorem addL_nn {l er : Int} (h : 0 ≤ l) : 0 ≤ addL l er := by unfold addL; split <;> omega
def CallsI (w wr : World) (O : Nat → Prop) (q r : Nat) (j : Nat) (E : List EvP.Ev) (l n : Int) : Prop := TwoR w wr O q E l n r E l n ∧ l ≤ (j : Int) ∧ j ≤ 301
section
variable {w wr w1 w2 : World} {O : Nat → Prop} {q r j : Nat} {E : List EvP.Ev} {l n : Int}
theorem CallsI.lo (h : CallsI w wr O q r j E l n) : l < 4294967295 ∧ l < 4294967296 ∧ 0 ≤ l := by
  have h0 := h.1.facts.2.2.2.2.1
  have h1 := h.2
  omega
theorem CallsI.up (h : CallsI w wr O q r j E l n) (hj : j ≤ 300) : CallsI w wr O q r (j + 1) E l n := ⟨h.1, by have := h.2; omega, by omega⟩
theorem CallsI.drewN (h : CallsI w wr O q r j E l n) (k : Nat) : CallsI w (wr.drewN k) O q r j E l n := ⟨h.1.drewN k, h.2⟩
theorem CallsI.drew (h : CallsI w wr O q r j E l n) : CallsI w wr.drew O q r j E l n := h.drewN 1
theorem CallsI.alone (h : CallsI w wr O q r j E l n) : CallsI w wr (fun _ => False) q r j E l n := ⟨h.1.alone, h.2⟩
theorem c_peek (h : CallsI w wr O q r j E l n) : Calls Try.prog 19 #[.pointer (some ⟨q, 0, none⟩)] wr fun e w' => ∃ t ok, PeekS E t ok ∧ e = .returned (.tuple #[.int .i64 t, .bool ok]) ∧ CallsI w w' O q r j E l n := by
  refine (s_peek h.1 h.lo.2.1).mono fun e w' he => ?_
  obtain ⟨t, ok, a, b, c, d⟩ := he
  exact ⟨t, ok, a, b, c, h.2⟩
theorem c_rpeek (h : CallsI w wr O q r j E l n) {t : Int} {ok : Bool} (hp : PeekS E t ok) : Calls Try.prog 20 #[.pointer (some ⟨r, 0, none⟩)] wr fun e w' => e = .returned (.tuple #[.int .i64 t, .bool ok]) ∧ CallsI w w' O q r j E l n := by
  have hf := h.1.facts
  refine (s_rpeek (last := l) h.1 hf.1 hf.2.1 h.lo.2.1 hf.2.2.2.2.2).mono fun e w' he => ?_
  obtain ⟨t2, ok2, a, b, c, d⟩ := he
  obtain ⟨rfl, rfl⟩ := PeekS.same hf.1 hf.2.1 h.lo.2.1 hp a
  exact ⟨b, c, h.2⟩
theorem c_next (h : CallsI w wr O q r j E l n) : Calls Try.prog 12 #[.pointer (some ⟨q, 0, none⟩)] wr fun e w' => ∃ t d ok E' n', NextS E n t d ok E' n' ∧ e = .returned (.tuple #[.int .i64 t, .int .i64 d, .bool ok]) ∧ TwoR w w' O q E' l n' r E l n := by
  refine (s_next h.1 h.lo.2.1).mono fun e w' he => ?_
  obtain ⟨t, d, ok, E', n', a, b, c, _⟩ := he
  exact ⟨t, d, ok, E', n', a, b, c⟩
theorem c_rnext {t d n' : Int} {ok : Bool} {E' : List EvP.Ev} (h : CallsI w wr O q r j E l n) (hn : NextS E n t d ok E' n') (h2 : TwoR w w2 O q E' l n' r E l n) : Calls Try.prog 17 #[.pointer (some ⟨r, 0, none⟩)] w2 fun e w' => e = .returned (.tuple #[.int .i64 t, .int .i64 d, .bool ok]) ∧ CallsI w w' O q r j E' l n' := by
  have hf := h.1.facts
  refine (s_rnext (last := l) h2 hf.1 hf.2.1 h.lo.2.1 hf.2.2.2.2.2).mono fun e w' he => ?_
  obtain ⟨t2, d2, ok2, E2, n2, a, b, c, _⟩ := he
  obtain ⟨rfl, rfl, rfl, rfl, rfl⟩ := NextS.same hf.1 hf.2.1 h.lo.2.1 hn a
  exact ⟨b, c, h.2⟩
theorem c_add (h : CallsI w wr O q r j E l n) (t d id er : Int) (he : addErr n t E.length = er) (hi : addI l er = id) : Calls Try.prog 11 #[.pointer (some ⟨q, 0, none⟩), .int .i64 t, .int .i64 d] wr fun e w' => e = .returned (.tuple #[.int .i64 id, .int .i64 er]) ∧ TwoR w w' O q (addE E l t d er) (addL l er) n r E l n ∧ Chg (OthQ w O) wr w' := by
  subst he hi
  exact s_add h.1 t d h.lo.1
theorem c_radd (h : CallsI w wr O q r j E l n) (t d id er : Int) (he : addErr n t E.length = er) (hi : addI l er = id) (h2 : TwoR w w2 O q (addE E l t d er) (addL l er) n r E l n) : Calls Try.prog 16 #[.pointer (some ⟨r, 0, none⟩), .int .i64 t, .int .i64 d] w2 fun e w' => e = .returned (.tuple #[.int .i64 id, .int .i64 er]) ∧ (j ≤ 300 → CallsI w w' O q r (j + 1) (addE E l t d er) (addL l er) n) := by
  subst he hi
  refine (s_radd h2 t d h.lo.2.2 h.lo.1).mono fun e w' he => ?_
  exact ⟨he.1, fun hj => ⟨he.2.1, addL_le h.2.1, by omega⟩⟩
def CanS (E : List EvP.Ev) (id c : Int) : Prop := (c = 8 ∧ ∀ x ∈ E, x.id ≠ id) ∨ (c = 0 ∧ ∃ x ∈ E, x.id = id)
theorem CanS.same {id c c2 : Int} (h : CanS E id c) (h2 : CanS E id c2) : c = c2 := by
  rcases h with ⟨rfl, a⟩ | ⟨rfl, x, hx, a⟩ <;> rcases h2 with ⟨rfl, b⟩ | ⟨rfl, y, hy, b⟩
  · rfl
  · exact absurd b (a y hy)
  · exact absurd a (b x hx)
  · rfl
theorem c_cancel (h : CallsI w wr O q r j E l n) (id : Int) (hid : (Lit.int .i64 id).wf = true) : Calls Try.prog 14 #[.pointer (some ⟨q, 0, none⟩), .int .i64 id] wr fun e w' => ∃ c, CanS E id c ∧ e = .returned (.int .i64 c) ∧ TwoR w w' O q (EvP.drop E id) l n r E l n ∧ Chg (OthQ w O) wr w' := s_cancel h.1 id hid h.lo.2.1
theorem c_rcancel (h : CallsI w wr O q r j E l n) {id c : Int} (hc : CanS E id c) (h2 : TwoR w w2 O q (EvP.drop E id) l n r E l n) : Calls Try.prog 18 #[.pointer (some ⟨r, 0, none⟩), .int .i64 id] w2 fun e w' => e = .returned (.int .i64 c) ∧ CallsI w w' O q r j (EvP.drop E id) l n ∧ Chg (OthQ w O) w2 w' := by
  have hf := h.1.facts
  refine (s_rcancel h2 id hf.1 hf.2.2.2.2.2).mono fun e w' he => ?_
  obtain ⟨c2, a, b, d, f⟩ := he
  obtain rfl := CanS.same hc a
  exact ⟨b, ⟨d, h.2⟩, f⟩
theorem c_now (h : CallsI w wr O q r j E l n) (m : Nat) : Calls Try.prog 15 #[.pointer (some ⟨q, 0, none⟩)] (wr.drewN m) fun e w' => e = .returned (.int .i64 n) ∧ ∃ k, w' = wr.drewN k := (s_now (h.drewN m).1).mono fun e w' he => ⟨he.1, m, he.2.symm⟩
theorem c_len (h : CallsI w wr O q r j E l n) (m : Nat) : Calls Try.prog 13 #[.pointer (some ⟨q, 0, none⟩)] (wr.drewN m) fun e w' => e = .returned (.int .i64 (E.length : Int)) ∧ ∃ k, w' = wr.drewN k := (s_len (h.drewN m).1).mono fun e w' he => ⟨he.1, m, he.2.symm⟩
end
set_option maxHeartbeats 16000000 in
set_option maxRecDepth 100000 in
theorem waypointlaw51_EventsCalls.calls (A0 : Option Addr) (c0 : Nat) (l0 : List S47) (r : Bool) (w : World) (hr0 : Kd.C k47 w A0 l0.length l0) (hc0 : l0.length ≤ c0) (h : waypointlaw51_EventsCalls.f l0 = some r) : Calls Try.prog 7 #[.slice A0 l0.length c0] w fun e w' => e = .returned (.bool r) ∧ Below w.heap.size w w' := by
  unfold waypointlaw51_EventsCalls.f at h
  split at h
  case isFalse => cases h
  rename_i hacts
  obtain rfl : true = r := by simpa using h
  clear h
  obtain ⟨ad, hA⟩ := arg_acts hr0
  have AA := Aside0.mk hA
  have AO := Aside0.mk hacts
  clear hr0 hA hacts hc0
  obtain ⟨L, hL⟩ : ∃ L, l0.length = L := ⟨_, rfl⟩
  have HL := Aside0.mk hL
  rw [hL]
  by_cases hbig : 300 < L
  · have d1 : 300 < (L : Int) := by omega
    clear hbig hL
    go_enter Try.func7, Try.ntmps7
    go_wp2_with (go_at_call 9; (with_reducible refine (awake_calls _).mono ?_); rintro e w1 ⟨rfl, h1⟩; have H1 := Aside0.mk h1; clear h1)
    go_ret
    exact ⟨rfl, H1.out⟩
  · have d1 : ¬ (300 < (L : Int)) := by omega
    have d2 : decide (300 < (L : Int)) = false := decide_eq_false d1
    have b1 : (L : Int) ≤ 300 := by omega
    clear hbig hL
    go_enter Try.func7, Try.ntmps7
    go_upto_region 6 with (first | (go_at_call 9; (with_reducible refine (awake_calls _).mono ?_); rintro e w1 ⟨rfl, h1⟩; have H1 := Aside0.mk h1; clear h1) | (go_at_call 10; (with_reducible refine (q_new H1.out).mono ?_); rintro e w2 ⟨q, rfl, h2⟩; have H2 := Aside0.mk h2; clear h2))
    have S0 : CallsI w (w2.alloc (.cells #[.slice none 0 0, .int .i64 0, .int .i64 0] 45)) (fun _ => False) q w2.heap.size 0 [] 0 0 := ⟨s_start H2.out, by omega, by omega⟩
    obtain ⟨rq, hrq⟩ : ∃ rq, w2.heap.size = rq := ⟨_, rfl⟩
    have SS := Aside0.mk S0
    rw [hrq] at SS ⊢
    clear S0
    generalize w2.alloc (.cells #[.slice none 0 0, .int .i64 0, .int .i64 0] 45) = wa at SS ⊢
    clear hrq
    go_wp2_with fail
    go_loopg [32] L (fun g v wr => ∃ (j : Nat) (E : List EvP.Ev) (l n : Int), v = .int .i64 (j : Int) ∧ L - j ≤ g ∧ j ≤ L ∧ Aside0 (CallsI w wr (fun _ => False) q rq j E l n))
    case atStart => exact ⟨0, _, _, _, rfl, by omega, by omega, SS⟩
    case round =>
      obtain ⟨j, E, l, n, rfl, hg, hj, R⟩ := hrel
      by_cases hlt : j < L
      · have GG := Aside0.mk (And.intro hg (And.intro hj hlt))
        have d3 : (j : Int) < (L : Int) := by omega
        obtain ⟨rfl, hcell⟩ := AA.out.resolve_left (by have := HL.out; omega)
        obtain ⟨c0, c1', c2⟩ := hcell j (by have := HL.out; omega) wr R.out.1.below
        have hk := actsOk_at AO.out j (by have := HL.out; omega)
        obtain ⟨kd, hkd⟩ : ∃ x, (l0.getD j z47).f0 = x := ⟨_, rfl⟩
        obtain ⟨I, hI⟩ : ∃ x, (l0.getD j z47).f1 = x := ⟨_, rfl⟩
        obtain ⟨D, hD⟩ : ∃ x, (l0.getD j z47).f2 = x := ⟨_, rfl⟩
        rw [hkd, hI] at hk
        rw [hkd] at c0
        rw [hI] at c1'
        rw [hD] at c2
        obtain ⟨⟨k0, k1⟩, hid⟩ := hk
        have HID := Aside0.mk hid
        clear hg hj hlt hcell hkd hI hD hid
        go_upto_block 2 with (fail)
        obtain ⟨b, hb⟩ : ∃ b, wr.heap.size = b := ⟨_, rfl⟩
        have bk : (wr.alloc (.cells #[.int .u8 kd, .int .i64 I, .int .i64 D] 47)).heap[b]? = some (.cells #[.int .u8 kd, .int .i64 I, .int .i64 D] 47 (0, 0)) := by rw [← hb]; exact heap_alloc_new wr _
        have T0 : Aside0 (CallsI w (wr.alloc (.cells #[.int .u8 kd, .int .i64 I, .int .i64 D] 47)) (fun k => k = b) q rq j E l n) := ⟨R.out.1.beside b (by omega) ((Chg.refl _ _).alloc (.cells #[.int .u8 kd, .int .i64 I, .int .i64 D] 47)) (by simp; omega), R.out.2⟩
        rw [hb]
        generalize wr.alloc (.cells #[.int .u8 kd, .int .i64 I, .int .i64 D] 47) = wa at bk T0 ⊢
        have f0 := blk_at bk 0 _ rfl
        have f1 := blk_at bk 1 _ rfl
        have f2 := blk_at bk 2 _ rfl
        obtain ⟨Ar, cr, x0, x2⟩ := T0.out.1.cells
        have n0 := T0.out.1.facts.2.2.2.1
        clear bk hb c0 c1' c2 R x0
        have e0 : (kd % 4 = 0) ∨ (kd % 4 = 1 ∧ 0 ≤ I ∧ I < 1000) ∨ (kd % 4 = 1 ∧ 0 ≤ I ∧ 1000 ≤ I) ∨ (kd % 4 = 1 ∧ I < 0) ∨ (kd % 4 = 2) ∨ (kd % 4 = 3) := by omega
        rcases e0 with e1 | ⟨e1, i0, i1⟩ | ⟨e1, i0, i1⟩ | ⟨e1, i0⟩ | e1 | e1
        · have e2 : kd.tmod 4 = 0 := by rw [Int.tmod_eq_emod_of_nonneg k0]; exact e1
          obtain ⟨er, her⟩ : ∃ x, addErr n I E.length = x := ⟨_, rfl⟩
          obtain ⟨id, hidd⟩ : ∃ x, addI l er = x := ⟨_, rfl⟩
          have AE := Aside0.mk (And.intro her hidd)
          clear her hidd
          go_wp2_with (first | (go_at_call 11; (with_reducible refine (c_add T0.out I D id er AE.out.1 AE.out.2).mono ?_); rintro e w5 ⟨rfl, h5, hc5⟩; have T5 := Aside0.mk h5; have g2 := cellAt hc5 f2 (fun q => q.2 rfl); clear h5 hc5) | (go_at_call 16; (with_reducible refine (c_radd T0.out I D id er AE.out.1 AE.out.2 T5.out).mono ?_); rintro e w6 ⟨rfl, h6⟩; have T6 := Aside0.mk (h6 (by have := GG.out; omega)); clear h6) | (go_at_call 19; (with_reducible refine (c_peek T6.out).mono ?_); rintro e w7 ⟨pt, pk, hp, rfl, h7⟩; have P7 := Aside0.mk hp; have T7 := Aside0.mk h7; clear hp h7) | (go_at_call 20; (with_reducible refine (c_rpeek T7.out P7.out).mono ?_); rintro e w8 ⟨rfl, h8⟩; have T8 := Aside0.mk h8; clear h8))
          obtain ⟨Ar, cr, x0, x2⟩ := T8.out.1.cells
          go_quiet ((first | (go_at_call 15; exact c_now T8.out _) | (go_at_call 13; exact c_len T8.out _)))
          go_wp2_with fail
          go_roundg (L - (j + 1))
          case measure => have := GG.out; omega
          case rel => exact ⟨j + 1, _, _, _, by go_num, by omega, by have := GG.out; omega, ⟨(T8.out.drewN _).alone⟩⟩
        · have e2 : kd.tmod 4 = 1 := by rw [Int.tmod_eq_emod_of_nonneg k0]; exact e1
          obtain ⟨n0a, n0b⟩ := n0
          obtain ⟨er, her⟩ : ∃ x, addErr n (I + n) E.length = x := ⟨_, rfl⟩
          obtain ⟨id, hidd⟩ : ∃ x, addI l er = x := ⟨_, rfl⟩
          have AE := Aside0.mk (And.intro her hidd)
          clear her hidd
          go_wp2_with (first | (go_at_call 11; (with_reducible refine (c_add T0.out (I + n) D id er AE.out.1 AE.out.2).mono ?_); rintro e w5 ⟨rfl, h5, hc5⟩; have T5 := Aside0.mk h5; have g2 := cellAt hc5 f2 (fun q => q.2 rfl); clear h5 hc5) | (go_at_call 16; (with_reducible refine (c_radd T0.out (I + n) D id er AE.out.1 AE.out.2 T5.out).mono ?_); rintro e w6 ⟨rfl, h6⟩; have T6 := Aside0.mk (h6 (by have := GG.out; omega)); clear h6) | (go_at_call 19; (with_reducible refine (c_peek T6.out).mono ?_); rintro e w7 ⟨pt, pk, hp, rfl, h7⟩; have P7 := Aside0.mk hp; have T7 := Aside0.mk h7; clear hp h7) | (go_at_call 20; (with_reducible refine (c_rpeek T7.out P7.out).mono ?_); rintro e w8 ⟨rfl, h8⟩; have T8 := Aside0.mk h8; clear h8))
          obtain ⟨Ar, cr, x0, x2⟩ := T8.out.1.cells
          go_quiet ((first | (go_at_call 15; exact c_now T8.out _) | (go_at_call 13; exact c_len T8.out _)))
          go_wp2_with fail
          go_roundg (L - (j + 1))
          case measure => have := GG.out; omega
          case rel => exact ⟨j + 1, _, _, _, by go_num, by omega, by have := GG.out; omega, ⟨(T8.out.drewN _).alone⟩⟩
        · have e2 : kd.tmod 4 = 1 := by rw [Int.tmod_eq_emod_of_nonneg k0]; exact e1
          have i2 : decide (I < 1000) = false := decide_eq_false (by omega)
          have i3 : ¬ I < 1000 := by omega
          obtain ⟨er, her⟩ : ∃ x, addErr n I E.length = x := ⟨_, rfl⟩
          obtain ⟨id, hidd⟩ : ∃ x, addI l er = x := ⟨_, rfl⟩
          have AE := Aside0.mk (And.intro her hidd)
          clear her hidd
          go_wp2_with (first | (go_at_call 11; (with_reducible refine (c_add T0.out I D id er AE.out.1 AE.out.2).mono ?_); rintro e w5 ⟨rfl, h5, hc5⟩; have T5 := Aside0.mk h5; have g2 := cellAt hc5 f2 (fun q => q.2 rfl); clear h5 hc5) | (go_at_call 16; (with_reducible refine (c_radd T0.out I D id er AE.out.1 AE.out.2 T5.out).mono ?_); rintro e w6 ⟨rfl, h6⟩; have T6 := Aside0.mk (h6 (by have := GG.out; omega)); clear h6) | (go_at_call 19; (with_reducible refine (c_peek T6.out).mono ?_); rintro e w7 ⟨pt, pk, hp, rfl, h7⟩; have P7 := Aside0.mk hp; have T7 := Aside0.mk h7; clear hp h7) | (go_at_call 20; (with_reducible refine (c_rpeek T7.out P7.out).mono ?_); rintro e w8 ⟨rfl, h8⟩; have T8 := Aside0.mk h8; clear h8))
          obtain ⟨Ar, cr, x0, x2⟩ := T8.out.1.cells
          go_quiet ((first | (go_at_call 15; exact c_now T8.out _) | (go_at_call 13; exact c_len T8.out _)))
          go_wp2_with fail
          go_roundg (L - (j + 1))
          case measure => have := GG.out; omega
          case rel => exact ⟨j + 1, _, _, _, by go_num, by omega, by have := GG.out; omega, ⟨(T8.out.drewN _).alone⟩⟩
        · have e2 : kd.tmod 4 = 1 := by rw [Int.tmod_eq_emod_of_nonneg k0]; exact e1
          have i2 : decide (0 ≤ I) = false := decide_eq_false (by omega)
          have i3 : ¬ 0 ≤ I := by omega
          obtain ⟨er, her⟩ : ∃ x, addErr n I E.length = x := ⟨_, rfl⟩
          obtain ⟨id, hidd⟩ : ∃ x, addI l er = x := ⟨_, rfl⟩
          have AE := Aside0.mk (And.intro her hidd)
          clear her hidd
          go_wp2_with (first | (go_at_call 11; (with_reducible refine (c_add T0.out I D id er AE.out.1 AE.out.2).mono ?_); rintro e w5 ⟨rfl, h5, hc5⟩; have T5 := Aside0.mk h5; have g2 := cellAt hc5 f2 (fun q => q.2 rfl); clear h5 hc5) | (go_at_call 16; (with_reducible refine (c_radd T0.out I D id er AE.out.1 AE.out.2 T5.out).mono ?_); rintro e w6 ⟨rfl, h6⟩; have T6 := Aside0.mk (h6 (by have := GG.out; omega)); clear h6) | (go_at_call 19; (with_reducible refine (c_peek T6.out).mono ?_); rintro e w7 ⟨pt, pk, hp, rfl, h7⟩; have P7 := Aside0.mk hp; have T7 := Aside0.mk h7; clear hp h7) | (go_at_call 20; (with_reducible refine (c_rpeek T7.out P7.out).mono ?_); rintro e w8 ⟨rfl, h8⟩; have T8 := Aside0.mk h8; clear h8))
          obtain ⟨Ar, cr, x0, x2⟩ := T8.out.1.cells
          go_quiet ((first | (go_at_call 15; exact c_now T8.out _) | (go_at_call 13; exact c_len T8.out _)))
          go_wp2_with fail
          go_roundg (L - (j + 1))
          case measure => have := GG.out; omega
          case rel => exact ⟨j + 1, _, _, _, by go_num, by omega, by have := GG.out; omega, ⟨(T8.out.drewN _).alone⟩⟩
        · have e2 : kd.tmod 4 = 2 := by rw [Int.tmod_eq_emod_of_nonneg k0]; exact e1
          go_wp2_with (first | (go_at_call 12; (with_reducible refine (c_next T0.out).mono ?_); rintro e w5 ⟨nt, nd, nok, E', n', hs, rfl, h5⟩; have T5 := Aside0.mk h5; have S5 := Aside0.mk hs; clear h5 hs) | (go_at_call 17; (with_reducible refine (c_rnext T0.out S5.out T5.out).mono ?_); rintro e w6 ⟨rfl, h6⟩; have T6 := Aside0.mk (h6.up (by have := GG.out; omega)); clear h6) | (go_at_call 19; (with_reducible refine (c_peek T6.out).mono ?_); rintro e w7 ⟨pt, pk, hp, rfl, h7⟩; have P7 := Aside0.mk hp; have T7 := Aside0.mk h7; clear hp h7) | (go_at_call 20; (with_reducible refine (c_rpeek T7.out P7.out).mono ?_); rintro e w8 ⟨rfl, h8⟩; have T8 := Aside0.mk h8; clear h8))
          obtain ⟨Ar, cr, x0, x2⟩ := T8.out.1.cells
          go_quiet ((first | (go_at_call 15; exact c_now T8.out _) | (go_at_call 13; exact c_len T8.out _)))
          go_wp2_with fail
          go_roundg (L - (j + 1))
          case measure => have := GG.out; omega
          case rel => exact ⟨j + 1, _, _, _, by go_num, by omega, by have := GG.out; omega, ⟨(T8.out.drewN _).alone⟩⟩
        · have e2 : kd.tmod 4 = 3 := by rw [Int.tmod_eq_emod_of_nonneg k0]; exact e1
          go_wp2_with fail
          go_region_held3 (fun w' => w'.cell? ⟨b, 1, none⟩ = some (.int .i64 I)) (first | go_keep | exact g1) (first | (go_at_call 14; (with_reducible refine (c_cancel T0.out.drew I HID.out).mono ?_); rintro e w5 ⟨c, hs, rfl, h5, hc5⟩; have g1 := cellAt hc5 (a := ⟨b, 1, none⟩) f1 (fun q => q.2 rfl); have T5 := Aside0.mk h5; have S5 := Aside0.mk hs; clear h5 hc5 hs) | (go_at_call 18; (with_reducible refine (c_rcancel T0.out S5.out T5.out).mono ?_); rintro e w6 ⟨rfl, h6, hc6⟩; have q1 := cellAt hc6 (a := ⟨b, 1, none⟩) g1 (fun q => q.2 rfl); have T6 := Aside0.mk (h6.up (by have := GG.out; omega)); clear h6 hc6 g1; have g1 := q1; clear q1))
          go_wp2_with (first | (go_at_call 19; (with_reducible refine (c_peek T6.out).mono ?_); rintro e w7 ⟨pt, pk, hp, rfl, h7⟩; have P7 := Aside0.mk hp; have T7 := Aside0.mk h7; clear hp h7) | (go_at_call 20; (with_reducible refine (c_rpeek T7.out P7.out).mono ?_); rintro e w8 ⟨rfl, h8⟩; have T8 := Aside0.mk h8; clear h8))
          obtain ⟨Ar, cr, x0, x2⟩ := T8.out.1.cells
          go_quiet ((first | (go_at_call 15; exact c_now T8.out _) | (go_at_call 13; exact c_len T8.out _)))
          go_wp2_with fail
          go_roundg (L - (j + 1))
          case measure => have := GG.out; omega
          case rel => exact ⟨j + 1, _, _, _, by go_num, by omega, by have := GG.out; omega, ⟨(T8.out.drewN _).alone⟩⟩
      · obtain rfl : j = L := by omega
        clear hg hj hlt
        have hB := Aside0.mk R.out.1.below
        clear R
        go_wp2_with fail
        go_ret
        exact ⟨rfl, hB.out⟩
end Go.Proofs.Ytpliaagfhjnnaaa.Ev

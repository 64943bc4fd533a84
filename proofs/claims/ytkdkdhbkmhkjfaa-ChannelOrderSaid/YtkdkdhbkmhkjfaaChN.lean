/- The program's New. -/
import Derived.Test.YtkdkdhbkmhkjfaaChF
import Derived.WalkSpells
namespace Go.Proofs.Ytkdkdhbkmhkjfaa.Ch
open Go.RowKit Go.Proofs.YtkdkdhbkmhkjfaaW.PrintWords Go.Proofs.YtkdkdhbkmhkjfaaW.PrintLast Go.Proofs.Ytkdkdhbkmhkjfaa.Sep Go.Proofs.Ytkdkdhbkmhkjfaa.ChP Go.Proofs.Ytkdkdhbkmhkjfaa.PT52
set_option linter.unusedVariables false
set_option linter.unusedSimpArgs false

set_option maxRecDepth 100000 in
theorem right_calls (f : Ft) (w : World) : Calls Try.prog 23 #[.agg #[.int .i64 f.kind, .int .i64 f.n]] w fun e w' => e = .returned (.bool (right f)) ∧ Below w.heap.size w w' := by
  have hb : Below w.heap.size w (w.alloc (.cells #[.int .i64 f.kind, .int .i64 f.n] 50)) := (Below.refl _ _).alloc (Nat.le_refl _) _
  have HB := Aside0.mk hb
  clear hb
  obtain ⟨r, hr⟩ : ∃ r, right f = r := ⟨_, rfl⟩
  rw [hr]
  unfold right at hr
  obtain ⟨k, n⟩ := f
  simp only at hr HB ⊢
  have hcase : k = 0 ∨ k = 1 ∨ k = 2 ∨ k = 3 ∨ (k ≠ 0 ∧ k ≠ 1 ∧ k ≠ 2 ∧ k ≠ 3) := by omega
  rcases hcase with rfl | rfl | rfl | rfl | ⟨h0, h1, h2, h3⟩
  · rw [if_pos (Or.inl rfl)] at hr
    by_cases hn : n = 0
    · subst hn
      obtain rfl : r = true := by rw [← hr]; rfl
      go_enter Try.func23, Try.ntmps23
      go_wp2
      go_ret
      exact ⟨rfl, HB.out⟩
    · have d1 : (n == 0) = false := beq_eq_false_iff_ne.2 hn
      obtain rfl : r = false := by rw [← hr]; simpa using hn
      clear hr hn
      go_enter Try.func23, Try.ntmps23
      go_wp2
      go_ret
      exact ⟨rfl, HB.out⟩
  · rw [if_pos (Or.inr rfl)] at hr
    by_cases hn : n = 0
    · subst hn
      obtain rfl : r = true := by rw [← hr]; rfl
      go_enter Try.func23, Try.ntmps23
      go_wp2
      go_ret
      exact ⟨rfl, HB.out⟩
    · have d1 : (n == 0) = false := beq_eq_false_iff_ne.2 hn
      obtain rfl : r = false := by rw [← hr]; simpa using hn
      clear hr hn
      go_enter Try.func23, Try.ntmps23
      go_wp2
      go_ret
      exact ⟨rfl, HB.out⟩
  · rw [if_neg (by omega), if_pos (Or.inl rfl)] at hr
    by_cases hn : 0 ≤ n
    · by_cases hm : n ≤ 65536
      · obtain rfl : r = true := by rw [← hr]; exact decide_eq_true ⟨hn, hm⟩
        clear hr
        go_enter Try.func23, Try.ntmps23
        go_wp2
        go_ret
        exact ⟨rfl, HB.out⟩
      · obtain rfl : r = false := by rw [← hr]; exact decide_eq_false (fun q => hm q.2)
        have d1 : decide (n ≤ 65536) = false := decide_eq_false hm
        clear hr
        go_enter Try.func23, Try.ntmps23
        go_wp2
        go_ret
        exact ⟨rfl, HB.out⟩
    · obtain rfl : r = false := by rw [← hr]; exact decide_eq_false (fun q => hn q.1)
      have d1 : decide (0 ≤ n) = false := decide_eq_false hn
      clear hr
      go_enter Try.func23, Try.ntmps23
      go_wp2
      go_ret
      exact ⟨rfl, HB.out⟩
  · rw [if_neg (by omega), if_pos (Or.inr rfl)] at hr
    by_cases hn : 0 ≤ n
    · by_cases hm : n ≤ 65536
      · obtain rfl : r = true := by rw [← hr]; exact decide_eq_true ⟨hn, hm⟩
        clear hr
        go_enter Try.func23, Try.ntmps23
        go_wp2
        go_ret
        exact ⟨rfl, HB.out⟩
      · obtain rfl : r = false := by rw [← hr]; exact decide_eq_false (fun q => hm q.2)
        have d1 : decide (n ≤ 65536) = false := decide_eq_false hm
        clear hr
        go_enter Try.func23, Try.ntmps23
        go_wp2
        go_ret
        exact ⟨rfl, HB.out⟩
    · obtain rfl : r = false := by rw [← hr]; exact decide_eq_false (fun q => hn q.1)
      have d1 : decide (0 ≤ n) = false := decide_eq_false hn
      clear hr
      go_enter Try.func23, Try.ntmps23
      go_wp2
      go_ret
      exact ⟨rfl, HB.out⟩
  · rw [if_neg (by omega), if_neg (by omega)] at hr
    subst hr
    have d0 : (k == 0) = false := beq_eq_false_iff_ne.2 h0
    have d1 : (k == 1) = false := beq_eq_false_iff_ne.2 h1
    have d2 : (k == 2) = false := beq_eq_false_iff_ne.2 h2
    have d3 : (k == 3) = false := beq_eq_false_iff_ne.2 h3
    clear h0 h1 h2 h3
    go_enter Try.func23, Try.ntmps23
    go_wp2
    go_ret
    exact ⟨rfl, HB.out⟩
theorem lam_calls (f : Ft) (w : World) : Calls Try.prog 22 #[.agg #[.int .i64 f.kind, .int .i64 f.n]] w fun e w' => e = .returned (.bool (!right f)) ∧ Below w.heap.size w w' := by
  have hb : Below w.heap.size w (w.alloc (.cells #[.int .i64 f.kind, .int .i64 f.n] 50)) := (Below.refl _ _).alloc (Nat.le_refl _) _
  have HB := Aside0.mk hb
  clear hb
  go_enter Try.func22, Try.ntmps22
  go_wp2_with (go_at_call 23; (with_reducible refine (right_calls f _).mono ?_); rintro e w1 ⟨rfl, h1⟩; have H1 := Aside0.mk (below_step HB.out h1); clear h1)
  go_ret
  exact ⟨rfl, H1.out⟩
set_option maxHeartbeats 4000000 in
set_option maxRecDepth 100000 in
theorem index_calls (v : Value) (sc : List Ft) (w : World) (ho : OwnF 50 w v sc) (hl : sc.length ≤ 100000) :
    Calls Try.prog 30 #[v, .func (.func 22) #[] #[]] w fun e w' => ∃ r : Int, e = .returned (.int .i64 r) ∧ decide (0 ≤ r) = !(sc.all right) ∧ Below w.heap.size w w' := by
  obtain ⟨N, hN⟩ : ∃ N, sc.length = N := ⟨_, rfl⟩
  obtain ⟨A, c, rfl⟩ := ho.slice
  have HO := Aside0.mk ho
  have HN := Aside0.mk (And.intro hN hl)
  rw [hN]
  have b1 : (N : Int) ≤ 100000 := by omega
  clear ho hl hN
  go_enter Try.func30, Try.ntmps30
  go_wp2
  go_loopg [8] N (fun g v8 wr => ∃ i : Nat, v8 = .int .i64 (i : Int) ∧ N - i ≤ g ∧ i ≤ N ∧ Aside0 ((∀ j, j < i → right (gf sc j) = true) ∧ Below w.heap.size w wr))
  case atStart => exact ⟨0, rfl, by omega, by omega, ⟨fun j hj => by omega, Below.refl _ _⟩⟩
  case round =>
    obtain ⟨i, rfl, hg, hi, R⟩ := hrel
    by_cases hlt : i < N
    · obtain ⟨gb, cb, e, hgb⟩ := HO.out.form (by have := HN.out; omega)
      injection e with e1 _ e3
      subst e1
      have hcs := HO.out.cells i (by have := HN.out; omega)
      obtain ⟨x, hx⟩ : ∃ x, gf sc i = x := ⟨_, rfl⟩
      rw [hx] at hcs
      have hx0 := (R.out.2.cell (p := ⟨gb, i * 2, none⟩) hgb).trans hcs.1
      have hx1 := (R.out.2.cell (p := ⟨gb, i * 2 + 1, none⟩) hgb).trans hcs.2
      have GG := Aside0.mk (And.intro hg (And.intro hi hlt))
      have d1 : (i : Int) < (N : Int) := by omega
      have HX := Aside0.mk hx
      clear hg hi hlt hx hcs e3
      by_cases hrt : right x = true
      · have HRT := Aside0.mk hrt
        clear hrt
        go_wp2_with (go_at_call 22; (with_reducible refine (lam_calls x _).mono ?_); rintro e w1 ⟨rfl, h1⟩; have H1 := Aside0.mk (below_step R.out.2 h1); clear h1; rw [HRT.out])
        go_roundg (N - (i + 1))
        case measure => have := GG.out; omega
        case rel =>
          refine ⟨i + 1, by go_num, by omega, by have := GG.out; omega, ⟨fun j hj => ?_, H1.out⟩⟩
          by_cases hji : j = i
          · subst hji; rw [HX.out]; exact HRT.out
          · exact R.out.1 j (by omega)
      · have HRT := Aside0.mk (Bool.eq_false_iff.2 hrt)
        clear hrt
        go_wp2_with (go_at_call 22; (with_reducible refine (lam_calls x _).mono ?_); rintro e w1 ⟨rfl, h1⟩; have H1 := Aside0.mk (below_step R.out.2 h1); clear h1; rw [HRT.out])
        go_ret
        refine ⟨(i : Int), rfl, ?_, H1.out⟩
        have hall : sc.all right = false := by
          rw [List.all_eq_false]
          refine ⟨gf sc i, ?_, by rw [HX.out, HRT.out]; simp⟩
          have := HN.out
          have := GG.out
          simp [gf, List.getD_eq_getElem?_getD, List.getElem?_eq_getElem (show i < sc.length by omega)]
        rw [hall]
        simp
    · obtain rfl : i = N := by omega
      clear hg hi hlt
      go_wp2
      go_ret
      refine ⟨-1, rfl, ?_, R.out.2⟩
      have hall : sc.all right = true := by
        rw [List.all_eq_true]
        intro x hx
        obtain ⟨j, hj, rfl⟩ := List.getElem_of_mem hx
        have := R.out.1 j (by have := HN.out; omega)
        rw [gf, List.getD_eq_getElem?_getD, List.getElem?_eq_getElem hj] at this
        exact this
      rw [hall]
      rfl
theorem contains_calls (v : Value) (sc : List Ft) (w : World) (ho : OwnF 50 w v sc) (hl : sc.length ≤ 100000) :
    Calls Try.prog 21 #[v, .func (.func 22) #[] #[]] w fun e w' => e = .returned (.bool (!(sc.all right))) ∧ Below w.heap.size w w' := by
  obtain ⟨A, c, rfl⟩ := ho.slice
  have HO := Aside0.mk (And.intro ho hl)
  clear ho hl
  go_enter Try.func21, Try.ntmps21
  go_wp2_with (go_at_call 30; (with_reducible refine (index_calls _ sc _ HO.out.1 HO.out.2).mono ?_); rintro e w1 ⟨r, rfl, hr, h1⟩; have H1 := Aside0.mk (And.intro hr h1); clear h1 hr)
  go_ret
  have e := H1.out.1
  exact ⟨show Ending.returned (.bool (decide (0 ≤ r))) = _ from by rw [e], H1.out.2⟩
theorem clone_calls (v : Value) (sc : List Ft) (w : World) (ho : OwnF 50 w v sc) (hl : sc.length ≤ 100000) :
    Calls Try.prog 24 #[v] w fun e w' => ∃ v1, e = .returned v1 ∧ w'.ownsRow w.heap.size 50 2 v1 sc.length (ftc sc) ∧ Below w.heap.size w w' := by
  obtain ⟨A, c, rfl⟩ := ho.slice
  rcases ho.2 with ⟨h', h2⟩ | ⟨g, cap, cur, h', hb, hh, hr⟩
  · injection h' with e1 e2 e3
    subst e1 e3
    have hsc : sc = [] := List.eq_nil_of_length_eq_zero e2
    subst hsc
    have hnil : ∀ W : World, (binOp .eql 37 (.slice none 0 0) (.slice none 0 0)).run Try.prog W = .ok (.bool true) W := fun W => Go.Lib.run_eql_slice_nil (P := Try.prog) W 37 50 none 0 0 0 0 Try.underlying37
    clear ho hl h2
    go_enter Try.func24, Try.ntmps24
    go_wp2
    go_ret
    exact ⟨_, rfl, ⟨rfl, .inl ⟨rfl, rfl⟩⟩, Below.refl _ _⟩
  · injection h' with e1 _ e3
    subst e1 e3
    have hnil : ∀ W : World, (binOp .eql 37 (.slice (some ⟨g, 0, none⟩) sc.length c) (.slice none 0 0)).run Try.prog W = .ok (.bool false) W := fun W => Go.Lib.run_eql_slice_nil (P := Try.prog) W 37 50 (some ⟨g, 0, none⟩) sc.length c 0 0 Try.underlying37
    obtain ⟨i0, hi0, hzz⟩ := Option.map_eq_some_iff.1 infoFate
    simp only [Prod.mk.injEq] at hzz
    obtain ⟨hz0, hz1, hz2⟩ := hzz
    have HZ := Aside0.mk (And.intro hi0 (And.intro hz0 (And.intro hz1 hz2)))
    have HO := Aside0.mk (And.intro ho hl)
    have HN : Aside0 (∀ j u, (ftc sc)[j]? = some u → (w.alloc (.cells #[] 50)).cell? ((⟨g, 0, none⟩ : Addr).add j) = some u) := ⟨fun j u hu => World.ownsRow.cells (World.ownsRow.alloc ho (.cells #[] 50)) (g := g) rfl j u hu⟩
    have EM : Aside0 ((w.alloc (.cells #[] 50)).ownsRow w.heap.size 50 2 (.slice (some ⟨w.heap.size, 0, none⟩) 0 0) 0 []) := ⟨⟨rfl, .inr ⟨w.heap.size, 0, #[], rfl, Nat.le_refl _, heap_alloc_new w _, Nat.le_refl _, Nat.zero_le _, rfl, rfl⟩⟩⟩
    clear ho hl hr hh hb hi0 hz0 hz1 hz2 cur
    go_enter Try.func24, Try.ntmps24
    go_wp2_with (at_builtin; refine wpList_append_own_at _ rfl (.tmp 5) (.tmp 6) 37 rfl w.heap.size 50 i0 (.agg #[.int .i64 0, .int .i64 0]) 2 16 Try.underlying37 HZ.out.1 HZ.out.2.1 HZ.out.2.2.1 HZ.out.2.2.2 rfl (by decide) _ _ _ (by simp [Act.eval]) EM.out ⟨g, 0, none⟩ sc.length c (ftc sc) (by simp [Act.eval]) (ftc_length sc) HN.out (ftc_one sc) (by have := HO.out.2; simp only [maxLen]; omega) (by have := HO.out.2; omega) (by simp) ?_; intro v1 w6 hown hg _ hat; have O6 := Aside0.mk hown; have B6 := Aside0.mk (((Below.refl w.heap.size w).alloc (Nat.le_refl _) (.cells #[] 50)).grown hg (by simp) (own_base EM.out)); clear hown hg hat)
    go_ret
    exact ⟨_, rfl, by have := O6.out; simpa using this, B6.out⟩
theorem numsOk_at {dl rt rm : Int} (h : numsOk dl rt rm = true) : 1 ≤ dl ∧ dl ≤ 65536 ∧ 1 ≤ rt ∧ rt ≤ 1048576 ∧ 0 ≤ rm ∧ rm ≤ 65536 := of_decide_eq_true h
/-- What New says. -/
def NewP (w : World) (dl rt rm : Int) (sc : List Ft) (e : Ending) (w' : World) : Prop := (valid dl rt rm sc = true ∧ ∃ c, e = .returned (.tuple #[.pointer (some ⟨c, 0, none⟩), .int .i64 0]) ∧ (∃ G, CIs 55 50 w' G c ⟨dl, rt, rm, sc, [], 0, 0⟩ ∧ ∀ k, G k → w.heap.size ≤ k) ∧ Below w.heap.size w w') ∨ (valid dl rt rm sc = false ∧ e = .returned (.tuple #[.pointer none, .int .i64 1]) ∧ Below w.heap.size w w')
set_option maxHeartbeats 4000000 in
set_option maxRecDepth 100000 in
theorem new_calls (dl rt rm : Int) (v : Value) (sc : List Ft) (w : World) (ho : OwnF 50 w v sc) (hl : sc.length ≤ 100000) :
    Calls Try.prog 11 #[.int .i64 dl, .int .i64 rt, .int .i64 rm, v] w fun e w' => NewP w dl rt rm sc e w' := by
  obtain ⟨A, c, rfl⟩ := ho.slice
  have HO := Aside0.mk (And.intro ho hl)
  clear ho hl
  have hcase : dl < 1 ∨ (1 ≤ dl ∧ 65536 < dl) ∨ (1 ≤ dl ∧ dl ≤ 65536 ∧ rt < 1) ∨ (1 ≤ dl ∧ dl ≤ 65536 ∧ 1 ≤ rt ∧ 1048576 < rt) ∨ (1 ≤ dl ∧ dl ≤ 65536 ∧ 1 ≤ rt ∧ rt ≤ 1048576 ∧ rm < 0) ∨ (1 ≤ dl ∧ dl ≤ 65536 ∧ 1 ≤ rt ∧ rt ≤ 1048576 ∧ 0 ≤ rm ∧ 65536 < rm) ∨ (1 ≤ dl ∧ dl ≤ 65536 ∧ 1 ≤ rt ∧ rt ≤ 1048576 ∧ 0 ≤ rm ∧ rm ≤ 65536) := by omega
  have hbad : ¬ (1 ≤ dl ∧ dl ≤ 65536 ∧ 1 ≤ rt ∧ rt ≤ 1048576 ∧ 0 ≤ rm ∧ rm ≤ 65536) → valid dl rt rm sc = false := fun q => by
    have : numsOk dl rt rm = false := decide_eq_false q
    simp [valid, this]
  have HBAD := Aside0.mk hbad
  clear hbad
  have nd : ∀ a b : Int, ¬ a < b → decide (a < b) = false := fun a b h => decide_eq_false h
  have ND := Aside0.mk nd
  clear nd
  rcases hcase with h | ⟨h0, h⟩ | ⟨h0, h1, h⟩ | ⟨h0, h1, h2, h⟩ | ⟨h0, h1, h2, h3, h⟩ | ⟨h0, h1, h2, h3, h4, h⟩ | ⟨h0, h1, h2, h3, h4, h5⟩
  · have HV := Aside0.mk (HBAD.out (by omega))
    go_enter Try.func11, Try.ntmps11
    go_wp2
    go_ret2
    exact .inr ⟨HV.out, rfl, Below.refl _ _⟩
  · have HV := Aside0.mk (HBAD.out (by omega))
    have d1 := ND.out dl 1 (by omega)
    go_enter Try.func11, Try.ntmps11
    go_wp2
    go_ret2
    exact .inr ⟨HV.out, rfl, Below.refl _ _⟩
  · have HV := Aside0.mk (HBAD.out (by omega))
    have d1 := ND.out dl 1 (by omega)
    have d2 := ND.out 65536 dl (by omega)
    go_enter Try.func11, Try.ntmps11
    go_wp2
    go_ret2
    exact .inr ⟨HV.out, rfl, Below.refl _ _⟩
  · have HV := Aside0.mk (HBAD.out (by omega))
    have d1 := ND.out dl 1 (by omega)
    have d2 := ND.out 65536 dl (by omega)
    have d3 := ND.out rt 1 (by omega)
    go_enter Try.func11, Try.ntmps11
    go_wp2
    go_ret2
    exact .inr ⟨HV.out, rfl, Below.refl _ _⟩
  · have HV := Aside0.mk (HBAD.out (by omega))
    have d1 := ND.out dl 1 (by omega)
    have d2 := ND.out 65536 dl (by omega)
    have d3 := ND.out rt 1 (by omega)
    have d4 := ND.out 1048576 rt (by omega)
    go_enter Try.func11, Try.ntmps11
    go_wp2
    go_ret2
    exact .inr ⟨HV.out, rfl, Below.refl _ _⟩
  · have HV := Aside0.mk (HBAD.out (by omega))
    have d1 := ND.out dl 1 (by omega)
    have d2 := ND.out 65536 dl (by omega)
    have d3 := ND.out rt 1 (by omega)
    have d4 := ND.out 1048576 rt (by omega)
    have d5 := ND.out rm 0 (by omega)
    go_enter Try.func11, Try.ntmps11
    go_wp2
    go_ret2
    exact .inr ⟨HV.out, rfl, Below.refl _ _⟩
  · have hn : numsOk dl rt rm = true := decide_eq_true ⟨h0, h1, h2, h3, h4, h5⟩
    have d1 := ND.out dl 1 (by omega)
    have d2 := ND.out 65536 dl (by omega)
    have d3 := ND.out rt 1 (by omega)
    have d4 := ND.out 1048576 rt (by omega)
    have d5 := ND.out rm 0 (by omega)
    have d6 := ND.out 65536 rm (by omega)
    have hv : valid dl rt rm sc = sc.all right := by simp [valid, hn]
    have HV := Aside0.mk hv
    clear hv hn h0 h1 h2 h3 h4 h5
    by_cases hall : sc.all right = true
    · have HA := Aside0.mk hall
      clear hall
      go_enter Try.func11, Try.ntmps11
      go_wp2_with (first | (go_at_call 21; (with_reducible refine (contains_calls _ sc _ HO.out.1 HO.out.2).mono ?_); rintro e w1 ⟨rfl, h1⟩; have H1 := Aside0.mk h1; clear h1; rw [HA.out]) | (go_at_call 24; (with_reducible refine (clone_calls _ sc _ (HO.out.1.blocks (fun k hk => H1.out.block k (HO.out.1.lt k hk))) HO.out.2).mono ?_); rintro e w2 ⟨v2, rfl, o2, h2⟩; have O2 := Aside0.mk o2; have H2 := Aside0.mk h2; clear o2 h2; obtain ⟨A2, c2, e2⟩ := own_slice O2.out; subst e2))
      go_ret2
      refine .inl ⟨by rw [HV.out, HA.out], _, rfl, ⟨fun k => w2.heap.size ≤ k ∧ k < w2.heap.size + 1 ∨ (w1.heap.size ≤ k ∧ k < w2.heap.size), ⟨_, _, ⟨heap_alloc_new w2 _, ?_, OwnI.nil _ _, fun k hk => ?_, fun k hk => by simp [Value.ownBlock] at hk, fun k hk => by simp [Value.ownBlock]⟩, fun k hk => ?_, fun k hk => by simp; omega⟩, fun k hk => by have := H1.out.size; have := H2.out.size; omega⟩, ?_⟩
      · exact (own_less O2.out (Nat.zero_le _)).alloc _
      · have := own_lt O2.out k hk; omega
      · rcases hk with e | e | e
        · left; omega
        · right; exact ⟨own_base O2.out k e, own_lt O2.out k e⟩
        · simp [Value.ownBlock] at e
      · exact (below_step H1.out H2.out).alloc (by have := H1.out.size; have := H2.out.size; omega) _
    · have HA := Aside0.mk (Bool.eq_false_iff.2 hall)
      clear hall
      go_enter Try.func11, Try.ntmps11
      go_wp2_with (go_at_call 21; (with_reducible refine (contains_calls _ sc _ HO.out.1 HO.out.2).mono ?_); rintro e w1 ⟨rfl, h1⟩; have H1 := Aside0.mk h1; clear h1; rw [HA.out])
      go_ret2
      exact .inr ⟨by rw [HV.out, HA.out], rfl, H1.out⟩
end Go.Proofs.Ytkdkdhbkmhkjfaa.Ch

/- The program's Send. -/
import Derived.Test.YtkdkdhbkmhkjfaaChD
import Derived.Deep.Cut
import Derived.Deep.RegionHeld3
namespace Go.Proofs.Ytkdkdhbkmhkjfaa.Ch
open Go.RowKit Go.Proofs.YtkdkdhbkmhkjfaaW.PrintWords Go.Proofs.YtkdkdhbkmhkjfaaW.PrintLast Go.Proofs.Ytkdkdhbkmhkjfaa.Sep Go.Proofs.Ytkdkdhbkmhkjfaa.ChP Go.Proofs.Ytkdkdhbkmhkjfaa.PT52
set_option linter.unusedVariables false
set_option linter.unusedSimpArgs false

def sErr (s : St) (now : Int) : Int := if now < 0 then 1 else if 1073741824 < now then 1 else if now < s.la then 7 else if full s.rt s.rm s.ds now = true then 12 else 0
def sFate (s : St) : Ft := gf s.sc s.off.toNat
def sArr (s : St) (now : Int) : List Int := if sErr s now = 0 then arr (sFate s) (dep s.rt s.ds now + s.dl) else []
def sSt (s : St) (now : Int) : St := if sErr s now = 0 then { s with off := s.off + 1, la := now, ds := s.ds ++ [dep s.rt s.ds now] } else if sErr s now = 12 then { s with off := s.off + 1, la := now } else s
/-- The state is in order. -/
structure Ok (s : St) : Prop where
  inv : Inv s.ds
  nums : numsOk s.dl s.rt s.rm = true
  fates : s.sc.all right = true
  off0 : 0 ≤ s.off
  off1 : s.off ≤ 10000
  len : s.ds.length ≤ 10000
  scl : s.sc.length ≤ 100000
theorem Ok.fate {s : St} (h : Ok s) : right (sFate s) = true := by
  unfold sFate gf
  rw [List.getD_eq_getElem?_getD]
  rcases Nat.lt_or_ge s.off.toNat s.sc.length with hi | hi
  · rw [List.getElem?_eq_getElem hi]
    exact List.all_eq_true.1 h.fates _ (List.getElem_mem hi)
  · rw [List.getElem?_eq_none hi]
    rfl
theorem cellAt {F : Nat → Prop} {w w1 : World} (h : Chg F w w1) {a : Addr} {v : Value} (hc : w.cell? a = some v) (hn : ¬ F a.block) : w1.cell? a = some v :=
  (World.cell?_of_block (w := w) (h.block a.block (World.block_lt_of_cell? w a hc) hn)).trans hc
theorem CPst.refl {T eF : TypeId} {w : World} {G : Nat → Prop} {c : Nat} {s : St} (h : CIs T eF w G c s) {v : Value} (hv : v.ownBlock = none) : CPst T eF w G c s v w := ⟨G, h, fun k hk => ⟨.inl hk, by rw [hv]; simp⟩, Chg.refl _ _, fun k hk => by rw [hv] at hk; cases hk⟩
/-- A state in its own footprint. -/
theorem CPst.of {T eF : TypeId} {w w' : World} {G : Nat → Prop} {c : Nat} {s s' : St} {vs vd vd' v : Value} (h : CV T eF w c vs vd s) (hG : ∀ k, CF c vs vd k → G k) (h' : CV T eF w' c vs vd' s') (hch : Chg (CF c vs vd) w w') (hd : vd'.ownBlock = vd.ownBlock ∨ ∃ d, vd'.ownBlock = some d ∧ w.heap.size ≤ d) (hv : ∀ k, v.ownBlock = some k → w.heap.size ≤ k ∧ k < w'.heap.size ∧ vd'.ownBlock ≠ some k) : CPst T eF w G c s' v w' := by
  refine ⟨CF c vs vd', ⟨vs, vd', h', fun _ hk => hk, fun k hk => h'.lt k hk⟩, fun k hk => ⟨?_, fun e => ?_⟩, hch.mono (fun k _ hk => hG k hk), fun k hk => ⟨(hv k hk).1, (hv k hk).2.1⟩⟩
  · rcases hk with e | e | e
    · exact .inl (hG k (.inl e))
    · exact .inl (hG k (.inr (.inl e)))
    · rcases hd with h2 | ⟨d, h2, hd2⟩
      · exact .inl (hG k (.inr (.inr (h2 ▸ e))))
      · rw [e] at h2; injection h2 with h2; exact .inr (by omega)
  · have h1 := hv k e
    rcases hk with e2 | e2 | e2
    · have := h.cl; omega
    · have := h.os.lt k e2; omega
    · exact h1.2.2 e2
theorem dep_c {w : World} {c : Nat} {vs vd : Value} {s : St} (h : CV 55 50 w c vs vd s) (inv : Inv s.ds) (hr : 1 ≤ s.rt ∧ s.rt ≤ 1048576) (now t : Int) (ht : dep s.rt s.ds now = t) :
    Calls Try.prog 25 #[.pointer (some ⟨c, 0, none⟩), .int .i64 now] w fun e w' => e = .returned (.int .i64 t) ∧ Chg (fun _ => False) w w' := by
  refine (dep_calls h inv hr now).mono fun e w' he => ?_
  obtain ⟨rfl, n, rfl⟩ := he
  exact ⟨by rw [ht], (Chg.refl _ _).drewN n⟩
theorem wait_c {w : World} {c : Nat} {vs vd : Value} {s : St} {T eF : TypeId} (h : CV T eF w c vs vd s) (inv : Inv s.ds) (now wn : Int) (hw : (wait s.ds now : Int) = wn) :
    Calls Try.prog 16 #[.pointer (some ⟨c, 0, none⟩), .int .i64 now] w fun e w' => e = .returned (.int .i64 wn) ∧ Below w.heap.size w w' := by
  obtain ⟨A, cc, rfl⟩ := h.od.slice
  refine (waiting_calls now rfl (blk_at h.blk 4 _ rfl) h.od inv.sorted inv.len).mono fun e w' he => ?_
  exact ⟨by rw [he.1, hw], he.2⟩
theorem push_c {T eF : TypeId} {w w6 : World} {c : Nat} {vs vd v1 : Value} {s : St} {t : Int} {o : Obj} (h : CV T eF w c vs vd s) (hown : w6.ownsRow 0 3 1 v1 (s.ds.length + 1) (nums .i64 s.ds ++ [.int .i64 t])) (hg : (w.alloc o).grownBy w6 vd.ownBlock) (hat : v1.ownBlock = vd.ownBlock ∨ v1.ownBlock = some (w.alloc o).heap.size) :
    ∃ A1 c1, v1 = .slice A1 (s.ds.length + 1) c1 ∧ CV T eF (w6.setCell ⟨c, 4, none⟩ v1) c vs v1 { s with ds := s.ds ++ [t] } ∧ Chg (CF c vs vd) w (w6.setCell ⟨c, 4, none⟩ v1) ∧ w6.heap[c]? = some (.cells #[.int .i64 s.dl, .int .i64 s.rt, .int .i64 s.rm, vs, vd, .int .i64 s.off, .int .i64 s.la] T (0, 0)) ∧ (v1.ownBlock = vd.ownBlock ∨ ∃ d, v1.ownBlock = some d ∧ w.heap.size ≤ d) := by
  have hch : Chg (fun k => vd.ownBlock = some k) w w6 := ((Chg.refl _ w).alloc o).grown hg (fun k e _ => e)
  have hat2 : v1.ownBlock = vd.ownBlock ∨ ∃ d, v1.ownBlock = some d ∧ w.heap.size ≤ d := hat.elim .inl (fun e => .inr ⟨_, e, by simp⟩)
  have ho : OwnI 3 w6 v1 (s.ds ++ [t]) := by
    unfold OwnI
    rw [List.length_append, show nums .i64 (s.ds ++ [t]) = nums .i64 s.ds ++ [.int .i64 t] from by simp [nums]]
    exact hown
  obtain ⟨A1, c1, e⟩ := ho.slice
  rw [List.length_append] at e
  exact ⟨A1, c1, e, h.setDs _ hch ho hat2, (hch.mono (fun k _ hk => .inr (.inr hk))).setCell ⟨c, 4, none⟩ (fun _ => .inl rfl) _, (hch.block c h.cl (fun e => h.vd_ne c e rfl)).trans h.blk, hat2⟩
set_option maxHeartbeats 16000000 in
set_option maxRecDepth 100000 in
theorem send_calls {w : World} {G : Nat → Prop} {c : Nat} {s : St} (h : CIs 55 50 w G c s) (ok : Ok s) (now : Int) :
    Calls Try.prog 13 #[.pointer (some ⟨c, 0, none⟩), .int .i64 now] w fun e w' => ∃ v, e = .returned (.tuple #[v, .int .i64 (sErr s now)]) ∧ OwnI 3 w' v (sArr s now) ∧ CPst 55 50 w G c (sSt s now) v w' := by
  have h2 := h
  obtain ⟨vs, vd, hv, hG, hl⟩ := h
  have f6 := blk_at hv.blk 6 _ rfl
  obtain ⟨er, her⟩ : ∃ er, sErr s now = er := ⟨_, rfl⟩
  have HP := Aside0.mk (CPst.refl h2 (v := .slice none 0 0) rfl)
  have hbad : er ≠ 0 → er ≠ 12 → sArr s now = [] ∧ sSt s now = s := fun q1 q2 => ⟨by unfold sArr; rw [her, if_neg q1], by unfold sSt; rw [her, if_neg q1, if_neg q2]⟩
  have HBAD := Aside0.mk hbad
  have HE := Aside0.mk her
  rw [her]
  unfold sErr at her
  clear hbad h2
  by_cases c1 : now < 0
  · rw [if_pos c1] at her
    subst her
    have HV := Aside0.mk hv
    clear hv hG hl ok
    go_enter Try.func13, Try.ntmps13
    go_wp2
    go_ret2
    obtain ⟨e1, e2⟩ := HBAD.out (by decide) (by decide)
    rw [e1, e2]
    exact ⟨_, rfl, OwnI.nil _ _, HP.out⟩
  rw [if_neg c1] at her
  by_cases c2 : 1073741824 < now
  · rw [if_pos c2] at her
    subst her
    have HV := Aside0.mk hv
    clear hv hG hl ok
    go_enter Try.func13, Try.ntmps13
    go_wp2
    go_ret2
    obtain ⟨e1, e2⟩ := HBAD.out (by decide) (by decide)
    rw [e1, e2]
    exact ⟨_, rfl, OwnI.nil _ _, HP.out⟩
  rw [if_neg c2] at her
  by_cases c3 : now < s.la
  · rw [if_pos c3] at her
    subst her
    have HV := Aside0.mk hv
    clear hv hG hl ok
    go_enter Try.func13, Try.ntmps13
    go_wp2
    go_ret2
    obtain ⟨e1, e2⟩ := HBAD.out (by decide) (by decide)
    rw [e1, e2]
    exact ⟨_, rfl, OwnI.nil _ _, HP.out⟩
  rw [if_neg c3] at her
  have d1 : decide (now < 0) = false := decide_eq_false c1
  have d2 : decide (1073741824 < now) = false := decide_eq_false c2
  have d3 : decide (now < s.la) = false := decide_eq_false c3
  have b0 : 0 ≤ now := by omega
  have b1 : now ≤ 1073741824 := by omega
  obtain ⟨As, cs, rfl⟩ := hv.os.slice
  obtain ⟨Ad, cd, rfl⟩ := hv.od.slice
  obtain ⟨o, ho⟩ := Int.eq_ofNat_of_zero_le ok.off0
  obtain ⟨f, hf⟩ : ∃ f, sFate s = f := ⟨_, rfl⟩
  have hff : f = gf s.sc o := by rw [← hf]; unfold sFate; rw [ho, Int.toNat_natCast]
  have bo : (o : Int) ≤ 10000 := by have := ok.off1; omega
  have f3 := blk_at hv.blk 3 _ rfl
  have f5 := blk_at hv.blk 5 _ rfl
  rw [ho] at f5
  obtain ⟨SL, hSL⟩ : ∃ SL, s.sc.length = SL := ⟨_, rfl⟩
  have bS : (SL : Int) ≤ 100000 := by have := ok.scl; omega
  rw [hSL] at f3
  have HO := Aside0.mk ho
  have HS := Aside0.mk hSL
  have HF := Aside0.mk hf
  have OK := Aside0.mk ok
  have ER := Aside0.mk her
  have HV := Aside0.mk hv
  have HG := Aside0.mk hG
  have hcw := hv.cl
  have f6a : (w.alloc (.cells #[.int .i64 0, .int .i64 0] 50)).heap[w.heap.size]? = some (.cells #[.int .i64 0, .int .i64 0] 50 (0, 0)) := heap_alloc_new w _
  have VA := hv.keep ((Chg.refl _ w).alloc (.cells #[.int .i64 0, .int .i64 0] 50))
  have BA := Aside0.mk (show Chg (fun _ => False) w (w.alloc (.cells #[.int .i64 0, .int .i64 0] 50)) from (Chg.refl _ w).alloc _)
  have LA : w.heap.size < (w.alloc (.cells #[.int .i64 0, .int .i64 0] 50)).heap.size := by simp
  have KA := Aside0.mk (And.intro f6a (And.intro VA LA))
  clear her ok HBAD hv hG hl c1 c2 c3 ho hf f6a VA LA
  obtain ⟨F0, hF0⟩ : ∃ F0, CF c (.slice As s.sc.length cs) (.slice Ad s.ds.length cd) = F0 := ⟨_, rfl⟩
  have FF := Aside0.mk hF0
  clear hF0
  by_cases hit : o < SL
  · have h1 : (o : Int) < (SL : Int) := by omega
    obtain ⟨g, c2', e, hg⟩ := HV.out.os.form (by have := HS.out; omega)
    injection e with e1 _ e3
    subst e1 e3
    have hcell := HV.out.os.cells o (by have := HS.out; omega)
    rw [← hff] at hcell
    clear hff
    clear hit hSL
    go_enter Try.func13, Try.ntmps13
    go_upto_region 8 with (fail)
    obtain ⟨b, hb⟩ : ∃ b, w.heap.size = b := ⟨_, rfl⟩
    have hcb : c ≠ b := by omega
    have hgb : g ≠ b := by omega
    have x0 := cellAt BA.out hcell.1 (fun h => h)
    have x1 := cellAt BA.out hcell.2 (fun h => h)
    obtain ⟨k1, k2, k3⟩ := KA.out
    rw [hb] at k1 k3 ⊢
    have KB := Aside0.mk (And.intro k1 k2)
    have ba := BA.out
    have HBB := Aside0.mk hb
    clear KA BA hcell
    generalize w.alloc (.cells #[.int .i64 0, .int .i64 0] 50) = wa at k1 k2 k3 KB ba x0 x1 ⊢
    have f3 := blk_at k2.blk 3 _ rfl
    have f5 := blk_at k2.blk 5 _ rfl
    rw [HS.out] at f3
    rw [HO.out] at f5
    have z0 := blk_free k1 0
    have z1 := blk_free k1 1
    have y0 := blk_at k1 0 _ rfl
    have y1 := blk_at k1 1 _ rfl
    have BA := Aside0.mk ba
    clear k1 k2 ba hb
    go_region
    go_wp2_with fail
    go_region
    go_upto_region 10 with (fail)
    have K2 : (((wa.setCell ⟨b, 0, none⟩ (.int .i64 f.kind)).setCell ⟨b, 1, none⟩ (.int .i64 f.n)).drew.drew).heap[b]? = some (.cells #[.int .i64 f.kind, .int .i64 f.n] 50 (0, 0)) := Sep.blk_set (Sep.blk_set KB.out.1 0 _) 1 _
    have C2 : Chg (fun _ => False) w (((wa.setCell ⟨b, 0, none⟩ (.int .i64 f.kind)).setCell ⟨b, 1, none⟩ (.int .i64 f.n)).drew.drew) := (((BA.out.setCell ⟨b, 0, none⟩ (fun q => absurd q (by have := HBB.out; simp; omega)) _).setCell ⟨b, 1, none⟩ (fun q => absurd q (by have := HBB.out; simp; omega)) _).drew).drew
    have SB := Aside0.mk (And.intro K2 C2)
    clear K2 C2 x0 x1 f3 f5 z0 z1 y0 y1 h1 hgb hg
    generalize ((wa.setCell ⟨b, 0, none⟩ (.int .i64 f.kind)).setCell ⟨b, 1, none⟩ (.int .i64 f.n)).drew.drew = wb at SB ⊢
    clear KB BA k3
    have V2 := HV.out.keep SB.out.2
    have f5 := blk_at V2.blk 5 _ rfl
    have f6 := blk_at V2.blk 6 _ rfl
    have z5 := blk_free V2.blk 5
    have z6 := blk_free V2.blk 6
    rw [HO.out] at f5
    have eo : IntKind.i64.wrap ((o : Int) + 1) = (o : Int) + 1 := IntWalk.i64_in _ (by omega)
    go_upto_region 12 with (fail)
    have V3 := (V2.setOff ((o : Int) + 1)).setLa now
    have C3 : Chg F0 wb ((wb.setCell ⟨c, 5, none⟩ (.int .i64 ((o : Int) + 1))).setCell ⟨c, 6, none⟩ (.int .i64 now)) := ((Chg.refl _ wb).setCell ⟨c, 5, none⟩ (fun _ => by rw [← FF.out]; exact .inl rfl) _).setCell ⟨c, 6, none⟩ (fun _ => by rw [← FF.out]; exact .inl rfl) _
    have S3 := Aside0.mk (And.intro V3 C3)
    clear V2 V3 C3 f5 f6 z5 z6 eo
    generalize (wb.setCell ⟨c, 5, none⟩ (.int .i64 ((o : Int) + 1))).setCell ⟨c, 6, none⟩ (.int .i64 now) = w3 at S3 ⊢
    obtain ⟨t, ht⟩ : ∃ t, dep s.rt s.ds now = t := ⟨_, rfl⟩
    have hdb := dep_bound (rt := s.rt) OK.out.inv b0 b1
    have hdg := (dep_ge (rt := s.rt) (now := now) OK.out.inv).1
    rw [ht] at hdb hdg
    have bt0 : 0 ≤ t := hdb.1
    have bt1 : t ≤ 1073761824 := by have := OK.out.len; have := hdb.2; omega
    obtain ⟨wn, hwn⟩ : ∃ wn, (wait s.ds now : Int) = wn := ⟨_, rfl⟩
    have hfull : full s.rt s.rm s.ds now = (decide (now < t) && decide (s.rm ≤ wn)) := by unfold full; rw [ht, hwn]
    have HT := Aside0.mk (And.intro ht (And.intro hdg (And.intro hwn hfull)))
    clear hdb hdg ht hwn hfull
    have NUM := Aside0.mk (numsOk_at OK.out.nums)
    obtain ⟨i0, hi0, hzz⟩ := Option.map_eq_some_iff.1 infoInt
    simp only [Prod.mk.injEq] at hzz
    obtain ⟨hz0, hz1, hz2⟩ := hzz
    have HZ := Aside0.mk (And.intro hi0 (And.intro hz0 (And.intro hz1 hz2)))
    clear hi0 hz0 hz1 hz2
    go_upto_region 13 with (go_at_call 25; (with_reducible refine (dep_c S3.out.1 OK.out.inv ⟨NUM.out.2.2.1, NUM.out.2.2.2.1⟩ now t HT.out.1).mono ?_); rintro e w4 ⟨rfl, h4⟩; have H4 := Aside0.mk h4; clear h4)
    have V4 := Aside0.mk (S3.out.1.keep H4.out)
    have C4 := Aside0.mk (S3.out.2.trans H4.out (fun _ _ q => q.elim))
    have f2 := blk_at V4.out.blk 2 _ rfl
    by_cases hgt : now < t
    · by_cases hrm : s.rm ≤ wn
      · have her : er = 12 := by have := ER.out; rw [HT.out.2.2.2, decide_eq_true hgt, decide_eq_true hrm] at this; exact this.symm
        subst her
        go_region_held3 (fun w' => w'.cell? ⟨c, 2, none⟩ = some (.int .i64 s.rm)) (first | go_keep | exact g2) (first | (go_at_call 16; (with_reducible refine (wait_c (V4.out.keep (Chg.refl _ _).drew) OK.out.inv now wn HT.out.2.2.1).mono ?_); rintro e w5 ⟨rfl, h5⟩; have g2 := cellAt (Chg.of_below (F := fun _ => False) h5) f2 (fun q => q); have H5 := Aside0.mk h5; clear h5))
        go_wp2
        go_ret2
        have her := HE.out
        have he0 : sArr s now = [] := by unfold sArr; rw [her, if_neg (by decide)]
        have hst : sSt s now = { s with off := (o : Int) + 1, la := now } := by unfold sSt; rw [her, if_neg (by decide), if_pos rfl, HO.out]
        rw [he0, hst]
        exact ⟨_, rfl, OwnI.nil _ _, CPst.of HV.out HG.out (V4.out.keep ((Chg.refl _ _).drew.trans (Chg.of_below (F := fun _ => False) H5.out) (fun _ _ q => q))) ((SB.out.2.mono (fun _ _ q => q.elim)).trans ((C4.out.drew).trans (Chg.of_below (F := F0) H5.out) (fun _ _ q => q)) (fun i _ q => by rw [FF.out]; exact q)) (.inl rfl) (fun k hk => by simp [Value.ownBlock] at hk)⟩
      · have her : er = 0 := by have := ER.out; rw [HT.out.2.2.2, decide_eq_false hrm, Bool.and_false] at this; exact this.symm
        subst her
        have d9 : decide (s.rm ≤ wn) = false := decide_eq_false hrm
        go_region_held3 (fun w' => w'.cell? ⟨c, 2, none⟩ = some (.int .i64 s.rm)) (first | go_keep | exact g2) (first | (go_at_call 16; (with_reducible refine (wait_c (V4.out.keep (Chg.refl _ _).drew) OK.out.inv now wn HT.out.2.2.1).mono ?_); rintro e w5 ⟨rfl, h5⟩; have g2 := cellAt (Chg.of_below (F := fun _ => False) h5) f2 (fun q => q); have H5 := Aside0.mk h5; clear h5))
        have V5 := Aside0.mk (And.intro (V4.out.keep ((Chg.refl _ _).drew.trans (Chg.of_below (F := fun _ => False) H5.out) (fun _ _ q => q))) ((C4.out.drew).trans (Chg.of_below (F := F0) H5.out) (fun _ _ q => q)))
        have f4 := blk_at V5.out.1.blk 4 _ rfl
        clear f2
        go_upto_region 16 with (at_builtin; refine wpList_append_own_at _ rfl (.tmp 76) (.tmp 78) 23 rfl 0 3 i0 (.int .i64 0) 1 8 Try.underlying23 HZ.out.1 HZ.out.2.1 HZ.out.2.2.1 HZ.out.2.2.2 rfl (by decide) (.slice Ad s.ds.length cd) s.ds.length (nums .i64 s.ds) (by simp [Act.eval]) (OwnI.alloc V5.out.1.od _) ⟨w5.heap.size, 0, none⟩ 1 1 [.int .i64 t] (by simp [Act.eval]) rfl (World.news_of_block (heap_alloc_new w5 _)) (by intro u hu; simp only [List.mem_cons, List.not_mem_nil, or_false] at hu; rcases hu with rfl; rfl) (by have := OK.out.len; simp only [maxLen]; omega) (by have := OK.out.len; omega) (Nat.zero_le _) ?_; intro v1 w6 hown hg _ hat; have Z := push_c V5.out.1 hown hg hat; obtain ⟨A1, c1, rfl, Z1, Z2, Z3, Z4⟩ := Z; have m0 := blk_at Z3 4 _ rfl; have m1 := blk_free Z3 4; have P7 := Aside0.mk (And.intro Z1 (And.intro Z2 Z4)); clear hown hg hat Z1 Z2 Z3 Z4)
        clear f4 m0 m1
        generalize World.setCell w6 _ _ = w7 at P7 ⊢
        have K7 := (V5.out.2.trans P7.out.2.1 (fun i _ hi => by rw [← FF.out]; exact hi)).at_ SB.out.1 (fun q => by rw [← FF.out] at q; have := HV.out.lt _ q; have := HBB.out; omega)
        have C7 := Aside0.mk (V5.out.2.trans P7.out.2.1 (fun i _ hi => by rw [← FF.out]; exact hi))
        have y0 := blk_at K7 0 _ rfl
        have y1 := blk_at K7 1 _ rfl
        have f0 := blk_at P7.out.1.blk 0 _ rfl
        have ew : IntKind.i64.wrap (t + s.dl) = t + s.dl := IntWalk.i64_in _ (by have := NUM.out; omega)
        have bd0 : 0 ≤ s.dl := by have := NUM.out; omega
        have bd1 : s.dl ≤ 65536 := by have := NUM.out; omega
        clear K7
        go_wp2_with fail
        go_region_held3 (fun w' => w'.cell? ⟨b, 0, none⟩ = some (.int .i64 f.kind) ∧ w'.cell? ⟨b, 1, none⟩ = some (.int .i64 f.n) ∧ w'.cell? ⟨c, 0, none⟩ = some (.int .i64 s.dl)) (first | go_keep | exact g8) (first | (go_at_call 26; (with_reducible refine (arr_calls f (t + s.dl) _ (by rw [← HF.out]; exact OK.out.fate) (by have := NUM.out; omega)).mono ?_); rintro e w8 ⟨v2, rfl, o8, b8⟩; have g8 := And.intro (cellAt (Chg.of_below (F := fun _ => False) b8) y0 (fun q => q)) (And.intro (cellAt (Chg.of_below (F := fun _ => False) b8) y1 (fun q => q)) (cellAt (Chg.of_below (F := fun _ => False) b8) f0 (fun q => q))); have O8 := Aside0.mk (And.intro o8 b8); clear o8 b8))
        go_wp2
        go_ret2
        have her := HE.out
        have he0 : sArr s now = arr f (t + s.dl) := by unfold sArr; rw [her, if_pos rfl, HF.out, HT.out.1]
        have hst : sSt s now = { s with off := (o : Int) + 1, la := now, ds := s.ds ++ [t] } := by unfold sSt; rw [her, if_pos rfl, HT.out.1, HO.out]
        rw [he0, hst]
        have hcw8 : Chg (CF c (.slice (some ⟨g, 0, none⟩) s.sc.length cs) (.slice Ad s.ds.length cd)) w w8 := ((SB.out.2.mono (fun _ _ q => q.elim)).trans ((C7.out.drew).trans (Chg.of_below (F := F0) O8.out.2) (fun _ _ q => q)) (fun i _ q => by rw [FF.out]; exact q))
        refine ⟨_, rfl, own_less O8.out.1 (Nat.zero_le _), CPst.of HV.out HG.out (P7.out.1.keep ((Chg.refl _ _).drew.trans (Chg.of_below (F := fun _ => False) O8.out.2) (fun _ _ q => q))) hcw8 ?_ (fun k hk => ⟨?_, own_lt O8.out.1 k hk, fun e => ?_⟩)⟩
        · rcases P7.out.2.2 with e | ⟨d, e, hd⟩
          · exact .inl e
          · exact .inr ⟨d, e, Nat.le_trans (Nat.le_trans SB.out.2.size V5.out.2.size) hd⟩
        · have h1 := own_base O8.out.1 k hk
          have h2 := SB.out.2.size
          have h3 := C7.out.size
          exact Nat.le_trans (Nat.le_trans h2 h3) h1
        · have h1 := own_base O8.out.1 k hk
          have h2 := P7.out.1.od.lt k e
          exact absurd h1 (Nat.not_le.2 h2)
    · have her : er = 0 := by have := ER.out; rw [HT.out.2.2.2, decide_eq_false hgt, Bool.false_and] at this; exact this.symm
      subst her
      have d9 : decide (now < t) = false := decide_eq_false hgt
      go_quiet (fail)
      generalize hq : World.drewN w4 _ = w5
      have V5 : Aside0 (CV 55 50 w5 c (.slice (some ⟨g, 0, none⟩) s.sc.length cs) (.slice Ad s.ds.length cd) { s with off := (o : Int) + 1, la := now } ∧ Chg F0 wb w5) := ⟨by rw [← hq]; exact V4.out.keep ((Chg.refl _ _).drewN _), by rw [← hq]; exact C4.out.drewN _⟩
      clear hq
      have f4 := blk_at V5.out.1.blk 4 _ rfl
      clear f2
      go_upto_region 16 with (at_builtin; refine wpList_append_own_at _ rfl (.tmp 76) (.tmp 78) 23 rfl 0 3 i0 (.int .i64 0) 1 8 Try.underlying23 HZ.out.1 HZ.out.2.1 HZ.out.2.2.1 HZ.out.2.2.2 rfl (by decide) (.slice Ad s.ds.length cd) s.ds.length (nums .i64 s.ds) (by simp [Act.eval]) (OwnI.alloc V5.out.1.od _) ⟨w5.heap.size, 0, none⟩ 1 1 [.int .i64 t] (by simp [Act.eval]) rfl (World.news_of_block (heap_alloc_new w5 _)) (by intro u hu; simp only [List.mem_cons, List.not_mem_nil, or_false] at hu; rcases hu with rfl; rfl) (by have := OK.out.len; simp only [maxLen]; omega) (by have := OK.out.len; omega) (Nat.zero_le _) ?_; intro v1 w6 hown hg _ hat; have Z := push_c V5.out.1 hown hg hat; obtain ⟨A1, c1, rfl, Z1, Z2, Z3, Z4⟩ := Z; have m0 := blk_at Z3 4 _ rfl; have m1 := blk_free Z3 4; have P7 := Aside0.mk (And.intro Z1 (And.intro Z2 Z4)); clear hown hg hat Z1 Z2 Z3 Z4)
      clear f4 m0 m1
      generalize World.setCell w6 _ _ = w7 at P7 ⊢
      have K7 := (V5.out.2.trans P7.out.2.1 (fun i _ hi => by rw [← FF.out]; exact hi)).at_ SB.out.1 (fun q => by rw [← FF.out] at q; have := HV.out.lt _ q; have := HBB.out; omega)
      have C7 := Aside0.mk (V5.out.2.trans P7.out.2.1 (fun i _ hi => by rw [← FF.out]; exact hi))
      have y0 := blk_at K7 0 _ rfl
      have y1 := blk_at K7 1 _ rfl
      have f0 := blk_at P7.out.1.blk 0 _ rfl
      have ew : IntKind.i64.wrap (t + s.dl) = t + s.dl := IntWalk.i64_in _ (by have := NUM.out; omega)
      have bd0 : 0 ≤ s.dl := by have := NUM.out; omega
      have bd1 : s.dl ≤ 65536 := by have := NUM.out; omega
      clear K7
      go_wp2_with fail
      go_region_held3 (fun w' => w'.cell? ⟨b, 0, none⟩ = some (.int .i64 f.kind) ∧ w'.cell? ⟨b, 1, none⟩ = some (.int .i64 f.n) ∧ w'.cell? ⟨c, 0, none⟩ = some (.int .i64 s.dl)) (first | go_keep | exact g8) (first | (go_at_call 26; (with_reducible refine (arr_calls f (t + s.dl) _ (by rw [← HF.out]; exact OK.out.fate) (by have := NUM.out; omega)).mono ?_); rintro e w8 ⟨v2, rfl, o8, b8⟩; have g8 := And.intro (cellAt (Chg.of_below (F := fun _ => False) b8) y0 (fun q => q)) (And.intro (cellAt (Chg.of_below (F := fun _ => False) b8) y1 (fun q => q)) (cellAt (Chg.of_below (F := fun _ => False) b8) f0 (fun q => q))); have O8 := Aside0.mk (And.intro o8 b8); clear o8 b8))
      go_wp2
      go_ret2
      have her := HE.out
      have he0 : sArr s now = arr f (t + s.dl) := by unfold sArr; rw [her, if_pos rfl, HF.out, HT.out.1]
      have hst : sSt s now = { s with off := (o : Int) + 1, la := now, ds := s.ds ++ [t] } := by unfold sSt; rw [her, if_pos rfl, HT.out.1, HO.out]
      rw [he0, hst]
      have hcw8 : Chg (CF c (.slice (some ⟨g, 0, none⟩) s.sc.length cs) (.slice Ad s.ds.length cd)) w w8 := ((SB.out.2.mono (fun _ _ q => q.elim)).trans ((C7.out.drew).trans (Chg.of_below (F := F0) O8.out.2) (fun _ _ q => q)) (fun i _ q => by rw [FF.out]; exact q))
      refine ⟨_, rfl, own_less O8.out.1 (Nat.zero_le _), CPst.of HV.out HG.out (P7.out.1.keep ((Chg.refl _ _).drew.trans (Chg.of_below (F := fun _ => False) O8.out.2) (fun _ _ q => q))) hcw8 ?_ (fun k hk => ⟨?_, own_lt O8.out.1 k hk, fun e => ?_⟩)⟩
      · rcases P7.out.2.2 with e | ⟨d, e, hd⟩
        · exact .inl e
        · exact .inr ⟨d, e, Nat.le_trans (Nat.le_trans SB.out.2.size V5.out.2.size) hd⟩
      · have h1 := own_base O8.out.1 k hk
        have h2 := SB.out.2.size
        have h3 := C7.out.size
        exact Nat.le_trans (Nat.le_trans h2 h3) h1
      · have h1 := own_base O8.out.1 k hk
        have h2 := P7.out.1.od.lt k e
        exact absurd h1 (Nat.not_le.2 h2)
  · have h1 : decide ((o : Int) < (SL : Int)) = false := decide_eq_false (by omega)
    have h1n : decide (o < SL) = false := decide_eq_false hit
    have h1m : ¬ (o : Int) < (SL : Int) := by omega
    have hfz : f = zF := by
      rw [hff, gf, List.getD_eq_getElem?_getD, List.getElem?_eq_none (by have := HS.out; omega)]
      rfl
    have HFZ := Aside0.mk hfz
    clear hit hSL hff hfz
    go_enter Try.func13, Try.ntmps13
    go_upto_region 8 with (fail)
    obtain ⟨b, hb⟩ : ∃ b, w.heap.size = b := ⟨_, rfl⟩
    have hcb : c ≠ b := by omega
    obtain ⟨k1, k2, k3⟩ := KA.out
    rw [hb] at k1 k3 ⊢
    have ba := BA.out
    have HBB := Aside0.mk hb
    clear KA BA
    generalize w.alloc (.cells #[.int .i64 0, .int .i64 0] 50) = wa at k1 k2 k3 ba ⊢
    have f3 := blk_at k2.blk 3 _ rfl
    have f5 := blk_at k2.blk 5 _ rfl
    rw [HS.out] at f3
    rw [HO.out] at f5
    have KB := Aside0.mk (And.intro k1 k2)
    have BA := Aside0.mk ba
    clear k1 k2 ba hb
    go_region
    go_upto_region 10 with (fail)
    have K2 : (wa.drew).heap[b]? = some (.cells #[.int .i64 f.kind, .int .i64 f.n] 50 (0, 0)) := by rw [HFZ.out]; exact KB.out.1
    have C2 : Chg (fun _ => False) w wa.drew := BA.out.drew
    have SB := Aside0.mk (And.intro K2 C2)
    clear K2 C2 f3 f5 h1 h1n h1m HFZ
    generalize wa.drew = wb at SB ⊢
    clear KB BA k3
    have V2 := HV.out.keep SB.out.2
    have f5 := blk_at V2.blk 5 _ rfl
    have f6 := blk_at V2.blk 6 _ rfl
    have z5 := blk_free V2.blk 5
    have z6 := blk_free V2.blk 6
    rw [HO.out] at f5
    have eo : IntKind.i64.wrap ((o : Int) + 1) = (o : Int) + 1 := IntWalk.i64_in _ (by omega)
    go_upto_region 12 with (fail)
    have V3 := (V2.setOff ((o : Int) + 1)).setLa now
    have C3 : Chg F0 wb ((wb.setCell ⟨c, 5, none⟩ (.int .i64 ((o : Int) + 1))).setCell ⟨c, 6, none⟩ (.int .i64 now)) := ((Chg.refl _ wb).setCell ⟨c, 5, none⟩ (fun _ => by rw [← FF.out]; exact .inl rfl) _).setCell ⟨c, 6, none⟩ (fun _ => by rw [← FF.out]; exact .inl rfl) _
    have S3 := Aside0.mk (And.intro V3 C3)
    clear V2 V3 C3 f5 f6 z5 z6 eo
    generalize (wb.setCell ⟨c, 5, none⟩ (.int .i64 ((o : Int) + 1))).setCell ⟨c, 6, none⟩ (.int .i64 now) = w3 at S3 ⊢
    obtain ⟨t, ht⟩ : ∃ t, dep s.rt s.ds now = t := ⟨_, rfl⟩
    have hdb := dep_bound (rt := s.rt) OK.out.inv b0 b1
    have hdg := (dep_ge (rt := s.rt) (now := now) OK.out.inv).1
    rw [ht] at hdb hdg
    have bt0 : 0 ≤ t := hdb.1
    have bt1 : t ≤ 1073761824 := by have := OK.out.len; have := hdb.2; omega
    obtain ⟨wn, hwn⟩ : ∃ wn, (wait s.ds now : Int) = wn := ⟨_, rfl⟩
    have hfull : full s.rt s.rm s.ds now = (decide (now < t) && decide (s.rm ≤ wn)) := by unfold full; rw [ht, hwn]
    have HT := Aside0.mk (And.intro ht (And.intro hdg (And.intro hwn hfull)))
    clear hdb hdg ht hwn hfull
    have NUM := Aside0.mk (numsOk_at OK.out.nums)
    obtain ⟨i0, hi0, hzz⟩ := Option.map_eq_some_iff.1 infoInt
    simp only [Prod.mk.injEq] at hzz
    obtain ⟨hz0, hz1, hz2⟩ := hzz
    have HZ := Aside0.mk (And.intro hi0 (And.intro hz0 (And.intro hz1 hz2)))
    clear hi0 hz0 hz1 hz2
    go_upto_region 13 with (go_at_call 25; (with_reducible refine (dep_c S3.out.1 OK.out.inv ⟨NUM.out.2.2.1, NUM.out.2.2.2.1⟩ now t HT.out.1).mono ?_); rintro e w4 ⟨rfl, h4⟩; have H4 := Aside0.mk h4; clear h4)
    have V4 := Aside0.mk (S3.out.1.keep H4.out)
    have C4 := Aside0.mk (S3.out.2.trans H4.out (fun _ _ q => q.elim))
    have f2 := blk_at V4.out.blk 2 _ rfl
    by_cases hgt : now < t
    · by_cases hrm : s.rm ≤ wn
      · have her : er = 12 := by have := ER.out; rw [HT.out.2.2.2, decide_eq_true hgt, decide_eq_true hrm] at this; exact this.symm
        subst her
        go_region_held3 (fun w' => w'.cell? ⟨c, 2, none⟩ = some (.int .i64 s.rm)) (first | go_keep | exact g2) (first | (go_at_call 16; (with_reducible refine (wait_c (V4.out.keep (Chg.refl _ _).drew) OK.out.inv now wn HT.out.2.2.1).mono ?_); rintro e w5 ⟨rfl, h5⟩; have g2 := cellAt (Chg.of_below (F := fun _ => False) h5) f2 (fun q => q); have H5 := Aside0.mk h5; clear h5))
        go_wp2
        go_ret2
        have her := HE.out
        have he0 : sArr s now = [] := by unfold sArr; rw [her, if_neg (by decide)]
        have hst : sSt s now = { s with off := (o : Int) + 1, la := now } := by unfold sSt; rw [her, if_neg (by decide), if_pos rfl, HO.out]
        rw [he0, hst]
        exact ⟨_, rfl, OwnI.nil _ _, CPst.of HV.out HG.out (V4.out.keep ((Chg.refl _ _).drew.trans (Chg.of_below (F := fun _ => False) H5.out) (fun _ _ q => q))) ((SB.out.2.mono (fun _ _ q => q.elim)).trans ((C4.out.drew).trans (Chg.of_below (F := F0) H5.out) (fun _ _ q => q)) (fun i _ q => by rw [FF.out]; exact q)) (.inl rfl) (fun k hk => by simp [Value.ownBlock] at hk)⟩
      · have her : er = 0 := by have := ER.out; rw [HT.out.2.2.2, decide_eq_false hrm, Bool.and_false] at this; exact this.symm
        subst her
        have d9 : decide (s.rm ≤ wn) = false := decide_eq_false hrm
        go_region_held3 (fun w' => w'.cell? ⟨c, 2, none⟩ = some (.int .i64 s.rm)) (first | go_keep | exact g2) (first | (go_at_call 16; (with_reducible refine (wait_c (V4.out.keep (Chg.refl _ _).drew) OK.out.inv now wn HT.out.2.2.1).mono ?_); rintro e w5 ⟨rfl, h5⟩; have g2 := cellAt (Chg.of_below (F := fun _ => False) h5) f2 (fun q => q); have H5 := Aside0.mk h5; clear h5))
        have V5 := Aside0.mk (And.intro (V4.out.keep ((Chg.refl _ _).drew.trans (Chg.of_below (F := fun _ => False) H5.out) (fun _ _ q => q))) ((C4.out.drew).trans (Chg.of_below (F := F0) H5.out) (fun _ _ q => q)))
        have f4 := blk_at V5.out.1.blk 4 _ rfl
        clear f2
        go_upto_region 16 with (at_builtin; refine wpList_append_own_at _ rfl (.tmp 76) (.tmp 78) 23 rfl 0 3 i0 (.int .i64 0) 1 8 Try.underlying23 HZ.out.1 HZ.out.2.1 HZ.out.2.2.1 HZ.out.2.2.2 rfl (by decide) (.slice Ad s.ds.length cd) s.ds.length (nums .i64 s.ds) (by simp [Act.eval]) (OwnI.alloc V5.out.1.od _) ⟨w5.heap.size, 0, none⟩ 1 1 [.int .i64 t] (by simp [Act.eval]) rfl (World.news_of_block (heap_alloc_new w5 _)) (by intro u hu; simp only [List.mem_cons, List.not_mem_nil, or_false] at hu; rcases hu with rfl; rfl) (by have := OK.out.len; simp only [maxLen]; omega) (by have := OK.out.len; omega) (Nat.zero_le _) ?_; intro v1 w6 hown hg _ hat; have Z := push_c V5.out.1 hown hg hat; obtain ⟨A1, c1, rfl, Z1, Z2, Z3, Z4⟩ := Z; have m0 := blk_at Z3 4 _ rfl; have m1 := blk_free Z3 4; have P7 := Aside0.mk (And.intro Z1 (And.intro Z2 Z4)); clear hown hg hat Z1 Z2 Z3 Z4)
        clear f4 m0 m1
        generalize World.setCell w6 _ _ = w7 at P7 ⊢
        have K7 := (V5.out.2.trans P7.out.2.1 (fun i _ hi => by rw [← FF.out]; exact hi)).at_ SB.out.1 (fun q => by rw [← FF.out] at q; have := HV.out.lt _ q; have := HBB.out; omega)
        have C7 := Aside0.mk (V5.out.2.trans P7.out.2.1 (fun i _ hi => by rw [← FF.out]; exact hi))
        have y0 := blk_at K7 0 _ rfl
        have y1 := blk_at K7 1 _ rfl
        have f0 := blk_at P7.out.1.blk 0 _ rfl
        have ew : IntKind.i64.wrap (t + s.dl) = t + s.dl := IntWalk.i64_in _ (by have := NUM.out; omega)
        have bd0 : 0 ≤ s.dl := by have := NUM.out; omega
        have bd1 : s.dl ≤ 65536 := by have := NUM.out; omega
        clear K7
        go_wp2_with fail
        go_region_held3 (fun w' => w'.cell? ⟨b, 0, none⟩ = some (.int .i64 f.kind) ∧ w'.cell? ⟨b, 1, none⟩ = some (.int .i64 f.n) ∧ w'.cell? ⟨c, 0, none⟩ = some (.int .i64 s.dl)) (first | go_keep | exact g8) (first | (go_at_call 26; (with_reducible refine (arr_calls f (t + s.dl) _ (by rw [← HF.out]; exact OK.out.fate) (by have := NUM.out; omega)).mono ?_); rintro e w8 ⟨v2, rfl, o8, b8⟩; have g8 := And.intro (cellAt (Chg.of_below (F := fun _ => False) b8) y0 (fun q => q)) (And.intro (cellAt (Chg.of_below (F := fun _ => False) b8) y1 (fun q => q)) (cellAt (Chg.of_below (F := fun _ => False) b8) f0 (fun q => q))); have O8 := Aside0.mk (And.intro o8 b8); clear o8 b8))
        go_wp2
        go_ret2
        have her := HE.out
        have he0 : sArr s now = arr f (t + s.dl) := by unfold sArr; rw [her, if_pos rfl, HF.out, HT.out.1]
        have hst : sSt s now = { s with off := (o : Int) + 1, la := now, ds := s.ds ++ [t] } := by unfold sSt; rw [her, if_pos rfl, HT.out.1, HO.out]
        rw [he0, hst]
        have hcw8 : Chg (CF c (.slice As s.sc.length cs) (.slice Ad s.ds.length cd)) w w8 := ((SB.out.2.mono (fun _ _ q => q.elim)).trans ((C7.out.drew).trans (Chg.of_below (F := F0) O8.out.2) (fun _ _ q => q)) (fun i _ q => by rw [FF.out]; exact q))
        refine ⟨_, rfl, own_less O8.out.1 (Nat.zero_le _), CPst.of HV.out HG.out (P7.out.1.keep ((Chg.refl _ _).drew.trans (Chg.of_below (F := fun _ => False) O8.out.2) (fun _ _ q => q))) hcw8 ?_ (fun k hk => ⟨?_, own_lt O8.out.1 k hk, fun e => ?_⟩)⟩
        · rcases P7.out.2.2 with e | ⟨d, e, hd⟩
          · exact .inl e
          · exact .inr ⟨d, e, Nat.le_trans (Nat.le_trans SB.out.2.size V5.out.2.size) hd⟩
        · have h1 := own_base O8.out.1 k hk
          have h2 := SB.out.2.size
          have h3 := C7.out.size
          exact Nat.le_trans (Nat.le_trans h2 h3) h1
        · have h1 := own_base O8.out.1 k hk
          have h2 := P7.out.1.od.lt k e
          exact absurd h1 (Nat.not_le.2 h2)
    · have her : er = 0 := by have := ER.out; rw [HT.out.2.2.2, decide_eq_false hgt, Bool.false_and] at this; exact this.symm
      subst her
      have d9 : decide (now < t) = false := decide_eq_false hgt
      go_quiet (fail)
      generalize hq : World.drewN w4 _ = w5
      have V5 : Aside0 (CV 55 50 w5 c (.slice As s.sc.length cs) (.slice Ad s.ds.length cd) { s with off := (o : Int) + 1, la := now } ∧ Chg F0 wb w5) := ⟨by rw [← hq]; exact V4.out.keep ((Chg.refl _ _).drewN _), by rw [← hq]; exact C4.out.drewN _⟩
      clear hq
      have f4 := blk_at V5.out.1.blk 4 _ rfl
      clear f2
      go_upto_region 16 with (at_builtin; refine wpList_append_own_at _ rfl (.tmp 76) (.tmp 78) 23 rfl 0 3 i0 (.int .i64 0) 1 8 Try.underlying23 HZ.out.1 HZ.out.2.1 HZ.out.2.2.1 HZ.out.2.2.2 rfl (by decide) (.slice Ad s.ds.length cd) s.ds.length (nums .i64 s.ds) (by simp [Act.eval]) (OwnI.alloc V5.out.1.od _) ⟨w5.heap.size, 0, none⟩ 1 1 [.int .i64 t] (by simp [Act.eval]) rfl (World.news_of_block (heap_alloc_new w5 _)) (by intro u hu; simp only [List.mem_cons, List.not_mem_nil, or_false] at hu; rcases hu with rfl; rfl) (by have := OK.out.len; simp only [maxLen]; omega) (by have := OK.out.len; omega) (Nat.zero_le _) ?_; intro v1 w6 hown hg _ hat; have Z := push_c V5.out.1 hown hg hat; obtain ⟨A1, c1, rfl, Z1, Z2, Z3, Z4⟩ := Z; have m0 := blk_at Z3 4 _ rfl; have m1 := blk_free Z3 4; have P7 := Aside0.mk (And.intro Z1 (And.intro Z2 Z4)); clear hown hg hat Z1 Z2 Z3 Z4)
      clear f4 m0 m1
      generalize World.setCell w6 _ _ = w7 at P7 ⊢
      have K7 := (V5.out.2.trans P7.out.2.1 (fun i _ hi => by rw [← FF.out]; exact hi)).at_ SB.out.1 (fun q => by rw [← FF.out] at q; have := HV.out.lt _ q; have := HBB.out; omega)
      have C7 := Aside0.mk (V5.out.2.trans P7.out.2.1 (fun i _ hi => by rw [← FF.out]; exact hi))
      have y0 := blk_at K7 0 _ rfl
      have y1 := blk_at K7 1 _ rfl
      have f0 := blk_at P7.out.1.blk 0 _ rfl
      have ew : IntKind.i64.wrap (t + s.dl) = t + s.dl := IntWalk.i64_in _ (by have := NUM.out; omega)
      have bd0 : 0 ≤ s.dl := by have := NUM.out; omega
      have bd1 : s.dl ≤ 65536 := by have := NUM.out; omega
      clear K7
      go_wp2_with fail
      go_region_held3 (fun w' => w'.cell? ⟨b, 0, none⟩ = some (.int .i64 f.kind) ∧ w'.cell? ⟨b, 1, none⟩ = some (.int .i64 f.n) ∧ w'.cell? ⟨c, 0, none⟩ = some (.int .i64 s.dl)) (first | go_keep | exact g8) (first | (go_at_call 26; (with_reducible refine (arr_calls f (t + s.dl) _ (by rw [← HF.out]; exact OK.out.fate) (by have := NUM.out; omega)).mono ?_); rintro e w8 ⟨v2, rfl, o8, b8⟩; have g8 := And.intro (cellAt (Chg.of_below (F := fun _ => False) b8) y0 (fun q => q)) (And.intro (cellAt (Chg.of_below (F := fun _ => False) b8) y1 (fun q => q)) (cellAt (Chg.of_below (F := fun _ => False) b8) f0 (fun q => q))); have O8 := Aside0.mk (And.intro o8 b8); clear o8 b8))
      go_wp2
      go_ret2
      have her := HE.out
      have he0 : sArr s now = arr f (t + s.dl) := by unfold sArr; rw [her, if_pos rfl, HF.out, HT.out.1]
      have hst : sSt s now = { s with off := (o : Int) + 1, la := now, ds := s.ds ++ [t] } := by unfold sSt; rw [her, if_pos rfl, HT.out.1, HO.out]
      rw [he0, hst]
      have hcw8 : Chg (CF c (.slice As s.sc.length cs) (.slice Ad s.ds.length cd)) w w8 := ((SB.out.2.mono (fun _ _ q => q.elim)).trans ((C7.out.drew).trans (Chg.of_below (F := F0) O8.out.2) (fun _ _ q => q)) (fun i _ q => by rw [FF.out]; exact q))
      refine ⟨_, rfl, own_less O8.out.1 (Nat.zero_le _), CPst.of HV.out HG.out (P7.out.1.keep ((Chg.refl _ _).drew.trans (Chg.of_below (F := fun _ => False) O8.out.2) (fun _ _ q => q))) hcw8 ?_ (fun k hk => ⟨?_, own_lt O8.out.1 k hk, fun e => ?_⟩)⟩
      · rcases P7.out.2.2 with e | ⟨d, e, hd⟩
        · exact .inl e
        · exact .inr ⟨d, e, Nat.le_trans (Nat.le_trans SB.out.2.size V5.out.2.size) hd⟩
      · have h1 := own_base O8.out.1 k hk
        have h2 := SB.out.2.size
        have h3 := C7.out.size
        exact Nat.le_trans (Nat.le_trans h2 h3) h1
      · have h1 := own_base O8.out.1 k hk
        have h2 := P7.out.1.od.lt k e
        exact absurd h1 (Nat.not_le.2 h2)
end Go.Proofs.Ytkdkdhbkmhkjfaa.Ch

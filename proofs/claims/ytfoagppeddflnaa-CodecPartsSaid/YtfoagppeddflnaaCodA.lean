import Derived.Test.YtfoagppeddflnaaPT074
import Derived.RangeFuncNested
import Derived.RangeFuncBound
import Derived.RangeFuncCalls
import Derived.RangeFuncLeaves
import Derived.RangeFuncBox
import Derived.Shelf.Abstract
import Derived.Shelf.RegionOpen
import Derived.WalkKit
import Derived.OwnWalkIn
import Derived.TacticsInMore
import Derived.LoopNIn
import Derived.LoopIn
import Derived.Maps.OwnIn
namespace Go.Proofs.Ytfoagppeddflnaa.PT07
open Go.RowKit Go.Shelf Go.Proofs.YtfoagppeddflnaaW.PrintWords Go.Proofs.YtfoagppeddflnaaW.PrintLast

def codec_Decode.end_ (b : List Int) : Int := wrap64 ((wrap64 (3 + (wrap64 ((wrap64 (rd b 1)) * 256)))) + (wrap64 (rd b 2)))
def codec_Decode.l0 : Nat → List Int → List S56 → Option (List S56 × Int)
  | 0, _, _ => none
  | k + 1, b, acc => if 0 < b.length then (if b.length < 3 then some ([], 4) else if rd b 0 = 0 then some ([], 4) else if (b.length : Int) < codec_Decode.end_ b then some ([], 4) else if 3 ≤ codec_Decode.end_ b then (if acc.length < 4398046511103 then (if b.length < 140737488355328 then codec_Decode.l0 k (b.drop (codec_Decode.end_ b).toNat) (acc ++ [(⟨wrap64 (rd b 0), (b.take (codec_Decode.end_ b).toNat).drop 3⟩ : S56)]) else none) else none) else none) else some (acc, 0)

attribute [local go_sem] Oper.semAt_some
def boxLen (Bb : Nat) (W : World) : Nat := match W.cell? ⟨Bb, 0, none⟩ with
  | some (.slice _ n _) => n
  | _ => 0
theorem boxLen_eq {Bb : Nat} {W : World} {A : Option Addr} {n c : Nat} (h : Boxed W Bb 27 (.slice A n c)) : boxLen Bb W = n := by
  unfold boxLen
  rw [h.cell]
set_option maxHeartbeats 4000000 in
set_option maxRecDepth 100000 in
theorem clo (m l Bb : Nat) (w : World) (r1 : List S56) (r2 : Int) (J : List S56 → World → Prop) (Jx : World → Prop) (hBb : w.heap.size ≤ Bb)
    (hYes : ∀ acc v ty bytes W0 W, J acc W0 → Below W0.heap.size W0 W → Kd.R (Kd.int .u8) 5 W W0.heap.size (fun _ => True) v bytes → acc.length < 4398046511103 → Bb < W0.heap.size →
      YieldAt Fence.wide (m + 2) Try.prog l #[.agg #[.int .i64 ty, v], .bool true] W fun e W' => e = .returned (.bool true) ∧ J (acc ++ [⟨ty, bytes⟩]) W' ∧ W'.heap[Bb]? = W0.heap[Bb]? ∧ Below w.heap.size W0 W')
    (hNo : ∀ acc W, J acc W → YieldAt Fence.wide (m + 2) Try.prog l #[.agg #[.int .i64 0, .slice none 0 0], .bool false] W fun e W' => e = .returned (.bool false) ∧ Jx W')
    (hSet : ∀ acc W v, J acc W → J acc (W.setCell ⟨Bb, 0, none⟩ v)) (hDrew : ∀ acc W, J acc W → J acc W.drew)
    (k : Nat) (A0 : Option Addr) (c0 : Nat) (l0 : List Int) (hr0 : Kd.C (Kd.int .u8) w A0 l0.length l0) (hc0 : l0.length ≤ c0) (h : codec_Decode.l0 k l0 [] = some (r1, r2))
    (W : World) (hbox : Boxed W Bb 27 (.slice A0 l0.length c0)) (hB : Below w.heap.size w W) (hJ : J [] W) :
    CallsIn Fence.wide (m + 3) Try.prog 27 #[.func (.yield l) #[] #[], .pointer (some ⟨Bb, 0, none⟩)] W fun e W' => (∃ v, e = .returned v) ∧ ((r2 = 0 ∧ J r1 W') ∨ (r2 = 4 ∧ r1 = [] ∧ Jx W')) := by
  refine callsIn_of_wp Try.func27 rfl trivial ?_ rfl
  simp only [Try.ntmps27, List.size_toArray, List.length_cons, List.length_nil, Nat.reduceAdd, Nat.reduceSub, Array.replicate_succ, Array.replicate_zero, List.push_toArray, List.append_toArray, List.nil_append, List.cons_append]
  gi_wp2
  gi_loopw [3] (fun (_ : Value) wr => ∃ (kk : Nat) (b : List Int) (acc : List S56) (A : Option Addr) (c : Nat), codec_Decode.l0 kk b acc = some (r1, r2) ∧ Boxed wr Bb 27 (.slice A b.length c) ∧ Kd.C (Kd.int .u8) w A b.length b ∧ b.length ≤ c ∧ Below w.heap.size w wr ∧ J acc wr)
    (fun (_ : Value) wr => boxLen Bb wr)
  case atStart => exact ⟨k, l0, [], A0, c0, h, hbox, hr0, hc0, hB, hJ⟩
  case round =>
    obtain ⟨kk, b, acc, A, c, hf, hbx, hr, hc, hBw, hj⟩ := hrel
    have hcell := hbx.cell
    have hfroz := hbx.frozen
    cases kk with
    | zero => simp [codec_Decode.l0] at hf
    | succ kk =>
    rw [codec_Decode.l0] at hf
    by_cases g0 : 0 < b.length
    case neg =>
      rw [if_neg g0] at hf
      have g0i : ¬ (0 : Int) < (b.length : Int) := by omega
      have g0b := decide_eq_false g0i
      gi_wp2
      go_end0
      simp only [Option.some.injEq, Prod.mk.injEq] at hf
      obtain ⟨rfl, rfl⟩ := hf
      exact ⟨⟨_, rfl⟩, .inl ⟨rfl, hj⟩⟩
    case pos =>
      rw [if_pos g0] at hf
      have g0i : (0 : Int) < (b.length : Int) := by omega
      have g0b := decide_eq_true g0i
      by_cases g3 : b.length < 3
      case pos =>
        rw [if_pos g3] at hf
        have g3i : (b.length : Int) < 3 := by omega
        have g3b := decide_eq_true g3i
        obtain ⟨fn, tmps, assign, body, hy, hR⟩ := hNo acc wr hj
        simp only [Option.some.injEq, Prod.mk.injEq] at hf
        obtain ⟨rfl, rfl⟩ := hf
        gi_wp2
        refine hR.mono ?_
        rintro e W3 ⟨rfl, hx⟩
        gi_wp2
        refine bodyPost_ret (results_none rfl _ _ _) rfl ?_
        first | exact ⟨⟨_, rfl⟩, hx⟩ | exact ⟨⟨_, rfl⟩, Or.inr ⟨rfl, rfl, hx⟩⟩
      case neg =>
      rw [if_neg g3] at hf
      have g3i : ¬ (b.length : Int) < 3 := by omega
      have g3b := decide_eq_false g3i
      obtain ⟨ad, rfl, hx0⟩ := Kd.at_int hr 0 (by omega) (by omega)
      obtain ⟨ad', hh, hx1⟩ := Kd.at_int hr 1 (by omega) (by omega)
      cases hh
      obtain ⟨ad', hh, hx2⟩ := Kd.at_int hr 2 (by omega) (by omega)
      cases hh
      replace hx0 := (hBw.cell (World.block_lt_of_cell? w _ hx0)).trans hx0
      replace hx1 := (hBw.cell (World.block_lt_of_cell? w _ hx1)).trans hx1
      replace hx2 := (hBw.cell (World.block_lt_of_cell? w _ hx2)).trans hx2
      rw [show ((0 : Int).toNat) = 0 from rfl, show ad.add 0 = ad from by simp [Addr.add]] at hx0
      rw [show ((1 : Int).toNat) = 1 from rfl, show ad.add 1 = ⟨ad.block, ad.off + 1, none⟩ from rfl] at hx1
      rw [show ((2 : Int).toNat) = 2 from rfl, show ad.add 2 = ⟨ad.block, ad.off + 2, none⟩ from rfl] at hx2
      by_cases gz : rd b 0 = 0
      case pos =>
        rw [if_pos gz] at hf
        have gzb : (rd b 0 == 0) = true := beq_iff_eq.2 gz
        obtain ⟨fn, tmps, assign, body, hy, hR⟩ := hNo acc wr hj
        simp only [Option.some.injEq, Prod.mk.injEq] at hf
        obtain ⟨rfl, rfl⟩ := hf
        clear gz
        gi_wp2
        refine hR.mono ?_
        rintro e W3 ⟨rfl, hx⟩
        gi_wp2
        refine bodyPost_ret (results_none rfl _ _ _) rfl ?_
        first | exact ⟨⟨_, rfl⟩, hx⟩ | exact ⟨⟨_, rfl⟩, Or.inr ⟨rfl, rfl, hx⟩⟩
      case neg =>
      rw [if_neg gz] at hf
      have gzb : (rd b 0 == 0) = false := beq_eq_false_iff_ne.2 gz
      clear gz
      have p0 : (0 : Int) < (b.length : Int) := by omega
      have p1 : (1 : Int) < (b.length : Int) := by omega
      have p2 : (2 : Int) < (b.length : Int) := by omega
      gi_wp2
      have hd0 : wr.drew.cell? ad = _ := hx0
      have hd1 : wr.drew.cell? ⟨ad.block, ad.off + 1, none⟩ = _ := hx1
      have hd2 : wr.drew.cell? ⟨ad.block, ad.off + 2, none⟩ = _ := hx2
      have hdc : wr.drew.cell? ⟨Bb, 0, none⟩ = _ := hcell
      gi_region
      unfold codec_Decode.end_ at hf
      generalize (wrap64 ((wrap64 (3 + (wrap64 ((wrap64 (rd b 1)) * 256)))) + (wrap64 (rd b 2)))) = E at hf ⊢
      by_cases gE : (b.length : Int) < E
      case pos =>
        rw [if_pos gE] at hf
        have gEb := decide_eq_true gE
        obtain ⟨fn, tmps, assign, body, hy, hR⟩ := hNo acc wr.drew (hDrew _ _ hj)
        simp only [Option.some.injEq, Prod.mk.injEq] at hf
        obtain ⟨rfl, rfl⟩ := hf
        clear gE
        gi_wp2
        refine hR.mono ?_
        rintro e W3 ⟨rfl, hx⟩
        gi_wp2
        refine bodyPost_ret (results_none rfl _ _ _) rfl ?_
        first | exact ⟨⟨_, rfl⟩, hx⟩ | exact ⟨⟨_, rfl⟩, Or.inr ⟨rfl, rfl, hx⟩⟩
      case neg =>
      rw [if_neg gE] at hf
      have gEb := decide_eq_false gE
      by_cases g6 : 3 ≤ E
      case neg => rw [if_neg g6] at hf; cases hf
      case pos =>
      rw [if_pos g6] at hf
      by_cases g7 : acc.length < 4398046511103
      case neg => rw [if_neg g7] at hf; cases hf
      case pos =>
      rw [if_pos g7] at hf
      by_cases g8 : b.length < 140737488355328
      case neg => rw [if_neg g8] at hf; cases hf
      case pos =>
      rw [if_pos g8] at hf
      obtain ⟨i0, hi0, _, hsz, _⟩ := info_parts info5
      have hcut := cut_mid (P := Try.prog) 27 5 .i64 .i64 Try.underlying27 hi0 1 hsz (some ad) b.length c 3 E (by omega) g6 (by omega) hc
      have hdrop := cut_from (P := Try.prog) 27 5 .i64 Try.underlying27 hi0 1 hsz (some ad) b.length c E (by omega) (by omega)
      have hm := Kd.C_mid (lo := 3) (hi := E.toNat) hr (by omega) (by omega) hc
      have hdr := Kd.C_drop (m := E.toNat) hr (by omega) hc
      simp only [show ((3 : Int).toNat) = 3 from rfl] at hcut
      rw [show (Kd.int IntKind.u8).sz = 1 from rfl] at hm hdr
      generalize hA1 : (if c = 3 then some ad else Option.map (fun x => x.add (3 * 1)) (some ad)) = A1 at hcut hm
      generalize hA2 : (if c = E.toNat then some ad else Option.map (fun x => x.add (E.toNat * 1)) (some ad)) = A2 at hdrop hdr
      have hlm : ((b.take E.toNat).drop 3).length = E.toNat - 3 := by simp; omega
      have hld : (b.drop E.toNat).length = b.length - E.toNat := by simp
      rw [← hlm] at hcut
      rw [← hld] at hdrop
      have hlc : ((b.take E.toNat).drop 3).length ≤ c - 3 := by rw [hlm]; omega
      have hlc2 : (b.drop E.toNat).length ≤ c - E.toNat := by rw [hld]; omega
      have hcl : slices_Clone_byte_byte.f ((b.take E.toNat).drop 3) = some ((b.take E.toNat).drop 3) := by
        simp only [slices_Clone_byte_byte.f, Option.bind_some, List.nil_append]
        rw [if_pos (by rw [hlm, List.length_nil]; omega)]
      clear hA1 hA2 hi0 hsz gE
      generalize hbs : (b.take E.toNat).drop 3 = bs at *
      have HLM := Aside0.mk hlm
      have HLD := Aside0.mk hld
      have HBS := Aside0.mk hbs
      clear hlm hld hbs
      gi_wp2
      have hmix : Try.prog.follows .mixedOrders = true := by kernel_rfl
      have hn1 : 1 ≤ m + 3 := by omega
      have e0 : wr.drew.drew.cell? ad = _ := hx0
      have ec : wr.drew.drew.cell? ⟨Bb, 0, none⟩ = _ := hcell
      have hszd : wr.drew.heap.size = wr.heap.size := rfl
      gi_region_with_o (first | (refine ⟨trivial, ?_⟩; gi_at_call 26; refine (callsIn_wide.2 (slices_Clone_byte_byte.calls A1 (c - 3) bs bs _ (Kd.C_below hm (below_drew (below_drew hBw))) hlc hcl)).mono ?_; rintro e w4 ⟨v, rfl, ho, hb⟩; obtain ⟨Ao, co, eo⟩ := Kd.R_slice ho; subst eo; have f0 : w4.cell? ad = _ := (hb.cell (p := ad) (World.block_lt_of_cell? wr.drew.drew _ hx0)).trans hx0; have fc : w4.cell? ⟨Bb, 0, none⟩ = _ := (hb.cell (p := ⟨Bb, 0, none⟩) hbx.lt).trans hcell; obtain ⟨fn, tmps, assign, body, hy, hR⟩ := hYes acc _ (IntKind.i64.wrap (rd b 0)) bs wr.drew.drew w4 (hDrew _ _ (hDrew _ _ hj)) hb ho g7 hbx.lt) | (refine hR.mono ?_; rintro e W3 ⟨rfl, hj3, hb3, hB3⟩))
      all_goals
        have hbx3 : Boxed W3 Bb 27 (.slice (some ad) b.length c) := hb3.trans hbx
        have hc3 := hbx3.cell
        have hf3 := hbx3.frozen
        gi_wp2
        go_roundw
        case rel =>
          have hty : IntKind.i64.wrap (rd b 0) = wrap64 (rd b 0) := by rw [IntKind.wrap_i64]; unfold wrap64; omega
          rw [hty] at hj3
          exact ⟨kk, b.drop E.toNat, acc ++ [⟨wrap64 (rd b 0), bs⟩], A2, c - E.toNat, hf, (by rw [HLD.out]; exact hbx3.set _), hdr, hlc2, ((below_drew (below_drew hBw)).trans hB3).setCell (p := ⟨Bb, 0, none⟩) hBb _, hSet _ _ _ hj3⟩
        case measure =>
          rw [boxLen_eq (hbx3.set _), boxLen_eq hbx]
          omega
end Go.Proofs.Ytfoagppeddflnaa.PT07

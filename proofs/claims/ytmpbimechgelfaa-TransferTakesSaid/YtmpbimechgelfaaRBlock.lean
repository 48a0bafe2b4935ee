/- The document's block. -/
import Derived.Test.YtmpbimechgelfaaRWords
namespace Go.Proofs.Ytmpbimechgelfaa
open Go Go.RowKit

theorem size_h8 {f : Nat → Nat} : (Try.prog.info? 78).map (·.size) = some (wc 8 f).toArray.size := by rw [List.size_toArray, wc_len]; kernel_rfl
/-- A slice of words. -/
def Ks (w : World) (B : Nat) (A : Option Addr) (n : Nat) (K : Nat → Nat) : Prop := Rd w B 1 A n (fun j => .int .u32 ((K j : Nat) : Int))
theorem st8_rds0 (s : Nat → Nat) (j : Nat) (hj : j < 8) : st8 (stOf s) j = s j := by
  match j, hj with
  | 0, _ => rfl
  | 1, _ => rfl
  | 2, _ => rfl
  | 3, _ => rfl
  | 4, _ => rfl
  | 5, _ => rfl
  | 6, _ => rfl
  | 7, _ => rfl
theorem set_grown (w : World) (g j : Nat) (u : Value) : w.grownBy (w.setCell ⟨g, j, none⟩ u) (some g) :=
  ⟨rfl, rfl, rfl, by simp [World.setCell], fun i _ hne => heap_setCell_other w ⟨g, j, none⟩ i u (fun e => hne (by rw [e]))⟩
theorem eight_grown (w : World) (g : Nat) (u0 u1 u2 u3 u4 u5 u6 u7 : Value) : w.grownBy ((((((((w.setCell ⟨g, 0, none⟩ u0).setCell ⟨g, 1, none⟩ u1).setCell ⟨g, 2, none⟩ u2).setCell ⟨g, 3, none⟩ u3).setCell ⟨g, 4, none⟩ u4).setCell ⟨g, 5, none⟩ u5).setCell ⟨g, 6, none⟩ u6).setCell ⟨g, 7, none⟩ u7) (some g) :=
  grown_trans (grown_trans (grown_trans (grown_trans (grown_trans (grown_trans (grown_trans (set_grown _ _ _ _) (set_grown _ _ _ _)) (set_grown _ _ _ _)) (set_grown _ _ _ _)) (set_grown _ _ _ _)) (set_grown _ _ _ _)) (set_grown _ _ _ _)) (set_grown _ _ _ _)
set_option maxRecDepth 100000 in
set_option maxHeartbeats 8000000 in
theorem rblock_any (s : Nat → Nat) (A A2 : Option Addr) (c n c2 : Nat) (b : List Nat) (K : Nat → Nat) (w : World) (hb : Rd w w.heap.size 1 A 64 (bf b)) (hn : 64 ≤ n) (hnl : n ≤ 1000000) (hby : Byt b) (hsok : (stOf s).ok) (hK : Ks w w.heap.size A2 64 K) :
    Calls Try.prog 59 #[.agg (wc 8 s).toArray, .slice A n c, .slice A2 64 c2] w fun e w' => e = .returned (.agg (wc 8 (blk K s b)).toArray) ∧ Below w.heap.size w w' := by
  have HBB := Lib.hid hb
  have HBY := Lib.hid hby
  have HOK := Lib.hid hsok
  obtain ⟨bk, ok, rfl, hbk, hkc⟩ := hK (by omega)
  have HKC := Lib.hid hkc
  obtain ⟨S0, hS0⟩ : ∃ S, S = (wc 8 s).toArray := ⟨_, rfl⟩
  rw [← hS0]
  have HS0s := Lib.hid (show (Try.prog.info? 78).map (·.size) = some S0.size from by rw [hS0]; exact size_h8)
  have HS0a := Lib.hid (show S0.all (·.oneCell') = true from by rw [hS0]; exact wc_all 8 _)
  have HS0z := Lib.hid (show (wc 8 fun _ => 0).toArray.size = S0.size from by rw [hS0]; simp [wc])
  have HS0 := Lib.hid hS0
  clear hb hby hsok hkc hK hS0
  go_enter Try.func59, Try.ntmps59
  go_upto_region 1 with (fail)
  obtain ⟨W0, hW0⟩ : ∃ W0, W0 = (w.alloc (.cells S0 78)).alloc (.cells (wc 8 fun _ => 0).toArray 78) := ⟨_, rfl⟩
  change Code.wp _ _ _ _ ((w.alloc (.cells S0 78)).alloc (.cells (wc 8 fun _ => 0).toArray 78))
  rw [← hW0]
  have HSZ0 := Lib.hid (show W0.heap.size = w.heap.size + 2 from by rw [hW0]; simp)
  have HB0 := Lib.hid (show Below w.heap.size w W0 from by rw [hW0]; exact (by repeat (first | exact Below.refl _ _ | assumption | refine below_drewN ?_ _ | refine Below.drew ?_ | refine Below.alloc ?_ (by simp; try omega) _ | refine Below.setCell ?_ (by simp; try omega) _)))
  have HH0 := Lib.hid (show AB W0 78 w.heap.size 8 s from by rw [hW0]; unfold AB; rw [← HS0.out]; exact (Below.heap_alloc _ _ _ (by simp)).trans (heap_alloc_new w _))
  have HO0 := Lib.hid (show AB W0 78 (w.heap.size + 1) 8 (fun _ => 0) from by
    rw [hW0]
    have h := heap_alloc_new (w.alloc (.cells S0 78)) (.cells (wc 8 fun _ => 0).toArray 78)
    rw [World.size_alloc] at h
    exact h)
  clear hW0
  refine wp_region_list ?_
  repeat (first | go_values | go_skip | go_guarded | go_step | go_upon)
  refine (words_any A c n b W0 ((Rd.below HBB.out HB0.out).more (by rw [HSZ0.out]; omega)) hn hnl HBY.out).mono ?_
  rintro e w1 ⟨rfl, hb1⟩
  obtain ⟨C, hC⟩ : ∃ C, C = (wc 64 (Wd b)).toArray := ⟨_, rfl⟩
  rw [← hC]
  have HCs := Lib.hid (show (Try.prog.info? 76).map (·.size) = some C.size from by rw [hC]; exact size_w64)
  have HCa := Lib.hid (show C.all (·.oneCell') = true from by rw [hC]; exact wc_all 64 _)
  have HCz := Lib.hid (show (wc 64 fun _ => 0).toArray.size = C.size from by rw [hC]; simp [wc])
  have HC := Lib.hid hC
  have HB1 := Lib.hid hb1
  clear hC hb1
  dsimp only
  go_step
  go_step
  go_step
  go_step
  refine wpList_store_row (by rfl) 76 (.tmp 7) (.tmp 16) (by rfl) w1.heap.size C (by rfl) (by rfl) 76 (wc 64 fun _ => 0).toArray (by exact heap_alloc_new w1 _) HCs.out HCz.out HCa.out ?_
  obtain ⟨W2, hW2⟩ : ∃ W, W = (w1.alloc (.cells (wc 64 fun _ => 0).toArray 76)).setRow w1.heap.size C := ⟨_, rfl⟩
  change wpList _ _ _ _ _ ((w1.alloc (.cells (wc 64 fun _ => 0).toArray 76)).setRow w1.heap.size C)
  simp only [Act.put]
  obtain ⟨G, hG⟩ : ∃ G, G = w1.heap.size := ⟨_, rfl⟩
  rw [← hW2, ← hG]
  have HSZ2 := Lib.hid (show W2.heap.size = G + 1 from by rw [hW2, hG]; simp [World.setRow])
  have HW2 := Lib.hid (show AB W2 76 G 64 (Wd b) from by rw [hW2, hG]; unfold AB; rw [← HC.out]; exact setRow_heap _ _ _ _ _ _ (heap_alloc_new w1 _))
  have HB12 := Lib.hid (show Below w1.heap.size w1 W2 from by rw [hW2]; exact below_setRow ((Below.refl _ _).alloc (Nat.le_refl _) _) (Nat.le_refl _) C)
  have HB2 := Lib.hid (show Below W0.heap.size W0 W2 from below_chain HB1.out HB12.out)
  have hGs : W0.heap.size ≤ G := by rw [hG]; exact HB1.out.size
  clear hW2 hG HCs HCa HCz HB1 HB12
  have HH2 := Lib.hid (show AB W2 78 w.heap.size 8 s from HH0.out.keep (HB2.out.block _ HH0.out.lt))
  have HO2 := Lib.hid (show AB W2 78 (w.heap.size + 1) 8 (fun _ => 0) from HO0.out.keep (HB2.out.block _ HO0.out.lt))
  have HH2' := Lib.hid (show W2.heap[w.heap.size]? = some (.cells S0 78 (0, 0)) from by rw [HS0.out]; exact HH2.out)
  go_upto_region 2 with (fail)
  refine wp_region_list ?_
  refine wpList_load_row (by rfl) 78 (.tmp 3) (by rfl) w.heap.size (by rfl) 78 S0 (0, 0) _ HH2'.out Try.underlying78 (by rfl) HS0s.out ?_
  go_step
  go_step
  go_step
  refine wpList_store_row (by rfl) 78 (.tmp 8) (.tmp 17) (by rfl) W2.heap.size S0 (by rfl) (by rfl) 78 (wc 8 fun _ => 0).toArray (by exact heap_alloc_new W2 _) HS0s.out HS0z.out HS0a.out ?_
  obtain ⟨W3, hW3⟩ : ∃ W, W = (W2.alloc (.cells (wc 8 fun _ => 0).toArray 78)).setRow W2.heap.size S0 := ⟨_, rfl⟩
  change wpList _ _ _ _ _ ((W2.alloc (.cells (wc 8 fun _ => 0).toArray 78)).setRow W2.heap.size S0)
  simp only [Act.put]
  obtain ⟨GS, hGS⟩ : ∃ G, G = W2.heap.size := ⟨_, rfl⟩
  rw [← hW3, ← hGS]
  have hGS' : GS = G + 1 := by rw [hGS, HSZ2.out]
  have HS3 := Lib.hid (show AB W3 78 GS 8 s from by rw [hW3, hGS]; unfold AB; rw [← HS0.out]; exact setRow_heap _ _ _ _ _ _ (heap_alloc_new W2 _))
  have HB23 := Lib.hid (show Below W2.heap.size W2 W3 from by rw [hW3]; exact below_setRow ((Below.refl _ _).alloc (Nat.le_refl _) _) (Nat.le_refl _) S0)
  have HW3 := Lib.hid (show AB W3 76 G 64 (Wd b) from HW2.out.keep (HB23.out.block _ HW2.out.lt))
  have HH3 := Lib.hid (show AB W3 78 w.heap.size 8 s from HH2.out.keep (HB23.out.block _ HH2.out.lt))
  have HO3 := Lib.hid (show AB W3 78 (w.heap.size + 1) 8 (fun _ => 0) from HO2.out.keep (HB23.out.block _ HO2.out.lt))
  have HB3 := Lib.hid (show Below w.heap.size w W3 from below_chain (below_chain HB0.out HB2.out) HB23.out)
  clear hW3 hGS HH2 HO2 HW2 HB2 HB23 HH2' HS0s HS0a HS0z HH0 HO0
  have hGw : w.heap.size + 2 ≤ GS := by have := HSZ0.out; omega
  have hGne : G ≠ GS := by omega
  have HGS := Lib.hid hGS'
  clear hGS'
  go_wp2_with fail
  go_loopw [9] (fun i wr => ∃ t : Nat, i = .int .i64 (t : Int) ∧ t ≤ 64 ∧ AB wr 78 GS 8 (st8 (rds K (Wd b) (stOf s) t)) ∧ W3.grownBy wr (some GS)) (fun i _ => (64 - intOf i).toNat)
  case atStart => exact ⟨0, rfl, by omega, HS3.out.congr (fun j hj => (st8_rds0 s j hj).symm), World.grownBy.refl _ _⟩
  case round =>
    obtain ⟨t, rfl, ht, hab, hg⟩ := hrel
    have HAB := Lib.hid hab
    have HG := Lib.hid hg
    have HWr := Lib.hid (show AB wr 76 G 64 (Wd b) from HW3.out.keep (hg.block _ HW3.out.lt (fun e => by injection e with e; omega)))
    clear hab hg
    by_cases ht64 : t < 64
    · have hok := rds_ok (K := K) (W := Wd b) HOK.out t
      have hsucc : rds K (Wd b) (stOf s) (t + 1) = rnd (K t) (Wd b t) (rds K (Wd b) (stOf s) t) := rfl
      obtain ⟨S, hS⟩ : ∃ S, S = rds K (Wd b) (stOf s) t := ⟨_, rfl⟩
      rw [← hS] at hok hsucc HAB
      have HSC := Lib.hid hsucc
      clear hS hsucc
      obtain ⟨Sa, Sc, Sd, Se, Sf, Sg, Sh, Si⟩ := S
      obtain ⟨la, lc, ld, le, lf, lg, lh, li⟩ := hok
      dsimp only at la lc ld le lf lg lh li
      have d0 : wr.cell? ⟨GS, 0, none⟩ = some (.int .u32 (Sa : Int)) := HAB.out.cell (j := 0) (by omega)
      have d1 : wr.cell? ⟨GS, 1, none⟩ = some (.int .u32 (Sc : Int)) := HAB.out.cell (j := 1) (by omega)
      have d2 : wr.cell? ⟨GS, 2, none⟩ = some (.int .u32 (Sd : Int)) := HAB.out.cell (j := 2) (by omega)
      have d3 : wr.cell? ⟨GS, 3, none⟩ = some (.int .u32 (Se : Int)) := HAB.out.cell (j := 3) (by omega)
      have d4 : wr.cell? ⟨GS, 4, none⟩ = some (.int .u32 (Sf : Int)) := HAB.out.cell (j := 4) (by omega)
      have d5 : wr.cell? ⟨GS, 5, none⟩ = some (.int .u32 (Sg : Int)) := HAB.out.cell (j := 5) (by omega)
      have d6 : wr.cell? ⟨GS, 6, none⟩ = some (.int .u32 (Sh : Int)) := HAB.out.cell (j := 6) (by omega)
      have d7 : wr.cell? ⟨GS, 7, none⟩ = some (.int .u32 (Si : Int)) := HAB.out.cell (j := 7) (by omega)
      have cw : wr.cell? ⟨G, t, none⟩ = some (.int .u32 ((Wd b t : Nat) : Int)) := HWr.out.cell ht64
      have ck : wr.cell? ⟨bk, ok + t, none⟩ = some (.int .u32 ((K t : Nat) : Int)) := by
        rw [World.cell?_of_block (w := W3) (HG.out.block bk (Nat.lt_of_lt_of_le hbk HB3.out.size) (fun e => by injection e with e; omega)), HB3.out.cell (p := ⟨bk, ok + t, none⟩) hbk, HKC.out t (by omega)]
      generalize Wd b t = wt at *
      generalize K t = kt at *
      have HT1 := Lib.hid (tone_expr (k := kt) (w := wt) (i := Si) lf lg lh)
      have HT2 := Lib.hid (ttwo_expr la lc ld)
      have hti : (t : Int) < 64 := by omega
      go_upto_region 8 with (fail)
      refine wp_region_quiet_lit (by kernel_rfl) (by kernel_rfl) ?_
      repeat go_big_quiet_step (fail)
      go_big_quiet_step (exact Calls.quiet_of_same (turn_6 Sf lf _))
      repeat go_big_quiet_step (fail)
      go_big_quiet_step (exact Calls.quiet_of_same (turn_11 Sf lf _))
      repeat go_big_quiet_step (fail)
      go_big_quiet_step (exact Calls.quiet_of_same (turn_25 Sf lf _))
      repeat go_big_quiet_step (fail)
      refine wpQuiet_nil ?_
      intro _ hw'
      obtain ⟨nq, hw''⟩ := hw'
      subst hw''
      rw [HT1.out]
      obtain ⟨T1, hT1⟩ : ∃ T, T = tone kt wt Sf Sg Sh Si := ⟨_, rfl⟩
      rw [← hT1]
      have HTT := Lib.hid hT1
      clear hT1
      obtain ⟨W5, hW5⟩ : ∃ W5, W5 = wr.drewN nq := ⟨_, rfl⟩
      rw [← hW5]
      have e0 : W5.cell? ⟨GS, 0, none⟩ = some (.int .u32 (Sa : Int)) := by rw [hW5]; exact d0
      have e1 : W5.cell? ⟨GS, 1, none⟩ = some (.int .u32 (Sc : Int)) := by rw [hW5]; exact d1
      have e2 : W5.cell? ⟨GS, 2, none⟩ = some (.int .u32 (Sd : Int)) := by rw [hW5]; exact d2
      have e3 : W5.cell? ⟨GS, 3, none⟩ = some (.int .u32 (Se : Int)) := by rw [hW5]; exact d3
      have e4 : W5.cell? ⟨GS, 4, none⟩ = some (.int .u32 (Sf : Int)) := by rw [hW5]; exact d4
      have e5 : W5.cell? ⟨GS, 5, none⟩ = some (.int .u32 (Sg : Int)) := by rw [hW5]; exact d5
      have e6 : W5.cell? ⟨GS, 6, none⟩ = some (.int .u32 (Sh : Int)) := by rw [hW5]; exact d6
      have HA5 := Lib.hid (show AB W5 78 GS 8 (st8 ⟨Sa, Sc, Sd, Se, Sf, Sg, Sh, Si⟩) from by rw [hW5]; exact HAB.out)
      have HG5 := Lib.hid (show W3.grownBy W5 (some GS) from by rw [hW5]; exact ⟨HG.out.os, HG.out.tape, HG.out.output, HG.out.size, HG.out.block⟩)
      clear hW5 d0 d1 d2 d3 d4 d5 d6 d7 cw ck
      go_upto_region 9 with (fail)
      refine wp_region_quiet_lit (by kernel_rfl) (by kernel_rfl) ?_
      repeat go_big_quiet_step (fail)
      go_big_quiet_step (exact Calls.quiet_of_same (turn_2 Sa la _))
      repeat go_big_quiet_step (fail)
      go_big_quiet_step (exact Calls.quiet_of_same (turn_13 Sa la _))
      repeat go_big_quiet_step (fail)
      go_big_quiet_step (exact Calls.quiet_of_same (turn_22 Sa la _))
      repeat go_big_quiet_step (fail)
      refine wpQuiet_nil ?_
      intro _ hw'
      obtain ⟨nq, hw''⟩ := hw'
      subst hw''
      rw [HT2.out]
      obtain ⟨T2, hT2⟩ : ∃ T, T = ttwo Sa Sc Sd := ⟨_, rfl⟩
      rw [← hT2]
      have HTU := Lib.hid hT2
      clear hT2
      obtain ⟨W6, hW6⟩ : ∃ W6, W6 = W5.drewN nq := ⟨_, rfl⟩
      rw [← hW6]
      have f0 : W6.cell? ⟨GS, 0, none⟩ = some (.int .u32 (Sa : Int)) := by rw [hW6]; exact e0
      have f1 : W6.cell? ⟨GS, 1, none⟩ = some (.int .u32 (Sc : Int)) := by rw [hW6]; exact e1
      have f2 : W6.cell? ⟨GS, 2, none⟩ = some (.int .u32 (Sd : Int)) := by rw [hW6]; exact e2
      have f3 : W6.cell? ⟨GS, 3, none⟩ = some (.int .u32 (Se : Int)) := by rw [hW6]; exact e3
      have f4 : W6.cell? ⟨GS, 4, none⟩ = some (.int .u32 (Sf : Int)) := by rw [hW6]; exact e4
      have f5 : W6.cell? ⟨GS, 5, none⟩ = some (.int .u32 (Sg : Int)) := by rw [hW6]; exact e5
      have f6 : W6.cell? ⟨GS, 6, none⟩ = some (.int .u32 (Sh : Int)) := by rw [hW6]; exact e6
      have HA6 := Lib.hid (show AB W6 78 GS 8 (st8 ⟨Sa, Sc, Sd, Se, Sf, Sg, Sh, Si⟩) from by rw [hW6]; exact HA5.out)
      have HG6 := Lib.hid (show W3.grownBy W6 (some GS) from by rw [hW6]; exact ⟨HG5.out.os, HG5.out.tape, HG5.out.output, HG5.out.size, HG5.out.block⟩)
      have f7 : W6.cell? ⟨GS, 7, none⟩ = some (.int .u32 (Si : Int)) := HA6.out.cell (j := 7) (by omega)
      have ff := HA6.out.free
      clear hW6 e0 e1 e2 e3 e4 e5 e6
      go_wp2_with fail
      go_roundw
      case rel =>
        refine ⟨t + 1, by go_num, by omega, ?_, grown_trans HG6.out (eight_grown _ _ _ _ _ _ _ _ _ _)⟩
        rw [HSC.out]
        have h := AB.eight HA6.out (st8 ⟨(T1 + T2) % 4294967296, Sa, Sc, Sd, (Se + T1) % 4294967296, Sf, Sg, Sh⟩)
        have e : rnd kt wt ⟨Sa, Sc, Sd, Se, Sf, Sg, Sh, Si⟩ = ⟨(T1 + T2) % 4294967296, Sa, Sc, Sd, (Se + T1) % 4294967296, Sf, Sg, Sh⟩ := by unfold rnd; rw [HTT.out, HTU.out]
        rw [e]
        exact h
      case measure => simp [intOf]; omega
    · obtain rfl : t = 64 := by omega
      obtain ⟨R, hR⟩ : ∃ R, R = rds K (Wd b) (stOf s) 64 := ⟨_, rfl⟩
      rw [← hR] at HAB
      have HRD := Lib.hid hR
      have HHr := Lib.hid (show AB wr 78 w.heap.size 8 s from HH3.out.keep (HG.out.block _ HH3.out.lt (fun e => by injection e with e; omega)))
      have HOr := Lib.hid (show AB wr 78 (w.heap.size + 1) 8 (fun _ => 0) from HO3.out.keep (HG.out.block _ HO3.out.lt (fun e => by injection e with e; omega)))
      have HBr := Lib.hid (show Below w.heap.size w wr from HB3.out.grown HG.out HB3.out.size (fun k hk => by injection hk with hk; omega))
      clear hR HWr
      obtain ⟨W7, hW7⟩ : ∃ W, W = wr := ⟨_, rfl⟩
      subst hW7
      go_wp2_with fail
      obtain ⟨u9, hu9⟩ : ∃ v, v = Value.int .i64 ((64 : Nat) : Int) := ⟨_, rfl⟩
      rw [← hu9]
      clear hu9
      go_loopw [14] (fun i wr => ∃ q : Nat, i = .int .i64 (q : Int) ∧ q ≤ 8 ∧ AB wr 78 GS 8 (fun j => if j < q then (s j + st8 R j) % 4294967296 else st8 R j) ∧ W7.grownBy wr (some GS)) (fun i _ => (8 - intOf i).toNat)
      case atStart => exact ⟨0, rfl, by omega, HAB.out.congr (fun j _ => (if_neg (Nat.not_lt_zero j)).symm), World.grownBy.refl _ _⟩
      case round =>
        obtain ⟨q, rfl, hq, hab, hg⟩ := hrel
        have HA := Lib.hid hab
        have HGG := Lib.hid hg
        by_cases hq8 : q < 8
        · have c1 : wr.cell? ⟨GS, q, none⟩ = some (.int .u32 ((st8 R q : Nat) : Int)) := by rw [hab.cell hq8, if_neg (Nat.lt_irrefl q)]
          have c2' : wr.cell? ⟨w.heap.size, q, none⟩ = some (.int .u32 ((s q : Nat) : Int)) := (HHr.out.keep (hg.block _ HHr.out.lt (fun e => by injection e with e; omega))).cell hq8
          have hqI : (q : Int) < 8 := by omega
          generalize hu : st8 R q = u at *
          generalize hv : s q = v at *
          have HU := Lib.hid hu
          have HV := Lib.hid hv
          clear hu hv hab hg
          go_upto_region 14 with (fail)
          refine wp_region_still_tail 9 (by kernel_rfl) (by kernel_rfl) ?_
          obtain ⟨W8, hW8⟩ : ∃ W, wr.drew = W := ⟨_, rfl⟩
          change wpStill _ _ wr.drew (fun a' => wpList _ _ _ _ a' wr.drew) _ _
          rw [hW8]
          have r1 : W8.cell? ⟨GS, q, none⟩ = some (.int .u32 (u : Int)) := by rw [← hW8]; exact c1
          have r2 : W8.cell? ⟨w.heap.size, q, none⟩ = some (.int .u32 (v : Int)) := by rw [← hW8]; exact c2'
          have HA8 := Lib.hid (show AB W8 78 GS 8 (fun j => if j < q then (s j + st8 R j) % 4294967296 else st8 R j) from by rw [← hW8]; exact HA.out)
          have HG8 := Lib.hid (show W7.grownBy W8 (some GS) from by rw [← hW8]; exact ⟨HGG.out.os, HGG.out.tape, HGG.out.output, HGG.out.size, HGG.out.block⟩)
          have r3 := HA8.out.free q
          clear hW8 c1 c2'
          simp only [List.take_succ_cons, List.take_zero, List.drop_succ_cons, List.drop_zero]
          repeat still_step
          refine wpStill_nil ?_
          have HE := Lib.hid (show IntKind.u32.wrap ((u : Int) + (v : Int)) = (((v + u) % 4294967296 : Nat) : Int) from by rw [u32_add_nat, Nat.add_comm])
          rw [HE.out]
          go_wp2_with fail
          go_roundw
          case rel =>
            refine ⟨q + 1, by go_num, by omega, ?_, grown_trans HG8.out (set_grown _ _ _ _)⟩
            exact (HA8.out.set q ((v + u) % 4294967296)).congr fun j hj => by
              by_cases h1 : j = q
              · rw [if_pos h1, if_pos (by omega), h1, HU.out, HV.out]
              · rw [if_neg h1]
                by_cases h2 : j < q
                · rw [if_pos h2, if_pos (by omega)]
                · rw [if_neg h2, if_neg (by omega)]
          case measure => simp [intOf]; omega
        · obtain rfl : q = 8 := by omega
          obtain ⟨D, hD⟩ : ∃ D, D = (wc 8 (blk K s b)).toArray := ⟨_, rfl⟩
          have HD8 := Lib.hid (show wr.heap[GS]? = some (.cells D 78 (0, 0)) from by rw [hD]; exact hab.congr fun j hj => by rw [if_pos hj, HRD.out]; rfl)
          have HO8 := Lib.hid (show AB wr 78 (w.heap.size + 1) 8 (fun _ => 0) from HOr.out.keep (hg.block _ HOr.out.lt (fun e => by injection e with e; omega)))
          have HDs := Lib.hid (show (Try.prog.info? 78).map (·.size) = some D.size from by rw [hD]; exact size_h8)
          have HDa := Lib.hid (show D.all (·.oneCell') = true from by rw [hD]; exact wc_all 8 _)
          have HDz := Lib.hid (show (wc 8 fun _ => 0).toArray.size = D.size from by rw [hD]; simp [wc])
          have HBF := Lib.hid (show Below w.heap.size w wr from HBr.out.grown hg HBr.out.size (fun k hk => by injection hk with hk; omega))
          have HDD := Lib.hid hD
          clear hD hab hg
          go_upto_region 15 with (fail)
          refine wp_region_list ?_
          refine wpList_load_row (by rfl) 78 (.tmp 8) (by rfl) GS (by rfl) 78 D (0, 0) _ HD8.out Try.underlying78 (by rfl) HDs.out ?_
          refine wpList_store_row (by rfl) 78 (.tmp 6) (.tmp 114) (by rfl) (w.heap.size + 1) D (by rfl) (by rfl) 78 (wc 8 fun _ => 0).toArray HO8.out HDs.out HDz.out HDa.out ?_
          go_wp2_with fail
          exact bodyPost_ret (v := .agg D) (results_cell_row (by rfl) _ _ (w.heap.size + 1) 78 _ (0, 0) _ (by rfl) (setRow_heap _ _ _ _ _ _ HO8.out) Try.underlying78 (by rfl) HDs.out) rfl ⟨by rw [HDD.out], below_setRow HBF.out (Nat.le_succ _) D⟩
end Go.Proofs.Ytmpbimechgelfaa

/- ShaTwo holds: a tree of digests, of which the first ones are as many as a power of two, and at least half, is one of two trees. Conditions: none. -/
import Derived.Test.YtmpbimechgelfaaHw
namespace Go.Proofs.Ytmpbimechgelfaa
open Go.ChangeShapes Go.WideShapes Go.ChangeAt Go.RowKit Go.Joins Go.Deep

/-- The digest at place i. -/
def xh (f g : Nat → Nat) (i : Nat) (j : Nat) : Nat := if j = 0 then i % 256 else if i % 3 = 1 then g j else f j
theorem xh_lt {f g : Nat → Nat} (hf : ∀ j, f j < 256) (hg : ∀ j, g j < 256) (i j : Nat) : xh f g i j < 256 := by
  unfold xh
  split
  · omega
  · split
    · exact hg j
    · exact hf j
/-- The first q of them. -/
def xl (f g : Nat → Nat) (q : Nat) : List (Nat → Nat) := (List.range q).map (xh f g)
theorem xl_len (f g : Nat → Nat) (q : Nat) : (xl f g q).length = q := by simp [xl]
theorem xl_succ (f g : Nat → Nat) (q : Nat) : xl f g q ++ [xh f g q] = xl f g (q + 1) := by simp [xl, List.range_succ]
theorem two_tp : ∀ e : Fin 6, ∀ m : Fin 33, 1 ≤ m.val → m.val ≤ 2 ^ e.val → tp (2 ^ e.val + m.val) = 2 ^ e.val := by decide +kernel
set_option maxRecDepth 100000 in
set_option maxHeartbeats 8000000 in
theorem shaTwo_walk (w : World) (f : Nat → Nat) (hf' : ∀ j, f j < 256) (g : Nat → Nat) (hg' : ∀ j, g j < 256) (p : Nat) (hp : p < 256) (r : Nat) (hr : r < 256) :
    Calls Try.prog 9 #[.agg (hc f), .agg (hc g), .int .u8 (p : Int), .int .u8 (r : Int)] w fun e w' => e = .returned (.bool true) ∧ Below w.heap.size w w' := by
  obtain ⟨F, hF⟩ : ∃ F, F = hc f := ⟨_, rfl⟩
  obtain ⟨G, hG⟩ : ∃ G, G = hc g := ⟨_, rfl⟩
  rw [← hF, ← hG]
  have HFs := Lib.hid (show (Try.prog.info? 33).map (·.size) = some F.size from by rw [hF]; exact size_hc)
  have HFa := Lib.hid (show F.all (·.oneCell') = true from by rw [hF]; exact hc_all _)
  have HFz := Lib.hid (show (hc fun _ => 0).size = F.size from by rw [hF, hc_size, hc_size])
  have HGs := Lib.hid (show (Try.prog.info? 33).map (·.size) = some G.size from by rw [hG]; exact size_hc)
  have HGa := Lib.hid (show G.all (·.oneCell') = true from by rw [hG]; exact hc_all _)
  have HFG := Lib.hid (show F.size = G.size from by rw [hF, hG, hc_size, hc_size])
  have HF := Lib.hid hF
  have HG := Lib.hid hG
  have HFL := Lib.hid hf'
  have HGL := Lib.hid hg'
  clear hF hG hf' hg'
  have hp0 : (0 : Int) ≤ (p : Int) := by omega
  have hr0 : (0 : Int) ≤ (r : Int) := by omega
  go_enter Try.func9, Try.ntmps9
  go_wp2_with fail
  obtain ⟨W0, hW0⟩ : ∃ W, W = (w.alloc (.cells F 33)).alloc (.cells G 33) := ⟨_, rfl⟩
  rw [← hW0]
  obtain ⟨ga, hga⟩ : ∃ g, g = w.heap.size := ⟨_, rfl⟩
  obtain ⟨gb, hgb⟩ : ∃ g, g = w.heap.size + 1 := ⟨_, rfl⟩
  rw [← hgb, ← hga]
  have HX0 := Lib.hid (show W0.heap[ga]? = some (.cells F 33 (0, 0)) from by rw [hW0, hga]; exact (Below.heap_alloc _ _ _ (by simp)).trans (heap_alloc_new w _))
  have HY0 := Lib.hid (show W0.heap[gb]? = some (.cells G 33 (0, 0)) from by
    have h := heap_alloc_new (w.alloc (.cells F 33)) (.cells G 33)
    rw [World.size_alloc] at h
    rw [hW0, hgb]; exact h)
  have HB0 := Lib.hid (show Below w.heap.size w W0 from by rw [hW0]; exact (by repeat (first | exact Below.refl _ _ | assumption | refine below_drewN ?_ _ | refine Below.drew ?_ | refine Below.alloc ?_ (by simp; try omega) _ | refine Below.setCell ?_ (by simp; try omega) _)))
  have HGA := Lib.hid hga
  clear hW0 hga hgb
  refine (awake_any W0).mono ?_
  rintro e w1 ⟨rfl, hb1⟩
  have HX := Lib.hid (show w1.heap[ga]? = some (.cells F 33 (0, 0)) from (hb1.block _ (Array.getElem?_eq_some_iff.1 HX0.out).1).trans HX0.out)
  have HY := Lib.hid (show w1.heap[gb]? = some (.cells G 33 (0, 0)) from (hb1.block _ (Array.getElem?_eq_some_iff.1 HY0.out).1).trans HY0.out)
  have HB1 := Lib.hid (show Below w.heap.size w w1 from below_chain HB0.out hb1)
  clear hb1 HX0 HY0 HB0
  obtain ⟨e6, he6⟩ : ∃ e, e = p % 6 := ⟨_, rfl⟩
  have he6' : e6 < 6 := by omega
  have hpe : (p : Int) % 6 = (e6 : Int) := by omega
  have he0 : (0 : Int) ≤ (e6 : Int) := by omega
  have he7 : (e6 : Int) < 6 := by omega
  clear he6
  go_upto_region 3 with (fail)
  obtain ⟨n, hn⟩ : ∃ n, n = 2 ^ e6 := ⟨_, rfl⟩
  have hn1 : 1 ≤ n := by rw [hn]; exact Nat.one_le_two_pow
  have hn32 : n ≤ 32 := by rw [hn]; show 2 ^ e6 ≤ 2 ^ 5; exact Nat.pow_le_pow_right (by omega) (by omega)
  have hwr : wrap64 ((2 : Int) ^ e6) = (n : Int) := by
    have h1 : ((2 : Int) ^ e6) = (n : Int) := by rw [hn]; push_cast; rfl
    rw [h1]; exact IntWalk.wrap64_in _ (by omega)
  rw [hwr]
  have HNE := Lib.hid hn
  clear hwr hn
  obtain ⟨m, hm, hm1, hm2⟩ : ∃ m : Nat, 1 + (r : Int) % (n : Int) = (m : Int) ∧ 1 ≤ m ∧ m ≤ n := ⟨1 + r % n, by push_cast; rfl, by omega, by have := Nat.mod_lt r (show n > 0 by omega); omega⟩
  have hn1I : (1 : Int) ≤ (n : Int) := by omega
  go_upto_region 4 with (fail)
  clear hm
  obtain ⟨B0, hB0⟩ : ∃ B, B = w1.heap.size := ⟨_, rfl⟩
  have HBE := Lib.hid hB0
  have hlga : ga < B0 := by rw [hB0]; exact (Array.getElem?_eq_some_iff.1 HX.out).1
  have hlgb : gb < B0 := by rw [hB0]; exact (Array.getElem?_eq_some_iff.1 HY.out).1
  clear hB0
  obtain ⟨N, hN⟩ : ∃ N, N = n + m := ⟨_, rfl⟩
  clear hpe he0 he7 hp0 hr0
  go_wp2_with fail
  go_loopw [12, 13] (fun vl i wr => ∃ q : Nat, i = .int .i64 (q : Int) ∧ q ≤ n + m ∧ Hw wr B0 vl (xl f g q) ∧ Below B0 w1 wr) (fun _ i _ => (n + m - intOf i).toNat)
  case atStart => exact ⟨0, rfl, by omega, Hw.nil, by rw [HBE.out]; exact Below.refl _ _⟩
  case round =>
    obtain ⟨q, rfl, hq, hhw, hb⟩ := hrel
    have HHW := Lib.hid hhw
    have HB := Lib.hid hb
    have hBw : B0 ≤ wr.heap.size := by have := hb.size; have := HBE.out; omega
    clear hhw hb
    by_cases hqn : q < n + m
    · have HXr := Lib.hid (show wr.heap[ga]? = some (.cells F 33 (0, 0)) from (HB.out.block _ hlga).trans HX.out)
      have HYr := Lib.hid (show wr.heap[gb]? = some (.cells G 33 (0, 0)) from (HB.out.block _ hlgb).trans HY.out)
      go_upto_region 8 with (fail)
      refine wp_region_list ?_
      refine wpList_load_row (by rfl) 33 (.tmp 4) (by rfl) ga (by rfl) 33 F (0, 0) _ HXr.out Try.underlying33 (by rfl) HFs.out ?_
      go_step
      go_step
      go_step
      refine wpList_store_row (by rfl) 33 (.tmp 14) (.tmp 34) (by rfl) wr.heap.size F (by rfl) (by rfl) 33 (hc fun _ => 0) (by exact heap_alloc_new wr _) HFs.out HFz.out HFa.out ?_
      obtain ⟨W2, hW2⟩ : ∃ W, W = (wr.alloc (.cells (hc fun _ => 0) 33)).setRow wr.heap.size F := ⟨_, rfl⟩
      change wpList _ _ _ _ _ ((wr.alloc (.cells (hc fun _ => 0) 33)).setRow wr.heap.size F)
      simp only [Act.put]
      obtain ⟨gx, hgx⟩ : ∃ g, g = wr.heap.size := ⟨_, rfl⟩
      rw [← hW2, ← hgx]
      have HX2 := Lib.hid (show W2.heap[gx]? = some (.cells F 33 (0, 0)) from by rw [hgx]; exact (box_made hW2).1)
      have HB2 := Lib.hid (show Below wr.heap.size wr W2 from (box_made hW2).2)
      have hgxB : B0 ≤ gx := by omega
      have HGX := Lib.hid hgx
      clear hW2 hgx
      by_cases hq3 : q % 3 = 1
      · have hb3 : ((q : Int) % 3 == 1) = true := by simp; omega
        have HQ3 := Lib.hid hq3
        clear hq3
        go_upto_region 10 with (fail)
        refine wp_region_list ?_
        have HY2 := Lib.hid (show W2.heap[gb]? = some (.cells G 33 (0, 0)) from (HB2.out.block _ (by omega)).trans HYr.out)
        refine wpList_load_row (by rfl) 33 (.tmp 5) (by rfl) gb (by rfl) 33 G (0, 0) _ HY2.out Try.underlying33 (by rfl) HGs.out ?_
        refine wpList_store_row (by rfl) 33 (.tmp 14) (.tmp 38) (by rfl) gx G (by rfl) (by rfl) 33 F HX2.out HGs.out HFG.out HGa.out ?_
        simp only [Act.put]
        obtain ⟨W3, hW3⟩ : ∃ W, W = W2.setRow gx G := ⟨_, rfl⟩
        rw [← hW3]
        have HX3 := Lib.hid (show W3.heap[gx]? = some (.cells (hc g) 33 (0, 0)) from by rw [hW3, ← HG.out]; exact setRow_heap _ _ _ _ _ _ HX2.out)
        have HB3 := Lib.hid (show Below wr.heap.size wr W3 from by rw [hW3]; exact below_setRow HB2.out (by rw [HGX.out]; exact Nat.le_refl _) G)
        clear hW3
        go_upto_region 11 with (fail)
        have hcx0 : W3.cell? ⟨gx, 0, none⟩ = some (.int .u8 ((g 0 : Nat) : Int)) := box_cell HX3.out (by omega)
        have hfx0 : W3.frozen? ⟨gx, 0, none⟩ = false := frozen_of_row _ _ _ _ _ HX3.out
        go_upto_region 12 with (fail)
        obtain ⟨W4, hW4⟩ : ∃ W, W = W3.setCell ⟨gx, 0, none⟩ (.int .u8 (q : Int)) := ⟨_, rfl⟩
        rw [← hW4]
        obtain ⟨X, hX⟩ : ∃ X, X = hc (xh f g q) := ⟨_, rfl⟩
        have HX4 := Lib.hid (show W4.heap[gx]? = some (.cells X 33 (0, 0)) from by
          rw [hW4, hX]
          have h := hbox_set HX3.out 0 (q % 256)
          rw [show (q : Int) = ((q % 256 : Nat) : Int) from by omega]
          rw [h]
          refine congrArg some (congrArg (fun c => Obj.cells c 33 (0, 0)) (hc_congr fun j _ => ?_))
          unfold xh
          by_cases hj : j = 0
          · rw [if_pos hj, if_pos hj]
          · rw [if_neg hj, if_neg hj, if_pos HQ3.out])
        have HB4 := Lib.hid (show Below wr.heap.size wr W4 from by rw [hW4]; exact HB3.out.setCell (p := ⟨gx, 0, none⟩) (by rw [HGX.out]; exact Nat.le_refl _) _)
        have HXV := Lib.hid hX
        have HXs := Lib.hid (show (Try.prog.info? 33).map (·.size) = some X.size from by rw [hX]; exact size_hc)
        have HHW4 := Lib.hid (HHW.out.next HB4.out)
        have HHW5 := Lib.hid (HHW4.out.next ((Below.refl W4.heap.size W4).alloc (Nat.le_refl _) (.cells X 33)))
        have hB4 : B0 ≤ W4.heap.size := by have := HB4.out.size; omega
        have HRW := Lib.hid (show (W4.alloc (.cells X 33)).heap[W4.heap.size]? = some (.cells (hc (xh f g q)) 33 (0, 0)) from by rw [← hX]; exact heap_alloc_new W4 _)
        clear hW4 hX hcx0 hfx0
        refine wp_region_list ?_
        repeat (first
          | refine wpList_load_row (by rfl) 33 (.tmp 14) (by rfl) gx (by rfl) 33 X (0, 0) _ HX4.out Try.underlying33 (by rfl) HXs.out ?_
          | refine wpl_bs_hash (by rfl) (.tmp 43) (by rfl) (xh f g q) X HXV.out (by rfl) ?_
          | (refine wpl_hw (by rfl) (.tmp 42) (.tmp 44) (by rfl) (by rfl) HHW5.out W4.heap.size 1 (xh f g q) HRW.out (by rfl) (by rfl) (by rw [xl_len]; omega) (by simp; omega) ?_
             intro v5 w5 hh5 hb5)
          | go_values | go_skip | go_guarded | go_step | go_upon)
        rw [xl_succ] at hh5
        have HH5 := Lib.hid hh5
        have HB5 := Lib.hid (show Below B0 w1 w5 from (HB.out.trans (HB4.out.mono hBw)).trans (((Below.refl B0 W4).alloc hB4 _).trans hb5))
        clear hh5 hb5
        go_wp2_with fail
        go_roundw
        case rel => exact ⟨q + 1, by go_num, by omega, HH5.out, HB5.out⟩
        case measure => simp [intOf]; omega
      · have hb3 : ((q : Int) % 3 == 1) = false := by simp; omega
        have HQ3 := Lib.hid hq3
        clear hq3
        obtain ⟨W3, hW3⟩ : ∃ W, W = W2 := ⟨_, rfl⟩
        rw [← hW3] at HX2 HB2 ⊢
        have HX3 := Lib.hid (show W3.heap[gx]? = some (.cells (hc f) 33 (0, 0)) from by rw [← HF.out]; exact HX2.out)
        have HB3 := HB2
        clear hW3
        go_upto_region 11 with (fail)
        have hcx0 : W3.cell? ⟨gx, 0, none⟩ = some (.int .u8 ((f 0 : Nat) : Int)) := box_cell HX3.out (by omega)
        have hfx0 : W3.frozen? ⟨gx, 0, none⟩ = false := frozen_of_row _ _ _ _ _ HX3.out
        go_upto_region 12 with (fail)
        obtain ⟨W4, hW4⟩ : ∃ W, W = W3.setCell ⟨gx, 0, none⟩ (.int .u8 (q : Int)) := ⟨_, rfl⟩
        rw [← hW4]
        obtain ⟨X, hX⟩ : ∃ X, X = hc (xh f g q) := ⟨_, rfl⟩
        have HX4 := Lib.hid (show W4.heap[gx]? = some (.cells X 33 (0, 0)) from by
          rw [hW4, hX]
          have h := hbox_set HX3.out 0 (q % 256)
          rw [show (q : Int) = ((q % 256 : Nat) : Int) from by omega]
          rw [h]
          refine congrArg some (congrArg (fun c => Obj.cells c 33 (0, 0)) (hc_congr fun j _ => ?_))
          unfold xh
          by_cases hj : j = 0
          · rw [if_pos hj, if_pos hj]
          · rw [if_neg hj, if_neg hj, if_neg HQ3.out])
        have HB4 := Lib.hid (show Below wr.heap.size wr W4 from by rw [hW4]; exact HB3.out.setCell (p := ⟨gx, 0, none⟩) (by rw [HGX.out]; exact Nat.le_refl _) _)
        have HXV := Lib.hid hX
        have HXs := Lib.hid (show (Try.prog.info? 33).map (·.size) = some X.size from by rw [hX]; exact size_hc)
        have HHW4 := Lib.hid (HHW.out.next HB4.out)
        have HHW5 := Lib.hid (HHW4.out.next ((Below.refl W4.heap.size W4).alloc (Nat.le_refl _) (.cells X 33)))
        have hB4 : B0 ≤ W4.heap.size := by have := HB4.out.size; omega
        have HRW := Lib.hid (show (W4.alloc (.cells X 33)).heap[W4.heap.size]? = some (.cells (hc (xh f g q)) 33 (0, 0)) from by rw [← hX]; exact heap_alloc_new W4 _)
        clear hW4 hX hcx0 hfx0
        refine wp_region_list ?_
        repeat (first
          | refine wpList_load_row (by rfl) 33 (.tmp 14) (by rfl) gx (by rfl) 33 X (0, 0) _ HX4.out Try.underlying33 (by rfl) HXs.out ?_
          | refine wpl_bs_hash (by rfl) (.tmp 43) (by rfl) (xh f g q) X HXV.out (by rfl) ?_
          | (refine wpl_hw (by rfl) (.tmp 42) (.tmp 44) (by rfl) (by rfl) HHW5.out W4.heap.size 1 (xh f g q) HRW.out (by rfl) (by rfl) (by rw [xl_len]; omega) (by simp; omega) ?_
             intro v5 w5 hh5 hb5)
          | go_values | go_skip | go_guarded | go_step | go_upon)
        rw [xl_succ] at hh5
        have HH5 := Lib.hid hh5
        have HB5 := Lib.hid (show Below B0 w1 w5 from (HB.out.trans (HB4.out.mono hBw)).trans (((Below.refl B0 W4).alloc hB4 _).trans hb5))
        clear hh5 hb5
        go_wp2_with fail
        go_roundw
        case rel => exact ⟨q + 1, by go_num, by omega, HH5.out, HB5.out⟩
        case measure => simp [intOf]; omega
    · obtain rfl : q = n + m := by omega
      obtain ⟨A, cl, rfl, hHs, hcl1, hcl2, -⟩ := HHW.out.sl
      rw [xl_len] at hcl1 ⊢
      obtain ⟨b, off, rfl, -, -⟩ := hHs (by rw [xl_len]; omega)
      have HHS := Lib.hid hHs
      have hcm : (cl : Int) ≤ 9223372036854775807 := by unfold maxLen at hcl2; omega
      have HCM := Lib.hid hcl2
      obtain ⟨L, hL⟩ : ∃ L, L = xl f g (n + m) := ⟨_, rfl⟩
      rw [← hL] at HHS
      have HL := Lib.hid hL
      have HLL := Lib.hid (show L.length = n + m from by rw [hL, xl_len])
      have HLO := Lib.hid (show ∀ h ∈ L, ∀ j, h j < 256 from by
        rw [hL]; intro h hh
        obtain ⟨i, -, rfl⟩ := List.mem_map.1 hh
        exact xh_lt HFL.out HGL.out i)
      have hnc : (n : Int) ≤ (cl : Int) := by omega
      have hnc2 : ¬ cl = n := by omega
      have hnm : n ≤ n + m := by omega
      obtain ⟨W2, hW2⟩ : ∃ W2, W2 = wr := ⟨_, rfl⟩
      subst hW2
      have HHW2 := HHW
      clear hHs hL hcl2 HHW
      obtain ⟨T1, hT1⟩ : ∃ C, C = hc (treeF 64 (L.take n)) := ⟨_, rfl⟩
      obtain ⟨T2, hT2⟩ : ∃ C, C = hc (treeF 64 (L.drop n)) := ⟨_, rfl⟩
      obtain ⟨T3, hT3⟩ : ∃ C, C = hc (treeF 65 L) := ⟨_, rfl⟩
      have HT1s := Lib.hid (show (Try.prog.info? 33).map (·.size) = some T1.size from by rw [hT1]; exact size_hc)
      have HT1a := Lib.hid (show T1.all (·.oneCell') = true from by rw [hT1]; exact hc_all _)
      have HT1z := Lib.hid (show (hc fun _ => 0).size = T1.size from by rw [hT1, hc_size, hc_size])
      have HT2s := Lib.hid (show (Try.prog.info? 33).map (·.size) = some T2.size from by rw [hT2]; exact size_hc)
      have HT2a := Lib.hid (show T2.all (·.oneCell') = true from by rw [hT2]; exact hc_all _)
      have HT2z := Lib.hid (show (hc fun _ => 0).size = T2.size from by rw [hT2, hc_size, hc_size])
      have HC1 : Hid (∀ W, Below W2.heap.size W2 W → Calls Try.prog 31 #[.slice (some ⟨b, off, none⟩) n cl] W fun e w' => e = .returned (.agg T1) ∧ Below W.heap.size W w') := Lib.hid fun W hb => by
        have h := tree_any 64 (L.take n) (some ⟨b, off, none⟩) cl W (Hs.take (Hs.next HHS.out hb) n) (fun h hh => HLO.out h (List.mem_of_mem_take hh)) (by rw [List.length_take, HLL.out]; omega) (by rw [List.length_take, HLL.out]; omega) (by rw [List.length_take, HLL.out]; omega) HCM.out
        rw [List.length_take, HLL.out, Nat.min_eq_left hnm, ← hT1] at h
        exact h
      have HC2 : Hid (∀ W, Below W2.heap.size W2 W → Calls Try.prog 31 #[.slice (some ⟨b, off + n * 32, none⟩) m (cl - n)] W fun e w' => e = .returned (.agg T2) ∧ Below W.heap.size W w') := Lib.hid fun W hb => by
        have h := tree_any 64 (L.drop n) (some ⟨b, off + n * 32, none⟩) (cl - n) W (Hs.drop (Hs.next HHS.out hb) n) (fun h hh => HLO.out h (List.mem_of_mem_drop hh)) (by rw [List.length_drop, HLL.out]; omega) (by rw [List.length_drop, HLL.out]; omega) (by rw [List.length_drop, HLL.out]; omega) (by have := HCM.out; omega)
        rw [List.length_drop, HLL.out, ← hT2, show n + m - n = m from by omega] at h
        exact h
      have HC3 : Hid (∀ W, Below W2.heap.size W2 W → Calls Try.prog 31 #[.slice (some ⟨b, off, none⟩) (n + m) cl] W fun e w' => e = .returned (.agg T3) ∧ Below W.heap.size W w') := Lib.hid fun W hb => by
        have h := tree_any 65 L (some ⟨b, off, none⟩) cl W (Hs.next HHS.out hb) HLO.out (by rw [HLL.out]; omega) (by rw [HLL.out]; omega) (by rw [HLL.out]; exact hcl1) HCM.out
        rw [HLL.out, ← hT3] at h
        exact h
      have HD1 := Lib.hid hT1
      have HD2 := Lib.hid hT2
      have HTP := Lib.hid (show tp (n + m) = n from by
        have h := two_tp ⟨e6, he6'⟩ ⟨m, by omega⟩ hm1 (by show m ≤ 2 ^ e6; rw [← HNE.out]; exact hm2)
        dsimp only at h
        rw [← HNE.out] at h
        exact h)
      have HDV := Lib.hid (show hc (sumH [[1], hl (treeF 64 (L.take n)), hl (treeF 64 (L.drop n))].flatten) = T3 from by
        rw [hT3, treeF_two (k := 64) (l := L) (by rw [HLL.out]; omega), HLL.out, HTP.out]; simp)
      have hev : ∀ W, (Op.equalIn 10000 33 (.agg T3) (.agg T3)).run Try.prog W = .ok true W := fun W => by rw [hT3, eq_hash, eqh_self]
      have HB2 := Lib.hid (show Below w.heap.size w W2 from by have h := HB.out; rw [HBE.out] at h; exact below_chain HB1.out h)
      clear hT1 hT2 hT3
      go_upto_region 13 with (fail)
      refine wp_region_list ?_
      repeat (first | go_values | go_skip | go_guarded | go_step | go_upon)
      refine (Hid.out HC1 W2 (Below.refl _ _)).mono ?_
      rintro e w3 ⟨rfl, hb3⟩
      dsimp only
      go_step
      go_step
      go_step
      go_step
      refine wpList_store_row (by rfl) 33 (.tmp 15) (.tmp 49) (by rfl) w3.heap.size T1 (by rfl) (by rfl) 33 (hc fun _ => 0) (by exact heap_alloc_new w3 _) HT1s.out HT1z.out HT1a.out ?_
      obtain ⟨W4, hW4⟩ : ∃ W, W = (w3.alloc (.cells (hc fun _ => 0) 33)).setRow w3.heap.size T1 := ⟨_, rfl⟩
      change wpList _ _ _ _ _ ((w3.alloc (.cells (hc fun _ => 0) 33)).setRow w3.heap.size T1)
      simp only [Act.put]
      obtain ⟨g1, hg1⟩ : ∃ g, g = w3.heap.size := ⟨_, rfl⟩
      rw [← hW4, ← hg1]
      have HX1 := Lib.hid (show W4.heap[g1]? = some (.cells T1 33 (0, 0)) from by rw [hg1]; exact (box_made hW4).1)
      have HB4 := Lib.hid (show Below W2.heap.size W2 W4 from below_chain hb3 (box_made hW4).2)
      clear hW4 hg1 hb3
      go_upto_region 14 with (fail)
      refine wp_region_list ?_
      repeat (first | go_values | go_skip | go_guarded | go_step | go_upon)
      refine (Hid.out HC2 W4 HB4.out).mono ?_
      rintro e w5 ⟨rfl, hb5⟩
      dsimp only
      go_step
      go_step
      go_step
      go_step
      refine wpList_store_row (by rfl) 33 (.tmp 16) (.tmp 53) (by rfl) w5.heap.size T2 (by rfl) (by rfl) 33 (hc fun _ => 0) (by exact heap_alloc_new w5 _) HT2s.out HT2z.out HT2a.out ?_
      obtain ⟨W6, hW6⟩ : ∃ W, W = (w5.alloc (.cells (hc fun _ => 0) 33)).setRow w5.heap.size T2 := ⟨_, rfl⟩
      change wpList _ _ _ _ _ ((w5.alloc (.cells (hc fun _ => 0) 33)).setRow w5.heap.size T2)
      simp only [Act.put]
      obtain ⟨g2, hg2⟩ : ∃ g, g = w5.heap.size := ⟨_, rfl⟩
      rw [← hW6, ← hg2]
      have HX2 := Lib.hid (show W6.heap[g2]? = some (.cells T2 33 (0, 0)) from by rw [hg2]; exact (box_made hW6).1)
      have hb46 := below_chain hb5 (box_made hW6).2
      have HX1' := Lib.hid (show W6.heap[g1]? = some (.cells T1 33 (0, 0)) from (hb46.block _ (Array.getElem?_eq_some_iff.1 HX1.out).1).trans HX1.out)
      have HB6 := Lib.hid (show Below W2.heap.size W2 W6 from below_chain HB4.out hb46)
      clear hW6 hg2 hb5 hb46 HX1 HB4
      have HBS1 := Lib.hid (show Bs W6 W6.heap.size (some ⟨g1, 0, none⟩) (hl (treeF 64 (L.take n))) from Bs.box (by rw [← HD1.out]; exact HX1'.out) (Array.getElem?_eq_some_iff.1 HX1'.out).1)
      have HBS2 := Lib.hid (show Bs W6 W6.heap.size (some ⟨g2, 0, none⟩) (hl (treeF 64 (L.drop n))) from Bs.box (by rw [← HD2.out]; exact HX2.out) (Array.getElem?_eq_some_iff.1 HX2.out).1)
      have HC3' : Hid (∀ W, Below W6.heap.size W6 W → Calls Try.prog 31 #[.slice (some ⟨b, off, none⟩) (n + m) cl] W fun e w' => e = .returned (.agg T3) ∧ Below W.heap.size W w') := Lib.hid fun W hb => HC3.out W (below_chain HB6.out hb)
      have HBt1 := Lib.hid (hl_byt (treeF_lt 64 _ (fun h hh => HLO.out h (List.mem_of_mem_take hh)) : ∀ j, treeF 64 (L.take n) j < 256))
      have HBt2 := Lib.hid (hl_byt (treeF_lt 64 _ (fun h hh => HLO.out h (List.mem_of_mem_drop hh)) : ∀ j, treeF 64 (L.drop n) j < 256))
      have HPR : Hid (∀ W gk, Below W6.heap.size W6 W → Bs W W.heap.size (some ⟨gk, 0, none⟩) [1] → Prt (W.alloc (.cells #[.slice (some ⟨gk, 0, none⟩) 1 1, .slice (some ⟨g1, 0, none⟩) 32 32, .slice (some ⟨g2, 0, none⟩) 32 32] 31)) (some ⟨W.heap.size, 0, none⟩) [.slice (some ⟨gk, 0, none⟩) 1 1, .slice (some ⟨g1, 0, none⟩) 32 32, .slice (some ⟨g2, 0, none⟩) 32 32] [[1], hl (treeF 64 (L.take n)), hl (treeF 64 (L.drop n))]) := Lib.hid fun W gk hb h1 => by
        have h := Prt.three (t := 31) (c := 1) (c2 := 32) (c3 := 32) h1 (by intro x hx; simp at hx; omega) (Bs.next HBS1.out hb) HBt1.out (Bs.next HBS2.out hb) HBt2.out
        rw [hl_len, hl_len] at h
        exact h
      clear HX1' HX2 HBS1 HBS2 HC1 HC2 HC3 HT1s HT1a HT1z HT2s HT2a HT2z hnc hnc2 hcm
      go_wp2_with fail
      refine wp_region_held_drew (S := fun w' => Hid (Below W6.heap.size W6 w')) (by kernel_rfl) (Lib.hid (Below.drew (Below.refl _ _))) (fun hHeld => ?_)
      refine wpAnyH_take (i := 0) (oi := { dst := some 54, op := Op.move (Operand.tmp 9), type := 4, pos := "law.go:88", after := #[], guard := none }) (v := ?_) rfl (by kernel_rfl) (by kernel_rfl) (by kernel_rfl) (fun _ _ _ h => h) (Or.inl ⟨by rfl, ?_⟩) (by assumption) ?_
      rotate_left 1
      · intro ws hSw; (try dsimp only at hSw); go_simp; all_goals with_reducible rfl
      simp only [Act.put, List.setIfInBounds_toArray, List.set_cons_zero, List.set_cons_succ]
      refine wpAnyH_take (i := 1) (oi := { dst := some 55, op := Op.move (Operand.tmp 54), type := 4, pos := "law.go:88", after := #[{ on := 0, ground := Ground.data }], guard := none }) (v := ?_) rfl (by kernel_rfl) (by kernel_rfl) (by kernel_rfl) (fun _ _ _ h => h) (Or.inl ⟨by rfl, ?_⟩) (by assumption) ?_
      rotate_left 1
      · intro ws hSw; (try dsimp only at hSw); go_simp; all_goals with_reducible rfl
      simp only [Act.put, List.setIfInBounds_toArray, List.set_cons_zero, List.set_cons_succ]
      refine wpAnyH_take (i := 2) (oi := { dst := some 56, op := Op.move (Operand.tmp 12), type := 32, pos := "law.go:88", after := #[{ on := 1, ground := Ground.guard }], guard := some (1, true) }) (v := ?_) rfl (by kernel_rfl) (by kernel_rfl) (by kernel_rfl) (fun _ _ _ h => h) (Or.inl ⟨by rfl, ?_⟩) (by assumption) ?_
      rotate_left 1
      · intro ws hSw; (try dsimp only at hSw); go_simp; all_goals with_reducible rfl
      simp only [Act.put, List.setIfInBounds_toArray, List.set_cons_zero, List.set_cons_succ]
      refine wpAnyH_take (i := 5) (oi := { dst := some 59, op := Op.slice 33 (Operand.tmp 15) none none none, type := 31, pos := "law.go:88", after := #[{ on := 1, ground := Ground.guard }], guard := some (1, true) }) (v := ?_) rfl (by kernel_rfl) (by kernel_rfl) (by kernel_rfl) (fun _ _ _ h => h) (Or.inl ⟨by rfl, ?_⟩) (by assumption) ?_
      rotate_left 1
      · intro ws hSw; (try dsimp only at hSw); go_simp; all_goals with_reducible rfl
      simp only [Act.put, List.setIfInBounds_toArray, List.set_cons_zero, List.set_cons_succ]
      refine wpAnyH_take (i := 6) (oi := { dst := some 60, op := Op.slice 33 (Operand.tmp 16) none none none, type := 31, pos := "law.go:88", after := #[{ on := 1, ground := Ground.guard }], guard := some (1, true) }) (v := ?_) rfl (by kernel_rfl) (by kernel_rfl) (by kernel_rfl) (fun _ _ _ h => h) (Or.inl ⟨by rfl, ?_⟩) (by assumption) ?_
      rotate_left 1
      · intro ws hSw; (try dsimp only at hSw); go_simp; all_goals with_reducible rfl
      simp only [Act.put, List.setIfInBounds_toArray, List.set_cons_zero, List.set_cons_succ]
      have HBr := hHeld
      clear hHeld
      obtain ⟨Za, hWa⟩ : ∃ W, W = W6.drew := ⟨_, rfl⟩
      rw [← hWa] at HBr ⊢
      clear hWa
      refine wpAnyH_ready (rs := [3, 4]) (by kernel_rfl) (by simp) ?_
      refine AllReadyH.cons (o := { dst := some 57, op := Op.call { callee := Callee.value (Operand.func 31), args := #[Operand.tmp 56], argTypes := #[32] }, type := 33, pos := "law.go:88", after := #[{ on := 2, ground := Ground.data }, { on := 1, ground := Ground.chain }, { on := 1, ground := Ground.guard }], guard := some (1, true) }) rfl (fun K hK => ?_) ?_
      · go_simp
        (with_reducible refine (HC3'.out _ HBr.out).mono ?_)
        rintro e Z1 ⟨rfl, hb⟩
        refine hK.out _ _ ?_ (fun hHeld => ?_)
        · exact Lib.hid (below_chain HBr.out hb)
        clear hK K
        try simp only [Act.put, List.setIfInBounds_toArray, List.set_cons_zero, List.set_cons_succ]
        clear hb HBr
        have HBr := hHeld
        clear hHeld
        refine wpAnyH_ready (rs := [4]) (by kernel_rfl) (by simp) ?_
        refine AllReadyH.cons (o := { dst := some 58, op := Op.buildSlice 31 1 #[(0, Operand.const (Value.int IntKind.u8 1))], type := 31, pos := "law.go:88", after := #[{ on := 1, ground := Ground.guard }], guard := some (1, true) }) rfl (fun K hK => ?_) AllReadyH.nil
        go_simp
        refine hK.out _ _ ?_ (fun hHeld => ?_)
        · exact Lib.hid (HBr.out.alloc HBr.out.size _)
        clear hK K
        try simp only [Act.put, List.setIfInBounds_toArray, List.set_cons_zero, List.set_cons_succ]
        obtain ⟨Z2, hW⟩ : ∃ W', W' = Z1.alloc (.cells #[.int .u8 1] 5) := ⟨_, rfl⟩
        change wpAnyH _ _ _ _ _ _ _ _ (Z1.alloc (.cells #[.int .u8 1] 5))
        rw [← hW]
        have HBr' := Lib.hid (show Below W6.heap.size W6 Z2 from by rw [hW]; exact HBr.out.alloc HBr.out.size _)
        have hb : Below Z1.heap.size Z1 Z2 := by rw [hW]; exact (Below.refl _ _).alloc (Nat.le_refl _) _
        have PA := Lib.hid (show Bs Z2 Z2.heap.size (some ⟨Z1.heap.size, 0, none⟩) [1] from by rw [hW, World.size_alloc]; exact Bs.ofOne Z1 1)
        obtain ⟨ga1, hga1⟩ : ∃ g, g = Z1.heap.size := ⟨_, rfl⟩
        rw [← hga1] at PA ⊢
        clear hW hb hHeld HBr hga1
        have HBr := HBr'
        clear HBr'
        refine wpAnyH_ready (rs := [7]) (by kernel_rfl) (by simp) ?_
        refine AllReadyH.cons (o := { dst := some 61, op := Op.buildSlice 52 3 #[(0, Operand.tmp 58), (1, Operand.tmp 59), (2, Operand.tmp 60)], type := 52, pos := "law.go:88", after := #[{ on := 4, ground := Ground.data }, { on := 5, ground := Ground.data }, { on := 6, ground := Ground.data }, { on := 1, ground := Ground.guard }], guard := some (1, true) }) rfl (fun K hK => ?_) AllReadyH.nil
        go_simp
        refine hK.out _ _ ?_ (fun hHeld => ?_)
        · exact Lib.hid (HBr.out.alloc HBr.out.size _)
        clear hK K
        try simp only [Act.put, List.setIfInBounds_toArray, List.set_cons_zero, List.set_cons_succ]
        obtain ⟨Z3, hW⟩ : ∃ W', W' = Z2.alloc (.cells #[.slice (some ⟨ga1, 0, none⟩) 1 1, .slice (some ⟨g1, 0, none⟩) 32 32, .slice (some ⟨g2, 0, none⟩) 32 32] 31) := ⟨_, rfl⟩
        change wpAnyH _ _ _ _ _ _ _ _ (Z2.alloc (.cells #[.slice (some ⟨ga1, 0, none⟩) 1 1, .slice (some ⟨g1, 0, none⟩) 32 32, .slice (some ⟨g2, 0, none⟩) 32 32] 31))
        rw [← hW]
        have HBr' := Lib.hid (show Below W6.heap.size W6 Z3 from by rw [hW]; exact HBr.out.alloc HBr.out.size _)
        have hb : Below Z2.heap.size Z2 Z3 := by rw [hW]; exact (Below.refl _ _).alloc (Nat.le_refl _) _
        have PR := Lib.hid (show Prt Z3 (some ⟨Z2.heap.size, 0, none⟩) [.slice (some ⟨ga1, 0, none⟩) 1 1, .slice (some ⟨g1, 0, none⟩) 32 32, .slice (some ⟨g2, 0, none⟩) 32 32] [[1], hl (treeF 64 (L.take n)), hl (treeF 64 (L.drop n))] from by rw [hW]; exact HPR.out _ ga1 HBr.out PA.out)
        replace PA := Lib.hid (Bs.next PA.out hb)
        obtain ⟨gb1, hgb1⟩ : ∃ g, g = Z2.heap.size := ⟨_, rfl⟩
        rw [← hgb1] at PR ⊢
        clear hW hb hHeld HBr hgb1
        have HBr := HBr'
        clear HBr'
        refine wpAnyH_ready (rs := [8]) (by kernel_rfl) (by simp) ?_
        refine AllReadyH.cons (o := { dst := some 62, op := Op.call { callee := Callee.value (Operand.func 29), args := #[Operand.tmp 61], argTypes := #[52] }, type := 33, pos := "law.go:88", after := #[{ on := 7, ground := Ground.data }, { on := 3, ground := Ground.chain }, { on := 1, ground := Ground.guard }], guard := some (1, true) }) rfl (fun K hK => ?_) AllReadyH.nil
        go_simp
        (with_reducible refine (show Calls _ _ #[.slice (some ⟨gb1, 0, none⟩) 3 3] _ _ from sum_any _ 3 _ _ _ PR.out (by simp) (by simp) (by simp [hl_len])).mono ?_)
        rintro e Z4 ⟨rfl, hb⟩
        rw [HDV.out]
        refine hK.out _ _ ?_ (fun hHeld => ?_)
        · exact Lib.hid (below_chain HBr.out hb)
        clear hK K
        try simp only [Act.put, List.setIfInBounds_toArray, List.set_cons_zero, List.set_cons_succ]
        replace PA := Lib.hid (Bs.next PA.out hb)
        replace PR := Lib.hid (Prt.nextW PR.out hb)
        clear hb HBr
        have HBr := hHeld
        clear hHeld
        refine wpAnyH_take (i := 9) (oi := { dst := some 63, op := Op.binOp BinOp.eql 33 (Operand.tmp 57) (Operand.tmp 62) 33, type := 4, pos := "law.go:88", after := #[{ on := 3, ground := Ground.data }, { on := 8, ground := Ground.data }, { on := 1, ground := Ground.guard }], guard := some (1, true) }) (v := ?_) rfl (by kernel_rfl) (by kernel_rfl) (by kernel_rfl) (fun _ _ _ h => h) (Or.inl ⟨by rfl, ?_⟩) (by assumption) ?_
        rotate_left 1
        · intro ws hSw; (try dsimp only at hSw); go_simp; all_goals with_reducible rfl
        simp only [Act.put, List.setIfInBounds_toArray, List.set_cons_zero, List.set_cons_succ]
        refine wpAnyH_take (i := 10) (oi := { dst := some 64, op := Op.pick (Operand.tmp 55) (Operand.tmp 63) (Operand.const (Value.bool false)), type := 4, pos := "law.go:88", after := #[{ on := 1, ground := Ground.data }, { on := 9, ground := Ground.data }], guard := none }) (v := ?_) rfl (by kernel_rfl) (by kernel_rfl) (by kernel_rfl) (fun _ _ _ h => h) (Or.inl ⟨by rfl, ?_⟩) (by assumption) ?_
        rotate_left 1
        · intro ws hSw; (try dsimp only at hSw); go_simp; all_goals with_reducible rfl
        simp only [Act.put, List.setIfInBounds_toArray, List.set_cons_zero, List.set_cons_succ]
        refine wpAnyH_take (i := 11) (oi := { dst := some 8, op := Op.assign (Operand.tmp 64), type := 4, pos := "law.go:88", after := #[{ on := 10, ground := Ground.data }, { on := 8, ground := Ground.chain }, { on := 0, ground := Ground.phase }, { on := 1, ground := Ground.phase }, { on := 2, ground := Ground.phase }, { on := 3, ground := Ground.phase }, { on := 4, ground := Ground.phase }, { on := 5, ground := Ground.phase }, { on := 6, ground := Ground.phase }, { on := 7, ground := Ground.phase }, { on := 8, ground := Ground.phase }, { on := 9, ground := Ground.phase }, { on := 10, ground := Ground.phase }], guard := none }) (v := ?_) rfl (by kernel_rfl) (by kernel_rfl) (by kernel_rfl) (fun _ _ _ h => h) (Or.inl ⟨by rfl, ?_⟩) (by assumption) ?_
        rotate_left 1
        · intro ws hSw; (try dsimp only at hSw); go_simp; all_goals with_reducible rfl
        simp only [Act.put, List.setIfInBounds_toArray, List.set_cons_zero, List.set_cons_succ]
        refine wpAnyH_done (by kernel_rfl) ?_ _
        go_wp2_with fail
        go_ret
        exact ⟨rfl, below_chain (below_chain HB2.out HB6.out) HBr.out⟩
      refine AllReadyH.cons (o := { dst := some 58, op := Op.buildSlice 31 1 #[(0, Operand.const (Value.int IntKind.u8 1))], type := 31, pos := "law.go:88", after := #[{ on := 1, ground := Ground.guard }], guard := some (1, true) }) rfl (fun K hK => ?_) AllReadyH.nil
      go_simp
      refine hK.out _ _ ?_ (fun hHeld => ?_)
      · exact Lib.hid (HBr.out.alloc HBr.out.size _)
      clear hK K
      try simp only [Act.put, List.setIfInBounds_toArray, List.set_cons_zero, List.set_cons_succ]
      obtain ⟨Z5, hW⟩ : ∃ W', W' = Za.alloc (.cells #[.int .u8 1] 5) := ⟨_, rfl⟩
      change wpAnyH _ _ _ _ _ _ _ _ (Za.alloc (.cells #[.int .u8 1] 5))
      rw [← hW]
      have HBr' := Lib.hid (show Below W6.heap.size W6 Z5 from by rw [hW]; exact HBr.out.alloc HBr.out.size _)
      have hb : Below Za.heap.size Za Z5 := by rw [hW]; exact (Below.refl _ _).alloc (Nat.le_refl _) _
      have PA := Lib.hid (show Bs Z5 Z5.heap.size (some ⟨Za.heap.size, 0, none⟩) [1] from by rw [hW, World.size_alloc]; exact Bs.ofOne Za 1)
      obtain ⟨ga1, hga1⟩ : ∃ g, g = Za.heap.size := ⟨_, rfl⟩
      rw [← hga1] at PA ⊢
      clear hW hb hHeld HBr hga1
      have HBr := HBr'
      clear HBr'
      refine wpAnyH_ready (rs := [3, 7]) (by kernel_rfl) (by simp) ?_
      refine AllReadyH.cons (o := { dst := some 57, op := Op.call { callee := Callee.value (Operand.func 31), args := #[Operand.tmp 56], argTypes := #[32] }, type := 33, pos := "law.go:88", after := #[{ on := 2, ground := Ground.data }, { on := 1, ground := Ground.chain }, { on := 1, ground := Ground.guard }], guard := some (1, true) }) rfl (fun K hK => ?_) ?_
      · go_simp
        (with_reducible refine (HC3'.out _ HBr.out).mono ?_)
        rintro e Z6 ⟨rfl, hb⟩
        refine hK.out _ _ ?_ (fun hHeld => ?_)
        · exact Lib.hid (below_chain HBr.out hb)
        clear hK K
        try simp only [Act.put, List.setIfInBounds_toArray, List.set_cons_zero, List.set_cons_succ]
        replace PA := Lib.hid (Bs.next PA.out hb)
        clear hb HBr
        have HBr := hHeld
        clear hHeld
        refine wpAnyH_ready (rs := [7]) (by kernel_rfl) (by simp) ?_
        refine AllReadyH.cons (o := { dst := some 61, op := Op.buildSlice 52 3 #[(0, Operand.tmp 58), (1, Operand.tmp 59), (2, Operand.tmp 60)], type := 52, pos := "law.go:88", after := #[{ on := 4, ground := Ground.data }, { on := 5, ground := Ground.data }, { on := 6, ground := Ground.data }, { on := 1, ground := Ground.guard }], guard := some (1, true) }) rfl (fun K hK => ?_) AllReadyH.nil
        go_simp
        refine hK.out _ _ ?_ (fun hHeld => ?_)
        · exact Lib.hid (HBr.out.alloc HBr.out.size _)
        clear hK K
        try simp only [Act.put, List.setIfInBounds_toArray, List.set_cons_zero, List.set_cons_succ]
        obtain ⟨Z7, hW⟩ : ∃ W', W' = Z6.alloc (.cells #[.slice (some ⟨ga1, 0, none⟩) 1 1, .slice (some ⟨g1, 0, none⟩) 32 32, .slice (some ⟨g2, 0, none⟩) 32 32] 31) := ⟨_, rfl⟩
        change wpAnyH _ _ _ _ _ _ _ _ (Z6.alloc (.cells #[.slice (some ⟨ga1, 0, none⟩) 1 1, .slice (some ⟨g1, 0, none⟩) 32 32, .slice (some ⟨g2, 0, none⟩) 32 32] 31))
        rw [← hW]
        have HBr' := Lib.hid (show Below W6.heap.size W6 Z7 from by rw [hW]; exact HBr.out.alloc HBr.out.size _)
        have hb : Below Z6.heap.size Z6 Z7 := by rw [hW]; exact (Below.refl _ _).alloc (Nat.le_refl _) _
        have PR := Lib.hid (show Prt Z7 (some ⟨Z6.heap.size, 0, none⟩) [.slice (some ⟨ga1, 0, none⟩) 1 1, .slice (some ⟨g1, 0, none⟩) 32 32, .slice (some ⟨g2, 0, none⟩) 32 32] [[1], hl (treeF 64 (L.take n)), hl (treeF 64 (L.drop n))] from by rw [hW]; exact HPR.out _ ga1 HBr.out PA.out)
        replace PA := Lib.hid (Bs.next PA.out hb)
        obtain ⟨gb1, hgb1⟩ : ∃ g, g = Z6.heap.size := ⟨_, rfl⟩
        rw [← hgb1] at PR ⊢
        clear hW hb hHeld HBr hgb1
        have HBr := HBr'
        clear HBr'
        refine wpAnyH_ready (rs := [8]) (by kernel_rfl) (by simp) ?_
        refine AllReadyH.cons (o := { dst := some 62, op := Op.call { callee := Callee.value (Operand.func 29), args := #[Operand.tmp 61], argTypes := #[52] }, type := 33, pos := "law.go:88", after := #[{ on := 7, ground := Ground.data }, { on := 3, ground := Ground.chain }, { on := 1, ground := Ground.guard }], guard := some (1, true) }) rfl (fun K hK => ?_) AllReadyH.nil
        go_simp
        (with_reducible refine (show Calls _ _ #[.slice (some ⟨gb1, 0, none⟩) 3 3] _ _ from sum_any _ 3 _ _ _ PR.out (by simp) (by simp) (by simp [hl_len])).mono ?_)
        rintro e Z8 ⟨rfl, hb⟩
        rw [HDV.out]
        refine hK.out _ _ ?_ (fun hHeld => ?_)
        · exact Lib.hid (below_chain HBr.out hb)
        clear hK K
        try simp only [Act.put, List.setIfInBounds_toArray, List.set_cons_zero, List.set_cons_succ]
        replace PA := Lib.hid (Bs.next PA.out hb)
        replace PR := Lib.hid (Prt.nextW PR.out hb)
        clear hb HBr
        have HBr := hHeld
        clear hHeld
        refine wpAnyH_take (i := 9) (oi := { dst := some 63, op := Op.binOp BinOp.eql 33 (Operand.tmp 57) (Operand.tmp 62) 33, type := 4, pos := "law.go:88", after := #[{ on := 3, ground := Ground.data }, { on := 8, ground := Ground.data }, { on := 1, ground := Ground.guard }], guard := some (1, true) }) (v := ?_) rfl (by kernel_rfl) (by kernel_rfl) (by kernel_rfl) (fun _ _ _ h => h) (Or.inl ⟨by rfl, ?_⟩) (by assumption) ?_
        rotate_left 1
        · intro ws hSw; (try dsimp only at hSw); go_simp; all_goals with_reducible rfl
        simp only [Act.put, List.setIfInBounds_toArray, List.set_cons_zero, List.set_cons_succ]
        refine wpAnyH_take (i := 10) (oi := { dst := some 64, op := Op.pick (Operand.tmp 55) (Operand.tmp 63) (Operand.const (Value.bool false)), type := 4, pos := "law.go:88", after := #[{ on := 1, ground := Ground.data }, { on := 9, ground := Ground.data }], guard := none }) (v := ?_) rfl (by kernel_rfl) (by kernel_rfl) (by kernel_rfl) (fun _ _ _ h => h) (Or.inl ⟨by rfl, ?_⟩) (by assumption) ?_
        rotate_left 1
        · intro ws hSw; (try dsimp only at hSw); go_simp; all_goals with_reducible rfl
        simp only [Act.put, List.setIfInBounds_toArray, List.set_cons_zero, List.set_cons_succ]
        refine wpAnyH_take (i := 11) (oi := { dst := some 8, op := Op.assign (Operand.tmp 64), type := 4, pos := "law.go:88", after := #[{ on := 10, ground := Ground.data }, { on := 8, ground := Ground.chain }, { on := 0, ground := Ground.phase }, { on := 1, ground := Ground.phase }, { on := 2, ground := Ground.phase }, { on := 3, ground := Ground.phase }, { on := 4, ground := Ground.phase }, { on := 5, ground := Ground.phase }, { on := 6, ground := Ground.phase }, { on := 7, ground := Ground.phase }, { on := 8, ground := Ground.phase }, { on := 9, ground := Ground.phase }, { on := 10, ground := Ground.phase }], guard := none }) (v := ?_) rfl (by kernel_rfl) (by kernel_rfl) (by kernel_rfl) (fun _ _ _ h => h) (Or.inl ⟨by rfl, ?_⟩) (by assumption) ?_
        rotate_left 1
        · intro ws hSw; (try dsimp only at hSw); go_simp; all_goals with_reducible rfl
        simp only [Act.put, List.setIfInBounds_toArray, List.set_cons_zero, List.set_cons_succ]
        refine wpAnyH_done (by kernel_rfl) ?_ _
        go_wp2_with fail
        go_ret
        exact ⟨rfl, below_chain (below_chain HB2.out HB6.out) HBr.out⟩
      refine AllReadyH.cons (o := { dst := some 61, op := Op.buildSlice 52 3 #[(0, Operand.tmp 58), (1, Operand.tmp 59), (2, Operand.tmp 60)], type := 52, pos := "law.go:88", after := #[{ on := 4, ground := Ground.data }, { on := 5, ground := Ground.data }, { on := 6, ground := Ground.data }, { on := 1, ground := Ground.guard }], guard := some (1, true) }) rfl (fun K hK => ?_) AllReadyH.nil
      go_simp
      refine hK.out _ _ ?_ (fun hHeld => ?_)
      · exact Lib.hid (HBr.out.alloc HBr.out.size _)
      clear hK K
      try simp only [Act.put, List.setIfInBounds_toArray, List.set_cons_zero, List.set_cons_succ]
      obtain ⟨Z9, hW⟩ : ∃ W', W' = Z5.alloc (.cells #[.slice (some ⟨ga1, 0, none⟩) 1 1, .slice (some ⟨g1, 0, none⟩) 32 32, .slice (some ⟨g2, 0, none⟩) 32 32] 31) := ⟨_, rfl⟩
      change wpAnyH _ _ _ _ _ _ _ _ (Z5.alloc (.cells #[.slice (some ⟨ga1, 0, none⟩) 1 1, .slice (some ⟨g1, 0, none⟩) 32 32, .slice (some ⟨g2, 0, none⟩) 32 32] 31))
      rw [← hW]
      have HBr' := Lib.hid (show Below W6.heap.size W6 Z9 from by rw [hW]; exact HBr.out.alloc HBr.out.size _)
      have hb : Below Z5.heap.size Z5 Z9 := by rw [hW]; exact (Below.refl _ _).alloc (Nat.le_refl _) _
      have PR := Lib.hid (show Prt Z9 (some ⟨Z5.heap.size, 0, none⟩) [.slice (some ⟨ga1, 0, none⟩) 1 1, .slice (some ⟨g1, 0, none⟩) 32 32, .slice (some ⟨g2, 0, none⟩) 32 32] [[1], hl (treeF 64 (L.take n)), hl (treeF 64 (L.drop n))] from by rw [hW]; exact HPR.out _ ga1 HBr.out PA.out)
      replace PA := Lib.hid (Bs.next PA.out hb)
      obtain ⟨gb1, hgb1⟩ : ∃ g, g = Z5.heap.size := ⟨_, rfl⟩
      rw [← hgb1] at PR ⊢
      clear hW hb hHeld HBr hgb1
      have HBr := HBr'
      clear HBr'
      refine wpAnyH_ready (rs := [3]) (by kernel_rfl) (by simp) ?_
      refine AllReadyH.cons (o := { dst := some 57, op := Op.call { callee := Callee.value (Operand.func 31), args := #[Operand.tmp 56], argTypes := #[32] }, type := 33, pos := "law.go:88", after := #[{ on := 2, ground := Ground.data }, { on := 1, ground := Ground.chain }, { on := 1, ground := Ground.guard }], guard := some (1, true) }) rfl (fun K hK => ?_) AllReadyH.nil
      go_simp
      (with_reducible refine (HC3'.out _ HBr.out).mono ?_)
      rintro e Z10 ⟨rfl, hb⟩
      refine hK.out _ _ ?_ (fun hHeld => ?_)
      · exact Lib.hid (below_chain HBr.out hb)
      clear hK K
      try simp only [Act.put, List.setIfInBounds_toArray, List.set_cons_zero, List.set_cons_succ]
      replace PA := Lib.hid (Bs.next PA.out hb)
      replace PR := Lib.hid (Prt.nextW PR.out hb)
      clear hb HBr
      have HBr := hHeld
      clear hHeld
      refine wpAnyH_ready (rs := [8]) (by kernel_rfl) (by simp) ?_
      refine AllReadyH.cons (o := { dst := some 62, op := Op.call { callee := Callee.value (Operand.func 29), args := #[Operand.tmp 61], argTypes := #[52] }, type := 33, pos := "law.go:88", after := #[{ on := 7, ground := Ground.data }, { on := 3, ground := Ground.chain }, { on := 1, ground := Ground.guard }], guard := some (1, true) }) rfl (fun K hK => ?_) AllReadyH.nil
      go_simp
      (with_reducible refine (show Calls _ _ #[.slice (some ⟨gb1, 0, none⟩) 3 3] _ _ from sum_any _ 3 _ _ _ PR.out (by simp) (by simp) (by simp [hl_len])).mono ?_)
      rintro e Z11 ⟨rfl, hb⟩
      rw [HDV.out]
      refine hK.out _ _ ?_ (fun hHeld => ?_)
      · exact Lib.hid (below_chain HBr.out hb)
      clear hK K
      try simp only [Act.put, List.setIfInBounds_toArray, List.set_cons_zero, List.set_cons_succ]
      replace PA := Lib.hid (Bs.next PA.out hb)
      replace PR := Lib.hid (Prt.nextW PR.out hb)
      clear hb HBr
      have HBr := hHeld
      clear hHeld
      refine wpAnyH_take (i := 9) (oi := { dst := some 63, op := Op.binOp BinOp.eql 33 (Operand.tmp 57) (Operand.tmp 62) 33, type := 4, pos := "law.go:88", after := #[{ on := 3, ground := Ground.data }, { on := 8, ground := Ground.data }, { on := 1, ground := Ground.guard }], guard := some (1, true) }) (v := ?_) rfl (by kernel_rfl) (by kernel_rfl) (by kernel_rfl) (fun _ _ _ h => h) (Or.inl ⟨by rfl, ?_⟩) (by assumption) ?_
      rotate_left 1
      · intro ws hSw; (try dsimp only at hSw); go_simp; all_goals with_reducible rfl
      simp only [Act.put, List.setIfInBounds_toArray, List.set_cons_zero, List.set_cons_succ]
      refine wpAnyH_take (i := 10) (oi := { dst := some 64, op := Op.pick (Operand.tmp 55) (Operand.tmp 63) (Operand.const (Value.bool false)), type := 4, pos := "law.go:88", after := #[{ on := 1, ground := Ground.data }, { on := 9, ground := Ground.data }], guard := none }) (v := ?_) rfl (by kernel_rfl) (by kernel_rfl) (by kernel_rfl) (fun _ _ _ h => h) (Or.inl ⟨by rfl, ?_⟩) (by assumption) ?_
      rotate_left 1
      · intro ws hSw; (try dsimp only at hSw); go_simp; all_goals with_reducible rfl
      simp only [Act.put, List.setIfInBounds_toArray, List.set_cons_zero, List.set_cons_succ]
      refine wpAnyH_take (i := 11) (oi := { dst := some 8, op := Op.assign (Operand.tmp 64), type := 4, pos := "law.go:88", after := #[{ on := 10, ground := Ground.data }, { on := 8, ground := Ground.chain }, { on := 0, ground := Ground.phase }, { on := 1, ground := Ground.phase }, { on := 2, ground := Ground.phase }, { on := 3, ground := Ground.phase }, { on := 4, ground := Ground.phase }, { on := 5, ground := Ground.phase }, { on := 6, ground := Ground.phase }, { on := 7, ground := Ground.phase }, { on := 8, ground := Ground.phase }, { on := 9, ground := Ground.phase }, { on := 10, ground := Ground.phase }], guard := none }) (v := ?_) rfl (by kernel_rfl) (by kernel_rfl) (by kernel_rfl) (fun _ _ _ h => h) (Or.inl ⟨by rfl, ?_⟩) (by assumption) ?_
      rotate_left 1
      · intro ws hSw; (try dsimp only at hSw); go_simp; all_goals with_reducible rfl
      simp only [Act.put, List.setIfInBounds_toArray, List.set_cons_zero, List.set_cons_succ]
      refine wpAnyH_done (by kernel_rfl) ?_ _
      go_wp2_with fail
      go_ret
      exact ⟨rfl, below_chain (below_chain HB2.out HB6.out) HBr.out⟩

set_option maxRecDepth 100000 in
theorem shaTwo_lifted (os : Os) (started : os.Started) (H : Type) (enc : TypeId × Value → H) :
    ReturnsInHanded {} Try.checked os 9 .any (Rows.shaTwoSpec.pre6 enc Try.prog Try.f9 Rows.shaTwoRow.domain false) (Rows.shaTwoSpec.post enc Try.prog Try.f9 false true false false) := by
  refine returnsInHanded_of_change (C := Try.checked) own started (by kernel_rfl) Try.func9
    (ChangeSpec.witness6 (enc := enc) (C := Try.checked) false ⟨#[], #[.agg (hc fun _ => 0), .agg (hc fun _ => 0), .int .u8 0, .int .u8 0], []⟩ 8 (by kernel_rfl) (by kernel_rfl) (by kernel_rfl) (by kernel_rfl)) ?_
  intro W base args ds gs before hval0 hW _ _
  have hval : ∀ (j : Nat) t v, Try.f9.params[j]? = some t → args[j]? = some v → Value.okWide Try.prog W .any base t v := hval0
  have hW' := hW
  obtain ⟨p, q, hA0, hV, rfl, _, _⟩ := hW
  have hA : DataW.TrodAll enc Try.prog W 0 (fun _ => true) true Try.f9.params.toList args.toList ds p := hA0
  rw [Try.params9] at hA hval
  obtain ⟨v0, vs0, d0, ds0, p0, q0, hargs, rfl, rfl, h0, r0⟩ := trodAll_cons hA
  obtain ⟨v1, vs1, d1, ds1, p1, q1, rfl, rfl, rfl, h1, r1⟩ := trodAll_cons r0
  obtain ⟨v2, vs2, d2, ds2, p2, q2, rfl, rfl, rfl, h2, r2⟩ := trodAll_cons r1
  obtain ⟨v3, vs3, d3, ds3, p3, q3, rfl, rfl, rfl, h3, r3⟩ := trodAll_cons r2
  obtain ⟨rfl, rfl, rfl⟩ := trodAll_nil r3
  obtain rfl : args = #[v0, v1, v2, v3] := by cases args; simp_all
  obtain ⟨rfl, rfl⟩ := trodVars_none hV
  have k0 := h0
  have lt0 : ∀ x ∈ p0, x.block < W.heap.size := by obtain ⟨m, hm⟩ := k0; exact DataW.trod_lt m _ _ _ hm
  obtain ⟨f0, rfl, b0⟩ := open_H (hval 0 33 v0 rfl rfl) h0
  have k1 := h1
  have lt1 : ∀ x ∈ p1, x.block < W.heap.size := by obtain ⟨m, hm⟩ := k1; exact DataW.trod_lt m _ _ _ hm
  obtain ⟨f1, rfl, b1⟩ := open_H (hval 1 33 v1 rfl rfl) h1
  have k2 := h2
  have lt2 : ∀ x ∈ p2, x.block < W.heap.size := by obtain ⟨m, hm⟩ := k2; exact DataW.trod_lt m _ _ _ hm
  obtain ⟨n2, rfl, f2⟩ := open_u8 (hval 2 5 v2 rfl rfl) h2
  have k3 := h3
  have lt3 : ∀ x ∈ p3, x.block < W.heap.size := by obtain ⟨m, hm⟩ := k3; exact DataW.trod_lt m _ _ _ hm
  obtain ⟨n3, rfl, f3⟩ := open_u8 (hval 3 5 v3 rfl rfl) h3
  clear hA0 hval0 hval
  refine (shaTwo_walk W f0 b0 f1 b1 n2 f2 n3 f3).mono fun e W' ⟨he, bel⟩ => ?_
  subst he
  exact ⟨_, rfl, _, _, _, [], _, [], hW', trodAll_mk1 (shut_bool Try.underlying4 _), (trodAll_cons_mk (Below.trod laidOut (by kernel_rfl) (of_decide_eq_true (by kernel_rfl)) k0 bel lt0) (trodAll_cons_mk (Below.trod laidOut (by kernel_rfl) (of_decide_eq_true (by kernel_rfl)) k1 bel lt1) (trodAll_cons_mk (Below.trod laidOut (by kernel_rfl) (of_decide_eq_true (by kernel_rfl)) k2 bel lt2) (trodAll_cons_mk (Below.trod laidOut (by kernel_rfl) (of_decide_eq_true (by kernel_rfl)) k3 bel lt3) trodAll_mk0)))), rfl, bel.frame _, fun h => by cases h⟩

theorem shaTwo_holds : Rows.ShaTwoSaid :=
  OpenClaim.holds_of_wide 9 Try.f9 rfl rfl rfl rfl rfl rfl rfl ⟨rfl, rfl, rfl, rfl, rfl⟩ rfl rfl rfl rfl rfl (by kernel_rfl) Try.func9 (by kernel_rfl)
    (of_decide_eq_true (by kernel_rfl)) (by unfold Func.isWrapper; first | (rw [if_pos (by decide +kernel)]; kernel_rfl) | (rw [if_neg (by decide +kernel)]; exact ⟨rfl, rfl⟩))
    (fun os started H enc _ => shaTwo_lifted os started H enc)
#print axioms shaTwo_holds
end Go.Proofs.Ytmpbimechgelfaa

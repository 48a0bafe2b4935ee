/- TransferFinds holds: an image holds all its chunks, and its beginning those that are all there. Conditions: none. -/
import Derived.Test.YtmpbimechgelfaaTAwake
import Derived.Test.YtmpbimechgelfaaTOpen
import Derived.Test.YtmpbimechgelfaaFnd
namespace Go.Proofs.Ytmpbimechgelfaa
open Go.ChangeShapes Go.WideShapes Go.ChangeAt Go.RowKit Go.Joins Go.Deep

set_option maxRecDepth 100000 in
theorem neg_wrap {n : Int} (h : Fit n) (_hn : n < 0) : IntKind.i64.wrap (n + 1) = n + 1 ∧ IntKind.i64.wrap (-(n + 1)) = -(n + 1) ∧ 0 ≤ -(n + 1) ∧ -(n + 1) ≤ 9223372036854775807 := by
  unfold Fit at h
  exact ⟨IntWalk.i64_in _ (by omega), IntWalk.i64_in _ (by omega), by omega, by omega⟩
theorem mod_pos {n : Int} (h : 0 ≤ n) (m : Nat) : ∃ N : Nat, n % ((m : Int) + 1) = (N : Int) ∧ N ≤ m :=
  ⟨(n % ((m : Int) + 1)).toNat, by have := Int.emod_nonneg n (show ((m : Int) + 1) ≠ 0 by omega); omega, by have := Int.emod_lt_of_pos n (show 0 < (m : Int) + 1 by omega); omega⟩
theorem mod_neg {n : Int} (h : n < 0) (m : Nat) : ∃ N : Nat, -(n + 1).tmod ((m : Int) + 1) = (N : Int) ∧ N ≤ m := by
  obtain ⟨N, e, hN⟩ := mod_pos (show 0 ≤ -(n + 1) by omega) m
  refine ⟨N, ?_, hN⟩
  rw [← e, ← Int.neg_tmod, Int.tmod_eq_emod_of_nonneg (by omega)]
set_option maxRecDepth 100000 in
set_option maxHeartbeats 8000000 in
theorem transferFinds_walk (w : World) (A0 : Option Addr) (c0 : Nat) (l : List Nat) (hi0 : InB w A0 c0 l) (kI : Int) (_hf : Fit kI) (nI : Int) (hfn : Fit nI) (A3 : Option Addr) (c3 : Nat) (b : List Nat) (hi3 : InB w A3 c3 b) :
    Calls Try.prog 5 #[.slice A0 l.length c0, .int .i64 kI, .int .i64 nI, .slice A3 b.length c3] w fun e w' => e = .returned (.bool true) ∧ Below w.heap.size w w' := by
  have hcm0 : l.length ≤ maxLen := Nat.le_trans hi0.cap.1 hi0.cap.2
  have hcm3 : b.length ≤ maxLen := Nat.le_trans hi3.cap.1 hi3.cap.2
  unfold maxLen at hcm0 hcm3
  have HI0 := Lib.hid hi0
  have HI3 := Lib.hid hi3
  obtain ⟨n0, hn0⟩ : ∃ n, n = l.length := ⟨_, rfl⟩
  obtain ⟨n3, hn3⟩ : ∃ n, n = b.length := ⟨_, rfl⟩
  rw [← hn0] at hcm0 ⊢
  rw [← hn3] at hcm3 ⊢
  have HN0 := Lib.hid hn0
  have HN3 := Lib.hid hn3
  have HFN := Lib.hid hfn
  clear hi0 hi3 hn0 hn3 _hf hfn
  go_enter Try.func5, Try.ntmps5
  go_wp2_with fail
  refine (tawake_any _).mono ?_
  rintro e w1 ⟨rfl, hb1⟩
  have HB1 := Lib.hid hb1
  have HJ0 := Lib.hid (HI0.out.next hb1)
  have HJ3 := Lib.hid (HI3.out.next hb1)
  clear HI0 HI3 hb1
  by_cases h600 : 600 < n0
  · have d1 : decide ((600 : Int) < (n0 : Int)) = true := by simp; omega
    go_wp2_with fail
    go_ret
    exact ⟨rfl, HB1.out⟩
  have d1 : decide ((600 : Int) < (n0 : Int)) = false := by simp; omega
  by_cases h100 : 100 < n3
  · have d2 : decide ((100 : Int) < (n3 : Int)) = true := by simp; omega
    go_wp2_with fail
    go_ret
    exact ⟨rfl, HB1.out⟩
  have d2 : decide ((100 : Int) < (n3 : Int)) = false := by simp; omega
  have HBD := Lib.hid (build3 A0 c0 l kI w1 HJ0.out.bs HJ0.out.cap.1 HJ0.out.byt)
  rw [← HN0.out] at HBD
  go_wp2_with fail
  refine HBD.out.mono ?_
  rintro e w2 ⟨hb2, rfl | ⟨k, M, hs, rfl, rfl, hm⟩⟩
  · have HBF := Lib.hid (below_setRow (below_chain HB1.out (hb2.alloc hb2.size (.cells mc0 35))) (Nat.le_trans HB1.out.size hb2.size) mc0)
    have HMs : Hid ((Try.prog.info? 35).map (·.size) = some mc0.size) := Lib.hid size_mcv
    clear hb2 HBD
    dsimp only
    repeat (first
      | refine wpList_store_row (by rfl) 35 (.tmp 10) (.tmp 31) (by rfl) w2.heap.size mc0 (by rfl) (by rfl) 35 mc0 (by exact heap_alloc_new w2 _) HMs.out rfl (by exact mcv_all 0 0 none 0 0 (fun _ => 0)) ?_
      | go_values | go_skip | go_guarded | go_step | go_upon)
    go_wp2_with fail
    go_ret
    exact ⟨rfl, HBF.out⟩
  · have HM2 := Lib.hid hm
    have HMs := Lib.hid hm.size
    have HMz := Lib.hid hm.size0
    have HMa := Lib.hid hm.all
    have HB2 := Lib.hid hb2
    clear hm hb2 HBD
    dsimp only
    have hNN : ∃ (N : Nat) (V : Int), V = (N : Int) ∧ N ≤ n0 ∧ (nI < 0 → -(nI + 1).tmod ((n0 : Int) + 1) = V) ∧ (¬ nI < 0 → nI % ((n0 : Int) + 1) = V) := by
      by_cases hneg : nI < 0
      · obtain ⟨N, e, h⟩ := mod_neg hneg n0
        exact ⟨N, _, rfl, h, fun _ => e, fun h => absurd hneg h⟩
      · obtain ⟨N, e, h⟩ := mod_pos (show 0 ≤ nI by omega) n0
        exact ⟨N, _, rfl, h, fun h => absurd h hneg, fun _ => e⟩
    obtain ⟨N, V, hV, hN0, hVn, hVp⟩ := hNN
    subst hV
    have HVN := Lib.hid hVn
    have HVP := Lib.hid hVp
    clear hVn hVp
    by_cases hneg : nI < 0
    case' pos =>
      obtain ⟨hw1, hw2, hp1, hp2⟩ := neg_wrap HFN.out hneg
      have d3 : decide (nI < 0) = true := by simpa using hneg
      have HV := Lib.hid (HVN.out hneg)
      clear hp1 hp2 HVN HVP HFN
      repeat (first
        | refine wpList_store_row (by rfl) 35 (.tmp 10) (.tmp 31) (by rfl) w2.heap.size M (by rfl) (by rfl) 35 mc0 (by exact heap_alloc_new w2 _) HMs.out HMz.out HMa.out ?_
        | go_values | go_skip | go_guarded | go_step | go_upon)
      go_upto_region 10 with (fail)
      rw [HV.out]
      clear hneg d3 hw1 hw2 HV
    case' neg =>
      have d3 : decide (nI < 0) = false := by simpa using hneg
      have hge : 0 ≤ nI := by omega
      have HV := Lib.hid (HVP.out hneg)
      clear HVN HVP HFN
      repeat (first
        | refine wpList_store_row (by rfl) 35 (.tmp 10) (.tmp 31) (by rfl) w2.heap.size M (by rfl) (by rfl) 35 mc0 (by exact heap_alloc_new w2 _) HMs.out HMz.out HMa.out ?_
        | go_values | go_skip | go_guarded | go_step | go_upon)
      go_upto_region 10 with (fail)
      rw [HV.out]
      clear hneg d3 hge HV
    all_goals
      obtain ⟨W3, hW3⟩ : ∃ W, W = (w2.alloc (.cells mc0 35)).setRow w2.heap.size M := ⟨_, rfl⟩
      change Code.wp _ _ _ _ ((w2.alloc (.cells mc0 35)).setRow w2.heap.size M)
      rw [← hW3]
      obtain ⟨hrow3, hb23⟩ := mbox_made hW3
      obtain ⟨g, hg⟩ : ∃ g, g = w2.heap.size := ⟨_, rfl⟩
      rw [← hg] at hrow3 ⊢
      have hlt3 : g < W3.heap.size := (Array.getElem?_eq_some_iff.1 hrow3).1
      have HB3 := Lib.hid (below_chain HB2.out hb23)
      have HM3 := Lib.hid (HM2.out.next hb23)
      have HROW := Lib.hid (fun (W : World) (hb : Below W3.heap.size W3 W) => show W.heap[g]? = some (.cells M 35 (0, 0)) from (hb.block _ hlt3).trans hrow3)
      have HRNG := Lib.hid (fun (W : World) (hb : Below W3.heap.size W3 W) => box_range (HROW.out W hb))
      have HK0 := Lib.hid (fun (W : World) (hb : Below W3.heap.size W3 W) => (HJ0.out.next HB3.out).next hb)
      have HK3 := Lib.hid (fun (W : World) (hb : Below W3.heap.size W3 W) => (HJ3.out.next HB3.out).next hb)
      have HB03 := Lib.hid (below_chain HB1.out HB3.out)
      clear hW3 hrow3 hb23 hg hlt3 HM2 HB2
      obtain ⟨A9, hsl, hrd, -⟩ := slice_to Try.underlying31 size_5 A0 n0 c0 N (Nat.le_trans hN0 (by rw [HN0.out]; exact HJ0.out.cap.1))
      have hlN : (l.take N).length = N := by rw [List.length_take, ← HN0.out]; omega
      have HF1 := Lib.hid (fun (W : World) (hb : Below W3.heap.size W3 W) => find_ok (HM3.out.next hb) A9 c0 (l.take N) (by
        have h := (HK0.out W hb).bs
        unfold Bs at h ⊢
        rw [← HN0.out] at h
        rw [hlN]
        exact (hrd _ _ _ hN0 h).congr fun j hj => (bf_take l N j (by omega)).symm) (by rw [hlN]; exact Nat.le_trans hN0 (by rw [HN0.out]; exact HJ0.out.cap.1)) (HJ0.out.byt.take N))
      rw [hlN] at HF1
      obtain ⟨nh, hnh⟩ : ∃ n, n = hs.length := ⟨_, rfl⟩
      obtain ⟨L1, hL1⟩ : ∃ L, L = fndL (l.length : Int) (k : Int) hs (l.take N) hs.length := ⟨_, rfl⟩
      obtain ⟨L2, hL2⟩ : ∃ L, L = fndL (l.length : Int) (k : Int) hs (l ++ b) hs.length := ⟨_, rfl⟩
      rw [← hL1] at HF1
      have HLEN1 := Lib.hid (show L1.length = nh from by rw [hL1, fndL_len, hnh])
      have HLEN2 := Lib.hid (show L2.length = nh from by rw [hL2, fndL_len, hnh])
      have hchk := HM3.out.chk
      have hmk := HM3.out
      obtain ⟨-, -, -, -, hhs, -⟩ := hmk
      have HAT1 := Lib.hid (fun (j : Nat) (hj : j < nh) => show L1[j]?.getD false = decide (min ((j + 1) * k) l.length ≤ N) from by
        have h := fnd_at (b := l.take N) hchk hhs (i := j) (by rw [← hnh]; exact hj) (fun t ht _ => by rw [List.take_take]; rw [hlN] at ht; congr 1; omega)
        rw [hL1, h, hlN])
      have HAT2 := Lib.hid (fun (j : Nat) (hj : j < nh) => show L2[j]?.getD false = true from by
        have h := fnd_at (b := l ++ b) hchk hhs (i := j) (by rw [← hnh]; exact hj) (fun t _ ht => List.take_append_of_le_length ht)
        rw [hL2, h]
        exact decide_eq_true (by rw [List.length_append]; omega))
      have hcf := chk_facts hchk
      rw [← hnh] at hchk hcf
      have HCK := Lib.hid hchk
      have hnh1 : 1 ≤ nh := hcf.2.2.2.2.1
      have hnh64 : nh ≤ 64 := hcf.2.2.2.2.2.1
      have HNH := Lib.hid hnh
      have HLL2 := Lib.hid hL2
      clear hnh hL1 hL2 hhs hchk hcf
      have HCH := Lib.hid (Below.refl W3.heap.size W3)
      have HSZ := Lib.hid (Nat.le_refl W3.heap.size)
      have HRD := Lib.hid hrd
      have HLN := Lib.hid hlN
      clear hrd hlN
      refine wp_region_held_drew (S := fun w' => Hid (Below W3.heap.size W3 w')) (by kernel_rfl) (Lib.hid (Below.refl _ _).drew) (fun hHeld => ?_)
      refine wpAnyH_take (i := 0) (oi := { dst := some 46, op := Op.load 35 (Operand.tmp 10), type := 35, pos := "law.go:123", after := #[], guard := none }) (v := .agg M) rfl (by kernel_rfl) (by kernel_rfl) (by kernel_rfl) (fun _ _ _ h => h) (by exact yieldsIf_load_mid (by rfl) 35 (.tmp 10) (by rfl) g 0 (by rfl) M.toList _ (fun w' hw' => HRNG.out w' (HCH.out.trans (hw'.out.mono HSZ.out))) Try.underlying35 (by rfl) (by rw [Array.length_toList]; exact HMs.out)) (by assumption) ?_
      simp only [Act.put, List.setIfInBounds_toArray, List.set_cons_zero, List.set_cons_succ]
      refine wpAnyH_take (i := 1) (oi := { dst := some 47, op := Op.move (Operand.tmp 0), type := 31, pos := "law.go:123", after := #[], guard := none }) (v := ?_) rfl (by kernel_rfl) (by kernel_rfl) (by kernel_rfl) (fun _ _ _ h => h) (Or.inl ⟨by rfl, ?_⟩) (by assumption) ?_
      rotate_left 1
      · intro ws hSw; (try dsimp only at hSw); go_simp; all_goals with_reducible rfl
      simp only [Act.put, List.setIfInBounds_toArray, List.set_cons_zero, List.set_cons_succ]
      refine wpAnyH_take (i := 2) (oi := { dst := some 48, op := Op.move (Operand.tmp 2), type := 3, pos := "law.go:123", after := #[], guard := none }) (v := ?_) rfl (by kernel_rfl) (by kernel_rfl) (by kernel_rfl) (fun _ _ _ h => h) (Or.inl ⟨by rfl, ?_⟩) (by assumption) ?_
      rotate_left 1
      · intro ws hSw; (try dsimp only at hSw); go_simp; all_goals with_reducible rfl
      simp only [Act.put, List.setIfInBounds_toArray, List.set_cons_zero, List.set_cons_succ]
      refine wpAnyH_take (i := 3) (oi := { dst := some 49, op := Op.slice 31 (Operand.tmp 47) none (some (Operand.tmp 48)) none, type := 31, pos := "law.go:123", after := #[{ on := 1, ground := Ground.data }, { on := 2, ground := Ground.data }], guard := none }) (v := .slice A9 N c0) rfl (by kernel_rfl) (by kernel_rfl) (by kernel_rfl) (fun _ _ _ h => h) (by exact yieldsIf_slice1 (by rfl) 31 (.tmp 47) (.tmp 48) (by rfl) under_slice _ _ _ (by rfl) (by rfl) hsl) (by assumption) ?_
      simp only [Act.put, List.setIfInBounds_toArray, List.set_cons_zero, List.set_cons_succ]
      clear hHeld
      obtain ⟨Xa, hWa⟩ : ∃ W, W = W3.drew := ⟨_, rfl⟩
      have HBx := Lib.hid (show _ from show Below W3.heap.size W3 Xa from by rw [hWa]; exact (Below.refl _ _).drew)
      rw [← hWa]
      clear hWa
      refine wpAnyH_ready (rs := [4]) (by kernel_rfl) (by simp) ?_
      refine AllReadyH.cons (o := { dst := some 50, op := Op.call { callee := Callee.value (Operand.func 24), args := #[Operand.tmp 46, Operand.tmp 49], argTypes := #[35, 31] }, type := 22, pos := "law.go:123", after := #[{ on := 0, ground := Ground.data }, { on := 3, ground := Ground.data }], guard := none }) rfl (fun K hK => ?_) AllReadyH.nil
      go_simp
      (with_reducible refine (HF1.out Xa HBx.out).mono ?_)
      rintro e X1 ⟨v1, rfl, hol, hb⟩
      obtain ⟨A1, c1, rfl, hbo1, -, -, -⟩ := hol.rd
      rw [HLEN1.out]
      refine hK.out _ _ ?_ (fun hHeld => ?_)
      · exact Lib.hid (below_chain HBx.out hb)
      clear hHeld hK K
      try simp only [Act.put, List.setIfInBounds_toArray, List.set_cons_zero, List.set_cons_succ]
      replace HBx := Lib.hid (below_chain HBx.out hb)
      have HO1 := Lib.hid hbo1
      clear hbo1 hol
      clear hb
      have hHeld : (fun w' => Hid (Below W3.heap.size W3 w')) X1 := Lib.hid HBx.out
      refine wpAnyH_take (i := 5) (oi := { dst := some 12, op := Op.assign (Operand.tmp 50), type := 22, pos := "law.go:123", after := #[{ on := 4, ground := Ground.data }, { on := 4, ground := Ground.chain }, { on := 0, ground := Ground.phase }, { on := 1, ground := Ground.phase }, { on := 2, ground := Ground.phase }, { on := 3, ground := Ground.phase }, { on := 4, ground := Ground.phase }], guard := none }) (v := ?_) rfl (by kernel_rfl) (by kernel_rfl) (by kernel_rfl) (fun _ _ _ h => h) (Or.inl ⟨by rfl, ?_⟩) (by assumption) ?_
      rotate_left 1
      · intro ws hSw; (try dsimp only at hSw); go_simp; all_goals with_reducible rfl
      simp only [Act.put, List.setIfInBounds_toArray, List.set_cons_zero, List.set_cons_succ]
      clear hHeld
      refine wpAnyH_done (by kernel_rfl) ?_ _
      clear hsl
      have HBX := HBx
      have HO1X := HO1
      clear HBx HO1 HCH HSZ HF1
      have HBYT := Lib.hid (show Byt (l ++ b) from HJ0.out.byt.app HJ3.out.byt)
      obtain ⟨q5, hq5⟩ : ∃ q, q = (l ++ b).length := ⟨_, rfl⟩
      have HL1 := Lib.hid (fun (W : World) (hb : Below X1.heap.size X1 W) (A5 : Option Addr) (c5 : Nat) (hs5 : Bs W W.heap.size A5 (l ++ b)) (hc5 : q5 ≤ c5) => show Calls Try.prog 24 #[.agg M, .slice A5 q5 c5] W (OlEnd W.heap.size L2 W) from by
        rw [HLL2.out]
        rw [hq5] at hc5 ⊢
        exact find_ok (HM3.out.next (below_chain HBX.out hb)) A5 c5 (l ++ b) hs5 hc5 HBYT.out)
      have HQ5 := Lib.hid hq5
      clear hq5
      go_upto_region 11 with (fail)
      refine wp_region_held_drew (S := fun w' => Hid (Below X1.heap.size X1 w')) (by kernel_rfl) (Lib.hid (Below.refl _ _).drew) (fun hHeld => ?_)
      refine wpAnyH_take (i := 0) (oi := { dst := some 51, op := Op.load 35 (Operand.tmp 10), type := 35, pos := "law.go:124", after := #[], guard := none }) (v := .agg M) rfl (by kernel_rfl) (by kernel_rfl) (by kernel_rfl) (fun _ _ _ h => h) (by exact yieldsIf_load_mid (by rfl) 35 (.tmp 10) (by rfl) g 0 (by rfl) M.toList _ (fun w' hw' => HRNG.out w' (HBX.out.trans (hw'.out.mono HBX.out.size))) Try.underlying35 (by rfl) (by rw [Array.length_toList]; exact HMs.out)) (by assumption) ?_
      simp only [Act.put, List.setIfInBounds_toArray, List.set_cons_zero, List.set_cons_succ]
      refine wpAnyH_take (i := 2) (oi := { dst := some 53, op := Op.move (Operand.tmp 0), type := 31, pos := "law.go:124", after := #[], guard := none }) (v := ?_) rfl (by kernel_rfl) (by kernel_rfl) (by kernel_rfl) (fun _ _ _ h => h) (Or.inl ⟨by rfl, ?_⟩) (by assumption) ?_
      rotate_left 1
      · intro ws hSw; (try dsimp only at hSw); go_simp; all_goals with_reducible rfl
      simp only [Act.put, List.setIfInBounds_toArray, List.set_cons_zero, List.set_cons_succ]
      refine wpAnyH_take (i := 4) (oi := { dst := some 55, op := Op.move (Operand.tmp 3), type := 31, pos := "law.go:124", after := #[], guard := none }) (v := ?_) rfl (by kernel_rfl) (by kernel_rfl) (by kernel_rfl) (fun _ _ _ h => h) (Or.inl ⟨by rfl, ?_⟩) (by assumption) ?_
      rotate_left 1
      · intro ws hSw; (try dsimp only at hSw); go_simp; all_goals with_reducible rfl
      simp only [Act.put, List.setIfInBounds_toArray, List.set_cons_zero, List.set_cons_succ]
      clear hHeld
      obtain ⟨Ya, hWa⟩ : ∃ W, W = X1.drew := ⟨_, rfl⟩
      have HBx := Lib.hid (show _ from show Below X1.heap.size X1 Ya from by rw [hWa]; exact (Below.refl _ _).drew)
      have HO1 := Lib.hid (show _ from show Bo Ya Ya.heap.size A1 L1 from by rw [hWa]; exact HO1X.out)
      rw [← hWa]
      clear hWa
      refine wpAnyH_ready (rs := [1]) (by kernel_rfl) (by simp) ?_
      refine AllReadyH.cons (o := { dst := some 52, op := Op.buildSlice 31 0 #[], type := 31, pos := "law.go:124", after := #[], guard := none }) rfl (fun K hK => ?_) AllReadyH.nil
      go_simp
      have hal : Below Ya.heap.size Ya (Ya.alloc (.cells #[] 5)) := (Below.refl _ _).alloc (Nat.le_refl _) _
      refine hK.out _ _ ?_ (fun hHeld => ?_)
      · exact Lib.hid (below_chain HBx.out hal)
      clear hHeld hK K
      try simp only [Act.put, List.setIfInBounds_toArray, List.set_cons_zero, List.set_cons_succ]
      obtain ⟨Y1, hW⟩ : ∃ W', W' = Ya.alloc (.cells #[] 5) := ⟨_, rfl⟩
      change wpAnyH _ _ _ _ _ _ _ _ (Ya.alloc (.cells #[] 5))
      rw [← hW]
      have hb : Below Ya.heap.size Ya Y1 := by rw [hW]; exact hal
      clear hal
      have HE1 := Lib.hid (show Ob Y1 X1.heap.size (.slice (some ⟨Ya.heap.size, 0, none⟩) 0 0) [] from by rw [hW]; exact Ob.empty _ HBx.out.size)
      replace HBx := Lib.hid (below_chain HBx.out hb)
      replace HO1 := Lib.hid (Bo.next HO1.out hb)
      obtain ⟨ge, hge⟩ : ∃ g, g = Ya.heap.size := ⟨_, rfl⟩
      rw [← hge] at HE1 ⊢
      clear hW hb hge
      refine wpAnyH_ready (rs := [3]) (by kernel_rfl) (by simp) ?_
      refine AllReadyH.cons (o := { dst := some 54, op := Op.call { callee := Callee.builtin Builtin.append, args := #[Operand.tmp 52, Operand.tmp 53], argTypes := #[31, 31] }, type := 31, pos := "law.go:124", after := #[{ on := 1, ground := Ground.data }, { on := 2, ground := Ground.data }], guard := none }) rfl (fun K hK => ?_) AllReadyH.nil
      refine step_ob (by rfl) (.tmp 52) (.tmp 53) (by rfl) (by rfl) HE1.out A0 n0 c0 HN0.out (by rfl) (by rfl) (HK0.out Y1 (below_chain HBX.out HBx.out)).bs (fun e => (HJ0.out.none_ e).2) (by rw [← HN0.out]; simp; omega) HBx.out.size ?_
      intro v3 Y2 hw3 hg3 hb3
      rw [List.nil_append] at hw3
      refine hK.out _ _ ?_ (fun hHeld => ?_)
      · exact Lib.hid (HBx.out.trans hb3)
      clear hHeld hK K
      try simp only [Act.put, List.setIfInBounds_toArray, List.set_cons_zero, List.set_cons_succ]
      replace HBx := Lib.hid (HBx.out.trans hb3)
      replace HO1 := Lib.hid (show Bo Y2 Y2.heap.size A1 L1 from HO1X.out.next HBx.out)
      have HE3 := Lib.hid hw3
      clear hw3 hg3 hb3 HE1
      refine wpAnyH_ready (rs := [5]) (by kernel_rfl) (by simp) ?_
      refine AllReadyH.cons (o := { dst := some 56, op := Op.call { callee := Callee.builtin Builtin.append, args := #[Operand.tmp 54, Operand.tmp 55], argTypes := #[31, 31] }, type := 31, pos := "law.go:124", after := #[{ on := 3, ground := Ground.data }, { on := 4, ground := Ground.data }, { on := 3, ground := Ground.chain }], guard := none }) rfl (fun K hK => ?_) AllReadyH.nil
      refine step_ob (by rfl) (.tmp 54) (.tmp 55) (by rfl) (by rfl) HE3.out A3 n3 c3 HN3.out (by rfl) (by rfl) (HK3.out Y2 (below_chain HBX.out HBx.out)).bs (fun e => (HJ3.out.none_ e).2) (by rw [← HN0.out, ← HN3.out]; omega) HBx.out.size ?_
      intro v5 Y3 hw5 hg5 hb5
      obtain ⟨A5, c5, rfl, hbs5, hc5, -, -⟩ := hw5.rd
      rw [← HQ5.out] at hc5 ⊢
      refine hK.out _ _ ?_ (fun hHeld => ?_)
      · exact Lib.hid (HBx.out.trans hb5)
      clear hHeld hK K
      try simp only [Act.put, List.setIfInBounds_toArray, List.set_cons_zero, List.set_cons_succ]
      replace HBx := Lib.hid (HBx.out.trans hb5)
      have HO1' := Lib.hid (show Bo Y3 Y3.heap.size A1 L1 from HO1X.out.next HBx.out)
      have HBS := Lib.hid hbs5
      have HC5 := Lib.hid hc5
      clear hw5 hg5 hb5 HE3 hbs5 hc5 HO1
      refine wpAnyH_ready (rs := [6]) (by kernel_rfl) (by simp) ?_
      refine AllReadyH.cons (o := { dst := some 57, op := Op.call { callee := Callee.value (Operand.func 24), args := #[Operand.tmp 51, Operand.tmp 56], argTypes := #[35, 31] }, type := 22, pos := "law.go:124", after := #[{ on := 0, ground := Ground.data }, { on := 5, ground := Ground.data }, { on := 5, ground := Ground.chain }], guard := none }) rfl (fun K hK => ?_) AllReadyH.nil
      go_simp
      (with_reducible refine (HL1.out Y3 HBx.out A5 c5 HBS.out HC5.out).mono ?_)
      rintro e Y4 ⟨v2, rfl, hol, hb⟩
      obtain ⟨A2, c2, rfl, hbo2, -, -, -⟩ := hol.rd
      rw [HLEN2.out]
      refine hK.out _ _ ?_ (fun hHeld => ?_)
      · exact Lib.hid (below_chain HBx.out hb)
      clear hHeld hK K
      try simp only [Act.put, List.setIfInBounds_toArray, List.set_cons_zero, List.set_cons_succ]
      replace HBx := Lib.hid (below_chain HBx.out hb)
      replace HO1' := Lib.hid (Bo.next HO1'.out hb)
      replace HBS := Lib.hid (Bs.next HBS.out hb)
      have HO2 := Lib.hid hbo2
      clear hbo2 hol
      clear hb
      have hHeld : (fun w' => Hid (Below X1.heap.size X1 w')) Y4 := Lib.hid HBx.out
      refine wpAnyH_take (i := 7) (oi := { dst := some 13, op := Op.assign (Operand.tmp 57), type := 22, pos := "law.go:124", after := #[{ on := 6, ground := Ground.data }, { on := 6, ground := Ground.chain }, { on := 0, ground := Ground.phase }, { on := 1, ground := Ground.phase }, { on := 2, ground := Ground.phase }, { on := 3, ground := Ground.phase }, { on := 4, ground := Ground.phase }, { on := 5, ground := Ground.phase }, { on := 6, ground := Ground.phase }], guard := none }) (v := ?_) rfl (by kernel_rfl) (by kernel_rfl) (by kernel_rfl) (fun _ _ _ h => h) (Or.inl ⟨by rfl, ?_⟩) (by assumption) ?_
      rotate_left 1
      · intro ws hSw; (try dsimp only at hSw); go_simp; all_goals with_reducible rfl
      simp only [Act.put, List.setIfInBounds_toArray, List.set_cons_zero, List.set_cons_succ]
      clear hHeld
      refine wpAnyH_done (by kernel_rfl) ?_ _
      skip
      have HB4 := HBx
      have HB04 := Lib.hid (below_chain HB03.out (below_chain HBX.out HB4.out))
      have HMX := Lib.hid (HM3.out.next (below_chain HBX.out HB4.out))
      have HB34 := Lib.hid (below_chain HBX.out HB4.out)
      obtain ⟨AM, cM, hcM⟩ := Mok.cell2 HMX.out (HROW.out Y4 HB34.out)
      rw [← HNH.out] at hcM
      obtain ⟨b1, o1, rfl, hlt1, hc1⟩ := HO1'.out (by rw [HLEN1.out]; omega)
      obtain ⟨b2, o2, rfl, hlt2, hc2⟩ := HO2.out (by rw [HLEN2.out]; omega)
      have HMI := Lib.hid (fun (W : World) (hb : Below Y4.heap.size Y4 W) => missing_any L2 _ c2 W (HO2.out.next hb) (by rw [HLEN2.out]; omega))
      have HDN := Lib.hid (fun (W : World) (hb : Below Y4.heap.size Y4 W) => done_any L2 _ c2 W (HO2.out.next hb) (by rw [HLEN2.out]; omega))
      have hm0 : missB L2 = 0 := miss_none (fun i hi => HAT2.out i (by rw [HLEN2.out] at hi; exact hi))
      have hdn : doneB L2 = true := by unfold doneB; rw [hm0, HLEN2.out, decide_eq_true (show 0 < nh by omega)]; rfl
      rw [hm0, HLEN2.out] at HMI
      rw [hdn, HLEN2.out] at HDN
      have HC1 := Lib.hid (fun (W : World) (hb : Below Y4.heap.size Y4 W) (j : Nat) (hj : j < nh) => show W.cell? ⟨b1, o1 + j, none⟩ = some (.bool (decide (min ((j + 1) * k) l.length ≤ N))) from by
        rw [hb.cell (p := ⟨b1, o1 + j, none⟩) hlt1, hc1 j (by rw [HLEN1.out]; omega)]
        unfold bb
        rw [HAT1.out j hj])
      have HC2 := Lib.hid (fun (W : World) (hb : Below Y4.heap.size Y4 W) (j : Nat) (hj : j < nh) => show W.cell? ⟨b2, o2 + j, none⟩ = some (.bool true) from by
        rw [hb.cell (p := ⟨b2, o2 + j, none⟩) hlt2, hc2 j (by rw [HLEN2.out]; omega)]
        unfold bb
        rw [HAT2.out j hj])
      have HPT := Lib.hid (fun (W : World) (hb : Below Y4.heap.size Y4 W) (j : Nat) (hj : j < nh) => show Calls Try.prog 25 #[.agg M, .int .i64 (j : Int)] W fun e w' => e = .returned (.tuple #[.int .i64 ((j * k : Nat) : Int), .int .i64 ((min ((j + 1) * k) l.length : Nat) : Int)]) ∧ Below W.heap.size W w' from by
        have h := part_ok (HMX.out.next hb) (j : Int)
        obtain ⟨hp, -⟩ := part_lt HCK.out hj
        rw [← HNH.out, from_nat hp, to_nat hp] at h
        exact h)
      have HRQ := Lib.hid (fun (W : World) (hb : Below Y4.heap.size Y4 W) => HROW.out W (below_chain HB34.out hb))
      clear hlt1 hlt2 hc1 hc2 hm0 hdn HO1' HO2 HBx HBS HC5 HL1 HAT1 HAT2 HBX HO1X
      go_wp2_with fail
      go_loopw [14] (fun i wr => ∃ j : Nat, i = .int .i64 (j : Int) ∧ j ≤ nh ∧ Below Y4.heap.size Y4 wr) (fun i _ => (nh - intOf i).toNat)
      case atStart => exact ⟨0, rfl, Nat.zero_le _, Below.refl _ _⟩
      case round =>
        obtain ⟨j, rfl, hj, hbw⟩ := hrel
        have HBW := Lib.hid hbw
        clear hbw
        by_cases hlt : j < nh
        · have hjI : (j : Int) < (nh : Int) := by omega
          have HRW := Lib.hid (HRQ.out wr HBW.out)
          have HP := Lib.hid (HPT.out wr HBW.out j hlt)
          have HD1 := Lib.hid (fun (W : World) (hb : Below Y4.heap.size Y4 W) => HC1.out W hb j hlt)
          have HD2 := Lib.hid (fun (W : World) (hb : Below Y4.heap.size Y4 W) => HC2.out W hb j hlt)
          obtain ⟨F, hF⟩ : ∃ F, F = j * k := ⟨_, rfl⟩
          obtain ⟨T, hT⟩ : ∃ T, T = min ((j + 1) * k) l.length := ⟨_, rfl⟩
          rw [← hF, ← hT] at HP
          rw [← hT] at HD1
          obtain ⟨y, hy⟩ : ∃ y, y = decide (T ≤ N) := ⟨_, rfl⟩
          rw [← hy] at HD1
          have e1 : decide (T ≤ N) = y := hy.symm
          have e2 : decide ((T : Int) ≤ (N : Int)) = y := by rw [hy]; simp
          have e3 : (y != y) = false := by simp
          clear hF hT hy
          go_upto_region 17 with (fail)
          refine wp_region_list ?_
          repeat (first
            | refine wpList_load_row (by rfl) 35 (.tmp 10) (by rfl) g (by rfl) 35 M (0, 0) _ HRW.out Try.underlying35 (by rfl) HMs.out ?_
            | go_values | go_skip | go_guarded | go_step | go_upon)
          refine HP.out.mono ?_
          rintro e w9 ⟨rfl, hb9⟩
          have HB9 := Lib.hid (below_chain HBW.out hb9)
          have ck1 := HD1.out w9 HB9.out
          have ck2 := HD2.out w9 HB9.out
          clear hb9 HP HRW
          go_wp2_with fail
          go_roundw
          case rel => exact ⟨j + 1, by first | rfl | go_num, by omega, HB9.out⟩
          case measure => simp [intOf]; omega
        · obtain rfl : j = nh := by omega
          have HDQ := Lib.hid (HDN.out wr HBW.out)
          have HMQ := Lib.hid (HMI.out wr HBW.out)
          go_wp2_with fail
          refine HDQ.out.mono ?_
          rintro e w' ⟨rfl, hw⟩
          have hw2 := hw.symm
          clear hw
          subst hw2
          go_wp2_with fail
          refine HMQ.out.mono ?_
          rintro e w' ⟨rfl, hw⟩
          have hw2 := hw.symm
          clear hw
          subst hw2
          go_wp2_with fail
          go_ret
          exact ⟨rfl, below_chain HB04.out HBW.out⟩

set_option maxRecDepth 100000 in
theorem transferFinds_lifted (os : Os) (started : os.Started) (H : Type) (enc : TypeId × Value → H) :
    ReturnsInHanded {} Try.checked os 5 .any (Rows.transferFindsSpec.pre6 enc Try.prog Try.f5 Rows.transferFindsRow.domain false) (Rows.transferFindsSpec.post enc Try.prog Try.f5 false true false false) := by
  refine returnsInHanded_of_change (C := Try.checked) own started (by kernel_rfl) Try.func5
    (ChangeSpec.witness6 (enc := enc) (C := Try.checked) false ⟨#[], #[.slice none 0 0, .int .i64 0, .int .i64 0, .slice none 0 0], []⟩ 8 (by kernel_rfl) (by kernel_rfl) (by kernel_rfl) (by kernel_rfl)) ?_
  intro W base args ds gs before hval0 hW _ _
  have hval : ∀ (j : Nat) t v, Try.f5.params[j]? = some t → args[j]? = some v → Value.okWide Try.prog W .any base t v := hval0
  have hW' := hW
  obtain ⟨p, q, hA0, hV, rfl, _, _⟩ := hW
  have hA : DataW.TrodAll enc Try.prog W 0 (fun _ => true) true Try.f5.params.toList args.toList ds p := hA0
  rw [Try.params5] at hA hval
  obtain ⟨v0, vs0, d0, ds0, p0, q0, hargs, rfl, rfl, h0, r0⟩ := trodAll_cons hA
  obtain ⟨v1, vs1, d1, ds1, p1, q1, rfl, rfl, rfl, h1, r1⟩ := trodAll_cons r0
  obtain ⟨v2, vs2, d2, ds2, p2, q2, rfl, rfl, rfl, h2, r2⟩ := trodAll_cons r1
  obtain ⟨v3, vs3, d3, ds3, p3, q3, rfl, rfl, rfl, h3, r3⟩ := trodAll_cons r2
  obtain ⟨rfl, rfl, rfl⟩ := trodAll_nil r3
  obtain rfl : args = #[v0, v1, v2, v3] := by cases args; simp_all
  obtain ⟨rfl, rfl⟩ := trodVars_none hV
  have k0 := h0
  have lt0 : ∀ x ∈ p0, x.block < W.heap.size := by obtain ⟨m, hm⟩ := k0; exact DataW.trod_lt m _ _ _ hm
  obtain ⟨A0, c0, l0, rfl, b0⟩ := open_B (hval 0 31 v0 rfl rfl) h0
  have k1 := h1
  have lt1 : ∀ x ∈ p1, x.block < W.heap.size := by obtain ⟨m, hm⟩ := k1; exact DataW.trod_lt m _ _ _ hm
  obtain ⟨n1, rfl, f1⟩ := open_i64 Try.underlying3 (hval 1 3 v1 rfl rfl) h1
  have k2 := h2
  have lt2 : ∀ x ∈ p2, x.block < W.heap.size := by obtain ⟨m, hm⟩ := k2; exact DataW.trod_lt m _ _ _ hm
  obtain ⟨n2, rfl, f2⟩ := open_i64 Try.underlying3 (hval 2 3 v2 rfl rfl) h2
  have k3 := h3
  have lt3 : ∀ x ∈ p3, x.block < W.heap.size := by obtain ⟨m, hm⟩ := k3; exact DataW.trod_lt m _ _ _ hm
  obtain ⟨A3, c3, l3, rfl, b3⟩ := open_B (hval 3 31 v3 rfl rfl) h3
  clear hA0 hval0 hval
  refine (transferFinds_walk W A0 c0 l0 b0 n1 f1 n2 f2 A3 c3 l3 b3).mono fun e W' ⟨he, bel⟩ => ?_
  subst he
  exact ⟨_, rfl, _, _, _, [], _, [], hW', trodAll_mk1 (shut_bool Try.underlying4 _), (trodAll_cons_mk (Below.trod laidOut (by kernel_rfl) (of_decide_eq_true (by kernel_rfl)) k0 bel lt0) (trodAll_cons_mk (Below.trod laidOut (by kernel_rfl) (of_decide_eq_true (by kernel_rfl)) k1 bel lt1) (trodAll_cons_mk (Below.trod laidOut (by kernel_rfl) (of_decide_eq_true (by kernel_rfl)) k2 bel lt2) (trodAll_cons_mk (Below.trod laidOut (by kernel_rfl) (of_decide_eq_true (by kernel_rfl)) k3 bel lt3) trodAll_mk0)))), rfl, bel.frame _, fun h => by cases h⟩

theorem transferFinds_holds : Rows.TransferFindsSaid :=
  OpenClaim.holds_of_wide 5 Try.f5 rfl rfl rfl rfl rfl rfl rfl ⟨rfl, rfl, rfl, rfl, rfl⟩ rfl rfl rfl rfl rfl (by kernel_rfl) Try.func5 (by kernel_rfl)
    (of_decide_eq_true (by kernel_rfl)) (by unfold Func.isWrapper; first | (rw [if_pos (by decide +kernel)]; kernel_rfl) | (rw [if_neg (by decide +kernel)]; exact ⟨rfl, rfl⟩))
    (fun os started H enc _ => transferFinds_lifted os started H enc)
#print axioms transferFinds_holds
end Go.Proofs.Ytmpbimechgelfaa

/- TransferGrows holds: a chunk that is taken is there and no other one changes, and one that is refused changes nothing. Conditions: none. -/
import Derived.Test.YtmpbimechgelfaaTAwake
import Derived.Test.YtmpbimechgelfaaTOpen
import Derived.Test.YtmpbimechgelfaaTOk
namespace Go.Proofs.Ytmpbimechgelfaa
open Go.ChangeShapes Go.WideShapes Go.ChangeAt Go.RowKit Go.Joins Go.Deep

theorem tkE_zero {v : Int} {s : Bool} (h : tkE v s = 0) : v = 0 ∧ s = true := by
  unfold tkE at h
  by_cases hv : v = 0
  · rw [decide_eq_true hv] at h
    cases s with
    | true => exact ⟨hv, rfl⟩
    | false => exact absurd (show (1 : Int) = 0 from h) (by decide)
  · rw [decide_eq_false hv] at h
    exact absurd h hv
theorem tkL_no {v : Int} {s : Bool} (h : tkE v s ≠ 0) (hv : List Bool) (i : Nat) : tkL v s hv i = hv := by
  unfold tkL
  by_cases e : v = 0
  · rw [decide_eq_true e]
    cases s with
    | true => exact absurd (by unfold tkE; rw [decide_eq_true e]) h
    | false => rfl
  · rw [decide_eq_false e]; rfl
set_option maxRecDepth 100000 in
set_option maxHeartbeats 8000000 in
theorem transferGrows_walk (w : World) (A0 : Option Addr) (c0 : Nat) (l : List Nat) (hi0 : InB w A0 c0 l) (kI : Int) (_hf : Fit kI) (A2 : Option Addr) (c2 : Nat) (hv : List Bool) (hi2 : InO w A2 c2 hv) (iI : Int) (_hfi : Fit iI) (A4 : Option Addr) (c4 : Nat) (b : List Nat) (hi4 : InB w A4 c4 b) :
    Calls Try.prog 4 #[.slice A0 l.length c0, .int .i64 kI, .slice A2 hv.length c2, .int .i64 iI, .slice A4 b.length c4] w fun e w' => e = .returned (.bool true) ∧ Below w.heap.size w w' := by
  have hcm0 : l.length ≤ maxLen := Nat.le_trans hi0.cap.1 hi0.cap.2
  have hcm2 : hv.length ≤ maxLen := Nat.le_trans hi2.cap.1 hi2.cap.2
  have hcm4 : b.length ≤ maxLen := Nat.le_trans hi4.cap.1 hi4.cap.2
  unfold maxLen at hcm0 hcm2 hcm4
  have HI0 := Lib.hid hi0
  have HI2 := Lib.hid hi2
  have HI4 := Lib.hid hi4
  obtain ⟨n0, hn0⟩ : ∃ n, n = l.length := ⟨_, rfl⟩
  obtain ⟨n2, hn2⟩ : ∃ n, n = hv.length := ⟨_, rfl⟩
  obtain ⟨n4, hn4⟩ : ∃ n, n = b.length := ⟨_, rfl⟩
  rw [← hn0] at hcm0 ⊢
  rw [← hn2] at hcm2 ⊢
  rw [← hn4] at hcm4 ⊢
  have HN0 := Lib.hid hn0
  have HN2 := Lib.hid hn2
  have HN4 := Lib.hid hn4
  clear hi0 hi2 hi4 hn0 hn2 hn4 _hf _hfi
  go_enter Try.func4, Try.ntmps4
  go_wp2_with fail
  refine (tawake_any _).mono ?_
  rintro e w1 ⟨rfl, hb1⟩
  have HB1 := Lib.hid hb1
  have HJ0 := Lib.hid (HI0.out.next hb1)
  have HJ2 := Lib.hid (HI2.out.next hb1)
  have HJ4 := Lib.hid (HI4.out.next hb1)
  clear HI0 HI2 HI4 hb1
  by_cases h600 : 600 < n0
  · have d1 : decide ((600 : Int) < (n0 : Int)) = true := by simp; omega
    go_wp2_with fail
    go_ret
    exact ⟨rfl, HB1.out⟩
  have d1 : decide ((600 : Int) < (n0 : Int)) = false := by simp; omega
  by_cases h100 : 100 < n2
  · have d2 : decide ((100 : Int) < (n2 : Int)) = true := by simp; omega
    go_wp2_with fail
    go_ret
    exact ⟨rfl, HB1.out⟩
  have d2 : decide ((100 : Int) < (n2 : Int)) = false := by simp; omega
  by_cases h2000 : 2000 < n4
  · have d3 : decide ((2000 : Int) < (n4 : Int)) = true := by simp; omega
    go_wp2_with fail
    go_ret
    exact ⟨rfl, HB1.out⟩
  have d3 : decide ((2000 : Int) < (n4 : Int)) = false := by simp; omega
  have HBD := Lib.hid (build3 A0 c0 l kI w1 HJ0.out.bs HJ0.out.cap.1 HJ0.out.byt)
  rw [← HN0.out] at HBD
  go_wp2_with fail
  refine HBD.out.mono ?_
  rintro e w2 ⟨hb2, rfl | ⟨k, M, hs, rfl, rfl, hm⟩⟩
  · have HBF := Lib.hid (below_setRow (below_chain HB1.out (hb2.alloc hb2.size (.cells mc0 35))) (Nat.le_trans HB1.out.size hb2.size) mc0)
    have HMs : Hid ((Try.prog.info? 35).map (·.size) = some mc0.size) := Lib.hid size_mcv
    clear hb2 HBD
    dsimp only
    repeat (first
      | refine wpList_store_row (by rfl) 35 (.tmp 12) (.tmp 36) (by rfl) w2.heap.size mc0 (by rfl) (by rfl) 35 mc0 (by exact heap_alloc_new w2 _) HMs.out rfl (by exact mcv_all 0 0 none 0 0 (fun _ => 0)) ?_
      | go_values | go_skip | go_guarded | go_step | go_upon)
    go_wp2_with fail
    go_ret
    exact ⟨rfl, HBF.out⟩
  · have HM2 := Lib.hid hm
    have HMs := Lib.hid hm.size
    have HMz := Lib.hid hm.size0
    have HMa := Lib.hid hm.all
    have HB2 := Lib.hid hb2
    clear hm hb2 HBD
    dsimp only
    repeat (first
      | refine wpList_store_row (by rfl) 35 (.tmp 12) (.tmp 36) (by rfl) w2.heap.size M (by rfl) (by rfl) 35 mc0 (by exact heap_alloc_new w2 _) HMs.out HMz.out HMa.out ?_
      | refine wpList_load_row (by rfl) 35 (.tmp 12) (by rfl) w2.heap.size (by rfl) 35 M (0, 0) _ (by exact (mbox_made rfl).1) Try.underlying35 (by rfl) HMs.out ?_
      | go_values | go_skip | go_guarded | go_step | go_upon)
    obtain ⟨W3, hW3⟩ : ∃ W, W = (w2.alloc (.cells mc0 35)).setRow w2.heap.size M := ⟨_, rfl⟩
    change Calls _ _ _ ((w2.alloc (.cells mc0 35)).setRow w2.heap.size M) _
    rw [← hW3]
    obtain ⟨hrow3, hb23⟩ := mbox_made hW3
    obtain ⟨g, hg⟩ : ∃ g, g = w2.heap.size := ⟨_, rfl⟩
    rw [← hg] at hrow3 ⊢
    have hlt3 : g < W3.heap.size := (Array.getElem?_eq_some_iff.1 hrow3).1
    have HB3 := Lib.hid (below_chain HB2.out hb23)
    have HM3 := Lib.hid (HM2.out.next hb23)
    have HROW := Lib.hid (fun (W : World) (hb : Below W3.heap.size W3 W) => show W.heap[g]? = some (.cells M 35 (0, 0)) from (hb.block _ hlt3).trans hrow3)
    have HR3 := Lib.hid hrow3
    clear hW3 hrow3 hb23 hg hlt3 HM2 HB2
    obtain ⟨z, hz⟩ : ∃ z, z = verI (l.length : Int) (k : Int) hs iI b := ⟨_, rfl⟩
    have HIN := Lib.hid (fun h : z = 0 => in_part (verI_in (hz ▸ h)))
    have HTK := Lib.hid (take_ok HM3.out A2 c2 hv iI A4 c4 b ((HJ2.out.next HB3.out).bo) (fun e => (HJ2.out.none_ e).1) (by rw [← HN2.out]; omega) ((HJ4.out.next HB3.out).bs) HJ4.out.byt)
    have HVF := Lib.hid (fun (W : World) (hb : Below W3.heap.size W3 W) => verify_ok (HM3.out.next hb) iI A4 c4 b ((HJ4.out.next HB3.out).next hb).bs HJ4.out.byt)
    rw [← hz] at HTK HVF
    rw [← HN2.out, ← HN4.out] at HTK
    rw [← HN4.out] at HVF
    clear hz
    obtain ⟨nh, hnh⟩ : ∃ n, n = hs.length := ⟨_, rfl⟩
    rw [← hnh] at HIN HTK
    have HNH := Lib.hid hnh
    clear hnh
    obtain ⟨E, hE⟩ : ∃ E, E = tkE z (decide (n2 = nh)) := ⟨_, rfl⟩
    obtain ⟨L, hL⟩ : ∃ L, L = tkL z (decide (n2 = nh)) hv iI.toNat := ⟨_, rfl⟩
    rw [← hE, ← hL] at HTK
    have HE := Lib.hid hE
    have HL := Lib.hid hL
    clear hE hL
    have HB03 := Lib.hid (below_chain HB1.out HB3.out)
    refine HTK.out.mono ?_
    rintro e w4 ⟨v, rfl, hol, hb4⟩
    have HB4 := Lib.hid hb4
    have HB04 := Lib.hid (below_chain HB03.out hb4)
    obtain ⟨A5, c5, rfl, hbo5, -, -, -⟩ := hol.rd
    have HBO5 := Lib.hid hbo5
    have HJ24 := Lib.hid (((HJ2.out.next HB3.out).next hb4).bo)
    clear hb4 hol hbo5 HTK HR3
    by_cases hE0 : E = 0
    · obtain ⟨hz0, hsm⟩ := tkE_zero (HE.out ▸ hE0)
      have hnn : n2 = nh := of_decide_eq_true hsm
      obtain ⟨p, hp, hpn, -⟩ := HIN.out hz0
      subst hnn hz0 hp
      have HL2 := Lib.hid (show L = hv.set p true from by rw [HL.out, hsm]; unfold tkL; simp)
      have hll : L.length = n2 := by rw [HL2.out, List.length_set, ← HN2.out]
      rw [hll]
      have hE0' := hE0.symm
      clear hE0
      subst hE0'
      obtain ⟨AM, cM, hcM⟩ := Mok.cell2 (HM3.out.next HB4.out) (HROW.out w4 HB4.out)
      rw [← HNH.out] at hcM
      obtain ⟨b5, o5, rfl, hlt5, hc5⟩ := HBO5.out (by rw [hll]; omega)
      obtain ⟨b2, o2, rfl, hlt2, hc2⟩ := HJ24.out (by rw [← HN2.out]; omega)
      have HC5 := Lib.hid (fun (j : Nat) (hj : j < n2) => show w4.cell? ⟨b5, o5 + j, none⟩ = some (.bool (L[j]?.getD false)) from hc5 j (by rw [hll]; omega))
      have HC2 := Lib.hid (fun (j : Nat) (hj : j < n2) => show w4.cell? ⟨b2, o2 + j, none⟩ = some (.bool (hv[j]?.getD false)) from hc2 j (by rw [← HN2.out]; omega))
      have HLJ := Lib.hid (fun (j : Nat) (hj : j ≠ p) => show L[j]?.getD false = hv[j]?.getD false from by
        rw [HL2.out, List.getElem?_set, if_neg (fun e => hj e.symm)])
      have ckp : w4.cell? ⟨b5, o5 + p, none⟩ = some (.bool true) := by
        rw [HC5.out p hpn, HL2.out, List.getElem?_set, if_pos rfl, if_pos (by rw [← HN2.out]; exact hpn)]
        rfl
      have hpI : (p : Int) < (n2 : Int) := by omega
      have hp0 : decide ((p : Int) < 0) = false := decide_eq_false (by omega)
      have hp1 : decide ((n2 : Int) ≤ (p : Int)) = false := decide_eq_false (by omega)
      have hp2 : decide (n2 ≤ p) = false := decide_eq_false (by omega)
      clear hc5 hc2 hll hlt5 hlt2 HBO5 HJ24 hsm
      go_wp2_with fail
      go_loopw [16] (fun i wr => ∃ j q : Nat, i = .int .i64 (j : Int) ∧ j ≤ n2 ∧ wr = w4.drewN q) (fun i _ => (n2 - intOf i).toNat)
      case atStart => exact ⟨0, 0, rfl, Nat.zero_le _, rfl⟩
      case round =>
        obtain ⟨j, q, rfl, hj, rfl⟩ := hrel
        by_cases hlt : j < n2
        · have hjI : (j : Int) < (n2 : Int) := by omega
          by_cases hjp : j = p
          · have e1 : ((j : Int) != (p : Int)) = false := by rw [hjp]; simp
            have e2 : (j != p) = false := by rw [hjp]; simp
            clear hjp
            go_wp2_with fail
            go_quiet (fail)
            go_wp2_with fail
            go_roundw
            case rel => exact ⟨j + 1, _, by first | rfl | go_num, by omega, rfl⟩
            case measure => simp [intOf]; omega
          · have e1 : ((j : Int) != (p : Int)) = true := by simp; omega
            have e2 : (j != p) = true := by simpa using hjp
            obtain ⟨y, hy⟩ : ∃ y, y = hv[j]?.getD false := ⟨_, rfl⟩
            have ck1 : w4.cell? ⟨b5, o5 + j, none⟩ = some (.bool y) := by rw [HC5.out j hlt, HLJ.out j hjp, hy]
            have ck2 : w4.cell? ⟨b2, o2 + j, none⟩ = some (.bool y) := by rw [HC2.out j hlt, hy]
            have e3 : (y != y) = false := by simp
            clear hjp hy
            go_wp2_with fail
            go_quiet (fail)
            go_wp2_with fail
            go_roundw
            case rel => exact ⟨j + 1, _, by first | rfl | go_num, by omega, rfl⟩
            case measure => simp [intOf]; omega
        · obtain rfl : j = n2 := by omega
          have HBQ := Lib.hid (show Below W3.heap.size W3 (w4.drewN q) from below_drewN HB4.out q)
          have HRQ := Lib.hid (HROW.out _ HBQ.out)
          have HVQ := Lib.hid (HVF.out _ HBQ.out)
          go_upto_region 17 with (fail)
          refine wp_region_list ?_
          repeat (first
            | refine wpl_load_row_g (by rfl) 35 (.tmp 12) (by rfl) g (by rfl) 35 M (0, 0) _ HRQ.out Try.underlying35 (by rfl) HMs.out ?_
            | go_values | go_skip | go_guarded | go_step | go_upon)
          refine HVQ.out.mono ?_
          rintro e w5 ⟨rfl, hb5⟩
          have HB5 := Lib.hid (below_chain HB03.out (below_chain HBQ.out hb5))
          clear hb5
          go_wp2_with fail
          go_ret
          exact ⟨rfl, HB5.out⟩
    · have HLV := Lib.hid (show L = hv from by rw [HL.out]; exact tkL_no (by rw [← HE.out]; exact hE0) _ _)
      have d4 : (E != 0) = true := by simpa using hE0
      have hLe := HLV.out
      subst hLe
      have HS := Lib.hid (same_any L L A5 A2 c5 c2 w4 HBO5.out HJ24.out (by rw [← HN2.out]; omega) (by rw [← HN2.out]; omega))
      rw [decide_eq_true rfl, ← HN2.out] at HS
      rw [← HN2.out]
      clear hE0
      go_wp2_with fail
      refine HS.out.mono ?_
      rintro e w5 ⟨rfl, hb5⟩
      have HB5 := Lib.hid (below_chain HB04.out hb5)
      clear hb5
      go_wp2_with fail
      go_ret
      exact ⟨rfl, HB5.out⟩

set_option maxRecDepth 100000 in
theorem transferGrows_lifted (os : Os) (started : os.Started) (H : Type) (enc : TypeId × Value → H) :
    ReturnsInHanded {} Try.checked os 4 .any (Rows.transferGrowsSpec.pre6 enc Try.prog Try.f4 Rows.transferGrowsRow.domain false) (Rows.transferGrowsSpec.post enc Try.prog Try.f4 false true false false) := by
  refine returnsInHanded_of_change (C := Try.checked) own started (by kernel_rfl) Try.func4
    (ChangeSpec.witness6 (enc := enc) (C := Try.checked) false ⟨#[], #[.slice none 0 0, .int .i64 0, .slice none 0 0, .int .i64 0, .slice none 0 0], []⟩ 8 (by kernel_rfl) (by kernel_rfl) (by kernel_rfl) (by kernel_rfl)) ?_
  intro W base args ds gs before hval0 hW _ _
  have hval : ∀ (j : Nat) t v, Try.f4.params[j]? = some t → args[j]? = some v → Value.okWide Try.prog W .any base t v := hval0
  have hW' := hW
  obtain ⟨p, q, hA0, hV, rfl, _, _⟩ := hW
  have hA : DataW.TrodAll enc Try.prog W 0 (fun _ => true) true Try.f4.params.toList args.toList ds p := hA0
  rw [Try.params4] at hA hval
  obtain ⟨v0, vs0, d0, ds0, p0, q0, hargs, rfl, rfl, h0, r0⟩ := trodAll_cons hA
  obtain ⟨v1, vs1, d1, ds1, p1, q1, rfl, rfl, rfl, h1, r1⟩ := trodAll_cons r0
  obtain ⟨v2, vs2, d2, ds2, p2, q2, rfl, rfl, rfl, h2, r2⟩ := trodAll_cons r1
  obtain ⟨v3, vs3, d3, ds3, p3, q3, rfl, rfl, rfl, h3, r3⟩ := trodAll_cons r2
  obtain ⟨v4, vs4, d4, ds4, p4, q4, rfl, rfl, rfl, h4, r4⟩ := trodAll_cons r3
  obtain ⟨rfl, rfl, rfl⟩ := trodAll_nil r4
  obtain rfl : args = #[v0, v1, v2, v3, v4] := by cases args; simp_all
  obtain ⟨rfl, rfl⟩ := trodVars_none hV
  have k0 := h0
  have lt0 : ∀ x ∈ p0, x.block < W.heap.size := by obtain ⟨m, hm⟩ := k0; exact DataW.trod_lt m _ _ _ hm
  obtain ⟨A0, c0, l0, rfl, b0⟩ := open_B (hval 0 31 v0 rfl rfl) h0
  have k1 := h1
  have lt1 : ∀ x ∈ p1, x.block < W.heap.size := by obtain ⟨m, hm⟩ := k1; exact DataW.trod_lt m _ _ _ hm
  obtain ⟨n1, rfl, f1⟩ := open_i64 Try.underlying3 (hval 1 3 v1 rfl rfl) h1
  have k2 := h2
  have lt2 : ∀ x ∈ p2, x.block < W.heap.size := by obtain ⟨m, hm⟩ := k2; exact DataW.trod_lt m _ _ _ hm
  obtain ⟨A2, c2, l2, rfl, b2⟩ := open_O (hval 2 22 v2 rfl rfl) h2
  have k3 := h3
  have lt3 : ∀ x ∈ p3, x.block < W.heap.size := by obtain ⟨m, hm⟩ := k3; exact DataW.trod_lt m _ _ _ hm
  obtain ⟨n3, rfl, f3⟩ := open_i64 Try.underlying3 (hval 3 3 v3 rfl rfl) h3
  have k4 := h4
  have lt4 : ∀ x ∈ p4, x.block < W.heap.size := by obtain ⟨m, hm⟩ := k4; exact DataW.trod_lt m _ _ _ hm
  obtain ⟨A4, c4, l4, rfl, b4⟩ := open_B (hval 4 31 v4 rfl rfl) h4
  clear hA0 hval0 hval
  refine (transferGrows_walk W A0 c0 l0 b0 n1 f1 A2 c2 l2 b2 n3 f3 A4 c4 l4 b4).mono fun e W' ⟨he, bel⟩ => ?_
  subst he
  exact ⟨_, rfl, _, _, _, [], _, [], hW', trodAll_mk1 (shut_bool Try.underlying4 _), (trodAll_cons_mk (Below.trod laidOut (by kernel_rfl) (of_decide_eq_true (by kernel_rfl)) k0 bel lt0) (trodAll_cons_mk (Below.trod laidOut (by kernel_rfl) (of_decide_eq_true (by kernel_rfl)) k1 bel lt1) (trodAll_cons_mk (Below.trod laidOut (by kernel_rfl) (of_decide_eq_true (by kernel_rfl)) k2 bel lt2) (trodAll_cons_mk (Below.trod laidOut (by kernel_rfl) (of_decide_eq_true (by kernel_rfl)) k3 bel lt3) (trodAll_cons_mk (Below.trod laidOut (by kernel_rfl) (of_decide_eq_true (by kernel_rfl)) k4 bel lt4) trodAll_mk0))))), rfl, bel.frame _, fun h => by cases h⟩

theorem transferGrows_holds : Rows.TransferGrowsSaid :=
  OpenClaim.holds_of_wide 4 Try.f4 rfl rfl rfl rfl rfl rfl rfl ⟨rfl, rfl, rfl, rfl, rfl⟩ rfl rfl rfl rfl rfl (by kernel_rfl) Try.func4 (by kernel_rfl)
    (of_decide_eq_true (by kernel_rfl)) (by unfold Func.isWrapper; first | (rw [if_pos (by decide +kernel)]; kernel_rfl) | (rw [if_neg (by decide +kernel)]; exact ⟨rfl, rfl⟩))
    (fun os started H enc _ => transferGrows_lifted os started H enc)
#print axioms transferGrows_holds
end Go.Proofs.Ytmpbimechgelfaa

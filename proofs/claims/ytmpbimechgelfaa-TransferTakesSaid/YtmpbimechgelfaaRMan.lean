/- The document's manifests: chunks, Check, Part, digest. -/
import Derived.Test.YtmpbimechgelfaaVer
import Derived.Test.YtmpbimechgelfaaRSum
namespace Go.Proofs.Ytmpbimechgelfaa
open Go Go.RowKit

theorem ceil_lt {S K j : Nat} (hS : 1 ≤ S) (hK : 1 ≤ K) : j * K < S ↔ j < (S + K - 1) / K := by
  rw [← Nat.add_one_le_iff (n := j), Nat.le_div_iff_mul_le (by omega), Nat.add_mul, Nat.one_mul]
  omega
theorem rchunks_any (s k : Int) (w : World) : Calls Try.prog 68 #[.int .i64 s, .int .i64 k] w fun e w' => e = .returned (.int .i64 (chN s k : Int)) ∧ w' = w := by
  obtain ⟨v, hv⟩ : ∃ v, v = chN s k := ⟨_, rfl⟩
  rw [← hv]
  by_cases h1 : s < 1
  · have H := Lib.hid (show v = 0 from by rw [hv]; unfold chN; rw [if_pos (Or.inl h1)])
    have d1 : decide (s < 1) = true := by simpa using h1
    clear hv
    go_enter Try.func68, Try.ntmps68
    go_wp2_with fail
    go_ret
    exact ⟨by rw [H.out]; rfl, rfl⟩
  by_cases h2 : 65536 < s
  · have H := Lib.hid (show v = 0 from by rw [hv]; unfold chN; rw [if_pos (Or.inr (Or.inl h2))])
    have d1 : decide (s < 1) = false := by simpa using h1
    have d2 : decide (65536 < s) = true := by simpa using h2
    clear hv
    go_enter Try.func68, Try.ntmps68
    go_wp2_with fail
    go_ret
    exact ⟨by rw [H.out]; rfl, rfl⟩
  by_cases h3 : k < 1
  · have H := Lib.hid (show v = 0 from by rw [hv]; unfold chN; rw [if_pos (Or.inr (Or.inr (Or.inl h3)))])
    have d1 : decide (s < 1) = false := by simpa using h1
    have d2 : decide (65536 < s) = false := by simpa using h2
    have d3 : decide (k < 1) = true := by simpa using h3
    clear hv
    go_enter Try.func68, Try.ntmps68
    go_wp2_with fail
    go_ret
    exact ⟨by rw [H.out]; rfl, rfl⟩
  by_cases h4 : 4096 < k
  · have H := Lib.hid (show v = 0 from by rw [hv]; unfold chN; rw [if_pos (Or.inr (Or.inr (Or.inr h4)))])
    have d1 : decide (s < 1) = false := by simpa using h1
    have d2 : decide (65536 < s) = false := by simpa using h2
    have d3 : decide (k < 1) = false := by simpa using h3
    have d4 : decide (4096 < k) = true := by simpa using h4
    clear hv
    go_enter Try.func68, Try.ntmps68
    go_wp2_with fail
    go_ret
    exact ⟨by rw [H.out]; rfl, rfl⟩
  have d1 : decide (s < 1) = false := by simpa using h1
  have d2 : decide (65536 < s) = false := by simpa using h2
  have d3 : decide (k < 1) = false := by simpa using h3
  have d4 : decide (4096 < k) = false := by simpa using h4
  have b1 : 1 ≤ s := by omega
  have b2 : s ≤ 65536 := by omega
  have b3 : 1 ≤ k := by omega
  have b4 : k ≤ 4096 := by omega
  obtain ⟨S, rfl⟩ : ∃ S : Nat, s = (S : Int) := ⟨s.toNat, by omega⟩
  obtain ⟨K, rfl⟩ : ∃ K : Nat, k = (K : Int) := ⟨k.toNat, by omega⟩
  obtain ⟨Q, hQ⟩ : ∃ Q, Q = (S + K - 1) / K := ⟨_, rfl⟩
  have hQI : ((S : Int) + (K : Int) - 1) / (K : Int) = (Q : Int) := by
    rw [hQ, show (S : Int) + (K : Int) - 1 = ((S + K - 1 : Nat) : Int) from by omega]; exact (Int.natCast_ediv _ _).symm
  have hv2 : v = if 64 < Q then 0 else Q := by
    rw [hv]; unfold chN
    rw [if_neg (by omega), hQI]
    by_cases h : 64 < Q
    · rw [if_pos (by omega), if_pos h]
    · rw [if_neg (by omega), if_neg h]; rfl
  have HV2 := Lib.hid hv2
  have HCL := Lib.hid (fun j : Nat => show j * K < S ↔ j < Q from by rw [hQ]; exact ceil_lt (by omega) (by omega))
  have hQ64 : Q ≤ 65536 := by
    have h1 := (HCL.out 65536).2
    have h2 : S ≤ 65536 * K := by have : 65536 * 1 ≤ 65536 * K := Nat.mul_le_mul_left _ (by omega); omega
    refine Nat.le_of_not_lt fun h => ?_
    have := h1 h
    omega
  clear hv hv2 hQ hQI
  go_enter Try.func68, Try.ntmps68
  go_wp2_with fail
  go_loop [5] (fun x => ∃ j : Nat, x = .int .i64 (j : Int) ∧ j ≤ Q) (fun x => (Q - intOf x).toNat)
  case atStart => exact ⟨0, rfl, Nat.zero_le _⟩
  case round =>
    obtain ⟨j, rfl, hj⟩ := hrel
    have hjk : 0 ≤ (j : Int) * (K : Int) ∧ (j : Int) * (K : Int) ≤ 268435456 := by
      have h1 : j * K ≤ 65536 * 4096 := Nat.mul_le_mul (by omega) (by omega)
      have h2 : (j : Int) * (K : Int) = ((j * K : Nat) : Int) := by push_cast; rfl
      rw [h2]; omega
    obtain ⟨hjk1, hjk2⟩ := hjk
    by_cases hlt : j < Q
    · have hl2 : (j : Int) * (K : Int) < (S : Int) := by
        have := (HCL.out j).2 hlt
        have h2 : (j : Int) * (K : Int) = ((j * K : Nat) : Int) := by push_cast; rfl
        rw [h2]; omega
      have e1 : decide ((j : Int) * (K : Int) < (S : Int)) = true := decide_eq_true hl2
      go_wp2_with fail
      go_round
      case rel => exact ⟨j + 1, by first | rfl | go_num, by omega⟩
      case measure => simp [intOf]; omega
    · obtain rfl : j = Q := by omega
      have hl2 : ¬ (j : Int) * (K : Int) < (S : Int) := by
        have h2 : (j : Int) * (K : Int) = ((j * K : Nat) : Int) := by push_cast; rfl
        rw [h2]
        intro h
        exact hlt ((HCL.out j).1 (by omega))
      have e1 : decide ((j : Int) * (K : Int) < (S : Int)) = false := decide_eq_false hl2
      by_cases h5 : 64 < j
      · have H := Lib.hid (show v = 0 from by rw [HV2.out, if_pos h5])
        have d5 : decide ((64 : Int) < (j : Int)) = true := decide_eq_true (by omega)
        go_wp2_with fail
        go_ret
        exact ⟨by rw [H.out]; rfl, rfl⟩
      · have H := Lib.hid (show v = j from by rw [HV2.out, if_neg h5])
        have d5 : decide ((64 : Int) < (j : Int)) = false := decide_eq_false (by omega)
        go_wp2_with fail
        go_ret
        exact ⟨by rw [H.out]; rfl, rfl⟩
theorem rcheck_any (s k : Int) (A : Option Addr) (n c : Nat) (f : Nat → Nat) (w : World) :
    Calls Try.prog 56 #[.agg (mcv s k (.slice A n c) f)] w fun e w' => e = .returned (.int .i64 (eno (chkB s k n) 50)) ∧ Below w.heap.size w w' := by
  obtain ⟨z, hz⟩ : ∃ z, z = eno (chkB s k n) 50 := ⟨_, rfl⟩
  obtain ⟨M, hM⟩ : ∃ M, M = mcv s k (.slice A n c) f := ⟨_, rfl⟩
  obtain ⟨q, hq⟩ : ∃ q, q = chN s k := ⟨_, rfl⟩
  have HC := Lib.hid (rchunks_any s k)
  have hq64 : q ≤ 64 := by rw [hq]; exact chN_le s k
  rw [← hq] at HC
  have HZ := Lib.hid (show z = eno (decide (q ≠ 0) && decide (n = q)) 50 from by rw [hz, chkB, hq])
  rw [← hz, ← hM]
  have HM := Lib.hid hM
  have HNW : Hid (∀ w : World, MB (w.alloc (.cells M 35)) w.heap.size s k (.slice A n c) f) := Lib.hid fun w : World => by rw [hM]; exact heap_alloc_new w _
  clear hz hM hq
  go_enter Try.func56, Try.ntmps56
  go_upto_region 1 with (fail)
  obtain ⟨W0, hW0⟩ : ∃ W0, W0 = w.alloc (.cells M 35) := ⟨_, rfl⟩
  change Code.wp _ _ _ _ (w.alloc (.cells M 35))
  rw [← hW0]
  have HB0 := Lib.hid (show Below w.heap.size w W0 from by rw [hW0]; exact (by repeat (first | exact Below.refl _ _ | assumption | refine below_drewN ?_ _ | refine Below.drew ?_ | refine Below.alloc ?_ (by simp; try omega) _ | refine Below.setCell ?_ (by simp; try omega) _)))
  have HMB := Lib.hid (show MB W0 w.heap.size s k (.slice A n c) f from by rw [hW0]; exact HNW.out w)
  obtain ⟨g, hg⟩ : ∃ g, g = w.heap.size := ⟨_, rfl⟩
  rw [← hg] at HMB ⊢
  have HG := Lib.hid hg
  clear hg hW0 HNW
  have c0 := HMB.out.c0
  have c1 := HMB.out.c1
  have c2 := HMB.out.c2
  go_wp2_with fail
  refine (HC.out W0).mono ?_
  rintro e w' ⟨rfl, hw⟩
  have hw2 := hw.symm
  clear hw
  subst hw2
  by_cases hq0 : q = 0
  · have HE := Lib.hid (show z = 50 from by rw [HZ.out, hq0]; rfl)
    have d1 : ((q : Int) == 0) = true := by rw [hq0]; rfl
    clear hq0
    go_wp2_with fail
    go_ret
    exact ⟨by rw [HE.out]; rfl, HB0.out⟩
  · have d1 : ((q : Int) == 0) = false := by simp; omega
    by_cases hn : n = q
    · have HE := Lib.hid (show z = 0 from by rw [HZ.out, hn]; simp [hq0, eno])
      have d2 : ((n : Int) != (q : Int)) = false := by rw [hn]; simp
      clear hn hq0
      go_wp2_with fail
      go_ret
      exact ⟨by rw [HE.out]; rfl, HB0.out⟩
    · have HE := Lib.hid (show z = 50 from by rw [HZ.out]; simp [hn, eno])
      have d2 : ((n : Int) != (q : Int)) = true := by simp; omega
      have d3 : (n != q) = true := by simp; omega
      clear hn hq0
      go_wp2_with fail
      go_ret
      exact ⟨by rw [HE.out]; rfl, HB0.out⟩
set_option maxHeartbeats 4000000 in
theorem rpart_any (s k : Int) (A : Option Addr) (n c : Nat) (f : Nat → Nat) (i : Int) (w : World) :
    Calls Try.prog 57 #[.agg (mcv s k (.slice A n c) f), .int .i64 i] w fun e w' => e = .returned (.tuple #[.int .i64 (fromI s k n i), .int .i64 (toI s k n i)]) ∧ Below w.heap.size w w' := by
  obtain ⟨M, hM⟩ : ∃ M, M = mcv s k (.slice A n c) f := ⟨_, rfl⟩
  obtain ⟨x, hx⟩ : ∃ x, x = fromI s k n i := ⟨_, rfl⟩
  obtain ⟨y, hy⟩ : ∃ y, y = toI s k n i := ⟨_, rfl⟩
  obtain ⟨b, hb⟩ : ∃ b, b = chkB s k n := ⟨_, rfl⟩
  have HCK := Lib.hid (fun w => rcheck_any s k A n c f w)
  rw [← hM, ← hb] at HCK
  rw [← hM, ← hx, ← hy]
  have HX := Lib.hid hx
  have HY := Lib.hid hy
  have HM := Lib.hid hM
  have HBB := Lib.hid hb
  have HMs : Hid ((Try.prog.info? 35).map (·.size) = some M.size) := Lib.hid (by rw [hM]; exact size_mcv)
  obtain ⟨W0, hW0⟩ : ∃ W0, W0 = w.alloc (.cells M 35) := ⟨_, rfl⟩
  have HB0 := Lib.hid (show Below w.heap.size w W0 from by rw [hW0]; exact (by repeat (first | exact Below.refl _ _ | assumption | refine below_drewN ?_ _ | refine Below.drew ?_ | refine Below.alloc ?_ (by simp; try omega) _ | refine Below.setCell ?_ (by simp; try omega) _)))
  have HMB := Lib.hid (show MB W0 w.heap.size s k (.slice A n c) f from by rw [hW0, hM]; exact heap_alloc_new w _)
  have HROW := Lib.hid (show W0.heap[w.heap.size]? = some (.cells M 35 (0, 0)) from by rw [hW0]; exact heap_alloc_new w _)
  have HW0 := Lib.hid hW0
  obtain ⟨g, hg⟩ : ∃ g, g = w.heap.size := ⟨_, rfl⟩
  rw [← hg] at HMB HROW
  have HG := Lib.hid hg
  have hg0 : g < W0.heap.size := HMB.out.lt
  clear hM hx hy hb hW0 hg
  go_enter Try.func57, Try.ntmps57
  go_upto_region 1 with (fail)
  change Code.wp _ _ _ _ (w.alloc (.cells M 35))
  rw [← HW0.out, ← HG.out]
  refine wp_region_list ?_
  repeat (first
    | refine wpList_load_row (by rfl) 35 (.tmp 2) (by rfl) g (by rfl) 35 M (0, 0) _ HROW.out Try.underlying35 (by rfl) HMs.out ?_
    | go_values | go_skip | go_guarded | go_step | go_upon)
  refine (HCK.out W0).mono ?_
  rintro e w1 ⟨rfl, hb1⟩
  have HB1 := Lib.hid (below_chain HB0.out hb1)
  have HM1 := Lib.hid (HMB.out.next hb1)
  clear hb1 HB0 HMB HW0 HROW HCK
  have c0 := HM1.out.c0
  have c1 := HM1.out.c1
  have c2 := HM1.out.c2
  by_cases hin : partB s k n i = true
  · obtain ⟨hck, hi0, hin'⟩ := part_facts hin
    obtain ⟨hs1, hs2, hk1, hk2, hn1, hn2, hn3⟩ := chk_facts hck
    obtain ⟨hm1, hm2⟩ := mul_bd hi0 (by omega) hk1 hk2
    obtain ⟨hm3, hm4⟩ := mul_bd (i := i + 1) (by omega) (by omega) hk1 hk2
    have HE1 := Lib.hid (show x = i * k from by rw [HX.out]; unfold fromI; rw [hin])
    have HE2 := Lib.hid (show y = min ((i + 1) * k) s from by rw [HY.out]; unfold toI; rw [hin])
    have hbt : b = true := by rw [HBB.out]; exact hck
    have d1 : decide (i < 0) = false := by simp; omega
    have d2 : decide ((n : Int) ≤ i) = false := by simp; omega
    subst hbt
    clear hn3 hin hck HX HY HBB
    unfold eno
    by_cases hgt : s < (i + 1) * k
    · have HE3 := Lib.hid (show y = s from by rw [HE2.out]; omega)
      have d3 : decide (s < (i + 1) * k) = true := decide_eq_true hgt
      go_wp2_with fail
      go_ret2
      exact ⟨by rw [HE1.out, HE3.out]; rfl, HB1.out⟩
    · have HE3 := Lib.hid (show y = (i + 1) * k from by rw [HE2.out]; omega)
      have d3 : decide (s < (i + 1) * k) = false := decide_eq_false hgt
      go_wp2_with fail
      go_ret2
      exact ⟨by rw [HE1.out, HE3.out]; rfl, HB1.out⟩
  · have HE1 := Lib.hid (show x = 0 from by rw [HX.out]; unfold fromI; rw [Bool.eq_false_iff.2 hin])
    have HE2 := Lib.hid (show y = 0 from by rw [HY.out]; unfold toI; rw [Bool.eq_false_iff.2 hin])
    have hno : ¬ (chkB s k n = true ∧ 0 ≤ i ∧ i < (n : Int)) := fun ⟨h1, h2, h3⟩ => hin (by unfold partB; rw [h1, decide_eq_true h2, decide_eq_true h3]; rfl)
    rw [← HBB.out] at hno
    clear hin HX HY HBB
    cases b with
    | false =>
      clear hno
      unfold eno
      go_wp2_with fail
      go_ret2
      exact ⟨by rw [HE1.out, HE2.out]; rfl, HB1.out⟩
    | true =>
      unfold eno
      by_cases h1 : i < 0
      · have d1 : decide (i < 0) = true := by simpa using h1
        clear hno
        go_wp2_with fail
        go_ret2
        exact ⟨by rw [HE1.out, HE2.out]; rfl, HB1.out⟩
      · have d1 : decide (i < 0) = false := by simpa using h1
        have h2 : (n : Int) ≤ i := by
          by_cases h : (n : Int) ≤ i
          · exact h
          · exact absurd ⟨rfl, by omega, by omega⟩ hno
        have d2 : decide ((n : Int) ≤ i) = true := by simpa using h2
        clear hno
        go_wp2_with fail
        go_ret2
        exact ⟨by rw [HE1.out, HE2.out]; rfl, HB1.out⟩
set_option maxRecDepth 100000 in
set_option maxHeartbeats 4000000 in
theorem rdigest_any (i : Nat) (A : Option Addr) (c : Nat) (l : List Nat) (w : World) (h : Bs w w.heap.size A l) (hb : Byt l) (hi : i < 256) (hl : l.length ≤ 4500) (hnone : A = none → c = 0) :
    Calls Try.prog 67 #[.int .i64 (i : Int), .slice A l.length c] w fun e w' => e = .returned (.agg (hc (digH i l))) ∧ Below w.heap.size w w' := by
  obtain ⟨n, hn⟩ : ∃ n, n = l.length := ⟨_, rfl⟩
  rw [← hn]
  obtain ⟨C, hC⟩ : ∃ C, C = hc (digH i l) := ⟨_, rfl⟩
  rw [← hC]
  have HC := Lib.hid hC
  have HN := Lib.hid hn
  have HI := Lib.hid h
  have HBY := Lib.hid hb
  have HLN := Lib.hid hl
  have HNONE := Lib.hid hnone
  have hu1 : (0 : Int) ≤ (i : Int) := by omega
  have hu2 : (i : Int) < 256 := by omega
  have hu3 : (i : Int) ≤ 255 := by omega
  clear hC hn h hb hl hnone
  go_enter Try.func67, Try.ntmps67
  go_upto_region 1 with (fail)
  obtain ⟨W1, hW1⟩ : ∃ W, W = (w.alloc (.cells (hc fun _ => 0) 33)).alloc (.cells #[.int .u8 0, .int .u8 (i : Int)] 5) := ⟨_, rfl⟩
  have hs1 : W1.heap.size = w.heap.size + 1 + 1 := by rw [hW1]; simp
  have HB1 := Lib.hid (show Below w.heap.size w W1 from by rw [hW1]; exact (by repeat (first | exact Below.refl _ _ | assumption | refine below_drewN ?_ _ | refine Below.drew ?_ | refine Below.alloc ?_ (by simp; try omega) _ | refine Below.setCell ?_ (by simp; try omega) _)))
  have HO1 := Lib.hid (show W1.heap[w.heap.size]? = some (.cells (hc fun _ => 0) 33 (0, 0)) from by
    rw [hW1, Below.heap_alloc _ _ _ (by simp)]; exact heap_alloc_new w _)
  have HT := Lib.hid (show Ob W1 (w.heap.size + 1) (.slice (some ⟨w.heap.size + 1, 0, none⟩) 2 2) [0, i] from by
    have h := Ob.of2 (w.alloc (.cells (hc fun _ => 0) 33)) (base := w.heap.size + 1) (by simp) 0 i
    rw [hW1]
    have e : (w.alloc (.cells (hc fun _ => 0) 33)).heap.size = w.heap.size + 1 := by simp
    rw [e] at h
    exact h)
  have HS1 := Lib.hid hs1
  have HW1 := Lib.hid hW1
  clear hW1 hs1
  have HI2 := Lib.hid (show Byt ([0, i] ++ l) from Byt.app (by intro x hx; simp at hx; omega) HBY.out)
  refine wp_region_list ?_
  repeat (first
    | (refine wpl_ob (by rfl) (.tmp 7) (.tmp 8) (by rfl) (by rfl) (by have h := HT.out; rw [HW1.out] at h; exact h) A n c HN.out (by rfl) (by rfl) (by have h := HI.out.next HB1.out; rw [HW1.out] at h; exact h) HNONE.out (by have := HLN.out; simp; omega) (by simp) ?_
       intro v2 w2 ho2 hg2 hb2
       obtain ⟨A2, c2, rfl, hbs2, -, -, hn2⟩ := ho2.rd
       obtain ⟨n2, hn2'⟩ : ∃ n, n = ([0, i] ++ l).length := ⟨_, rfl⟩
       rw [← hn2']
       have HBS2 := Lib.hid hbs2
       have HN2 := Lib.hid hn2
       have HL2 := Lib.hid hn2'
       have HBW2 := Lib.hid (show Below (w.heap.size + 1) W1 w2 from by rw [HW1.out]; exact hb2)
       clear ho2 hg2 hb2 hbs2 hn2 hn2')
    | go_values | go_skip | go_guarded | go_step | go_upon)
  refine (rsum_any A2 n2 c2 ([0, i] ++ l) w2 HBS2.out HL2.out HI2.out (by have := HLN.out; simp; omega) HN2.out).mono ?_
  rintro e w3 ⟨rfl, hb3⟩
  rw [show hc (sumH ([0, i] ++ l)) = C from by rw [HC.out]; rfl]
  have HCs := Lib.hid (show (Try.prog.info? 33).map (·.size) = some C.size from by rw [HC.out]; exact size_hc)
  have HCa := Lib.hid (show C.all (·.oneCell') = true from by rw [HC.out]; exact hc_all _)
  have HCz := Lib.hid (show (hc fun _ => 0).size = C.size from by rw [HC.out, hc_size, hc_size])
  have HB3 := Lib.hid (show Below (w.heap.size + 1) W1 w3 from HBW2.out.trans (hb3.mono (by have := HBW2.out.size; rw [HS1.out] at this; omega)))
  have HO3 := Lib.hid (show w3.heap[w.heap.size]? = some (.cells (hc fun _ => 0) 33 (0, 0)) from by rw [HB3.out.block _ (by omega)]; exact HO1.out)
  clear hb3
  dsimp only
  repeat (first
    | refine wpList_store_row (by rfl) 33 (.tmp 4) (.tmp 10) (by rfl) w.heap.size C (by rfl) (by rfl) 33 (hc fun _ => 0) HO3.out HCs.out HCz.out HCa.out ?_
    | go_values | go_skip | go_guarded | go_step | go_upon)
  exact bodyPost_ret (v := .agg C) (results_cell_row (by rfl) _ _ w.heap.size 33 _ (0, 0) _ (by rfl) (setRow_heap _ _ _ _ _ _ HO3.out) Try.underlying33 (by rfl) HCs.out) rfl ⟨rfl, below_setRow (HB1.out.trans (HB3.out.mono (by omega))) (Nat.le_refl _) C⟩
end Go.Proofs.Ytmpbimechgelfaa

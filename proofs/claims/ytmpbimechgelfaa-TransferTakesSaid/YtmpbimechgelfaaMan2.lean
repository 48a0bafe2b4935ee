/- manifest.Part. -/
import Derived.Test.YtmpbimechgelfaaMan
import Derived.Deep.Cut
namespace Go.Proofs.Ytmpbimechgelfaa
open Go Go.RowKit

/-- Is there a chunk i? -/
def partB (s k : Int) (n : Nat) (i : Int) : Bool := chkB s k n && (decide (0 ≤ i) && decide (i < (n : Int)))
/-- Where the chunk i begins and ends. -/
def fromI (s k : Int) (n : Nat) (i : Int) : Int := match partB s k n i with | true => i * k | false => 0
def toI (s k : Int) (n : Nat) (i : Int) : Int := match partB s k n i with | true => min ((i + 1) * k) s | false => 0
theorem chk_facts {s k : Int} {n : Nat} (h : chkB s k n = true) : 1 ≤ s ∧ s ≤ 65536 ∧ 1 ≤ k ∧ k ≤ 4096 ∧ 1 ≤ n ∧ n ≤ 64 ∧ (n : Int) = (s + k - 1) / k := by
  unfold chkB at h
  rw [Bool.and_eq_true, decide_eq_true_iff, decide_eq_true_iff] at h
  obtain ⟨h1, h2⟩ := h
  have h3 := chN_le s k
  by_cases hc : s < 1 ∨ 65536 < s ∨ k < 1 ∨ 4096 < k
  · exact absurd (by unfold chN; rw [if_pos hc]) h1
  · by_cases h4 : 64 < (s + k - 1) / k
    · exact absurd (by unfold chN; rw [if_neg hc, if_pos h4]) h1
    · have e : chN s k = ((s + k - 1) / k).toNat := by unfold chN; rw [if_neg hc, if_neg h4]
      have := Int.ediv_nonneg (show 0 ≤ s + k - 1 by omega) (show 0 ≤ k by omega)
      refine ⟨by omega, by omega, by omega, by omega, by omega, by omega, by omega⟩
theorem part_facts {s k : Int} {n : Nat} {i : Int} (h : partB s k n i = true) : chkB s k n = true ∧ 0 ≤ i ∧ i < (n : Int) := by
  unfold partB at h
  rw [Bool.and_eq_true, Bool.and_eq_true, decide_eq_true_iff, decide_eq_true_iff] at h
  exact h
theorem mul_bd {i k : Int} (h1 : 0 ≤ i) (h2 : i ≤ 64) (h3 : 1 ≤ k) (h4 : k ≤ 4096) : 0 ≤ i * k ∧ i * k ≤ 262144 :=
  ⟨Int.mul_nonneg h1 (by omega), by have := Int.mul_le_mul h2 h4 (by omega) (by omega : (0 : Int) ≤ 64); omega⟩
set_option maxHeartbeats 4000000 in
theorem part_any (s k : Int) (A : Option Addr) (n c : Nat) (f : Nat → Nat) (i : Int) (w : World) :
    Calls Try.prog 25 #[.agg (mcv s k (.slice A n c) f), .int .i64 i] w fun e w' => e = .returned (.tuple #[.int .i64 (fromI s k n i), .int .i64 (toI s k n i)]) ∧ Below w.heap.size w w' := by
  obtain ⟨M, hM⟩ : ∃ M, M = mcv s k (.slice A n c) f := ⟨_, rfl⟩
  obtain ⟨x, hx⟩ : ∃ x, x = fromI s k n i := ⟨_, rfl⟩
  obtain ⟨y, hy⟩ : ∃ y, y = toI s k n i := ⟨_, rfl⟩
  obtain ⟨b, hb⟩ : ∃ b, b = chkB s k n := ⟨_, rfl⟩
  have HCK := Lib.hid (fun w => check_any s k A n c f w)
  rw [← hM, ← hb] at HCK
  rw [← hM, ← hx, ← hy]
  have HX := Lib.hid hx
  have HY := Lib.hid hy
  have HM := Lib.hid hM
  have HBB := Lib.hid hb
  have HMs : Hid ((Try.prog.info? 35).map (·.size) = some M.size) := Lib.hid (by rw [hM]; exact size_mcv)
  obtain ⟨W0, hW0⟩ : ∃ W0, W0 = w.alloc (.cells M 35) := ⟨_, rfl⟩
  have HB0 := Lib.hid (show Below w.heap.size w W0 from by rw [hW0]; exact (by repeat (first | exact Below.refl _ _ | assumption | refine below_drewN ?_ _ | refine Below.drew ?_ | refine Below.alloc ?_ (by simp; try omega) _ | refine Below.setCell ?_ (by simp; try omega) _)))
  have HMB := Lib.hid (show MB W0 w.heap.size s k (.slice A n c) f from by rw [hW0, hM]; exact heap_alloc_new w _)
  have HROW := Lib.hid (show W0.heap[w.heap.size]? = some (.cells M 35 (0, 0)) from by rw [hW0]; exact heap_alloc_new w _)
  have HW0 := Lib.hid hW0
  obtain ⟨g, hg⟩ : ∃ g, g = w.heap.size := ⟨_, rfl⟩
  rw [← hg] at HMB HROW
  have HG := Lib.hid hg
  have hg0 : g < W0.heap.size := HMB.out.lt
  clear hM hx hy hb hW0 hg
  go_enter Try.func25, Try.ntmps25
  go_upto_region 1 with (fail)
  change Code.wp _ _ _ _ (w.alloc (.cells M 35))
  rw [← HW0.out, ← HG.out]
  refine wp_region_list ?_
  repeat (first
    | refine wpList_load_row (by rfl) 35 (.tmp 2) (by rfl) g (by rfl) 35 M (0, 0) _ HROW.out Try.underlying35 (by rfl) HMs.out ?_
    | go_values | go_skip | go_guarded | go_step | go_upon)
  refine (HCK.out W0).mono ?_
  rintro e w1 ⟨rfl, hb1⟩
  have HB1 := Lib.hid (below_chain HB0.out hb1)
  have HM1 := Lib.hid (HMB.out.next hb1)
  clear hb1 HB0 HMB HW0 HROW HCK
  have c0 := HM1.out.c0
  have c1 := HM1.out.c1
  have c2 := HM1.out.c2
  by_cases hin : partB s k n i = true
  · obtain ⟨hck, hi0, hin'⟩ := part_facts hin
    obtain ⟨hs1, hs2, hk1, hk2, hn1, hn2, hn3⟩ := chk_facts hck
    obtain ⟨hm1, hm2⟩ := mul_bd hi0 (by omega) hk1 hk2
    obtain ⟨hm3, hm4⟩ := mul_bd (i := i + 1) (by omega) (by omega) hk1 hk2
    have HE1 := Lib.hid (show x = i * k from by rw [HX.out]; unfold fromI; rw [hin])
    have HE2 := Lib.hid (show y = min ((i + 1) * k) s from by rw [HY.out]; unfold toI; rw [hin])
    have hbt : b = true := by rw [HBB.out]; exact hck
    have d1 : decide (i < 0) = false := by simp; omega
    have d2 : decide ((n : Int) ≤ i) = false := by simp; omega
    subst hbt
    clear hn3 hin hck HX HY HBB
    unfold eno
    go_wp2_with fail
    go_region
    go_wp2_with fail
    go_ret2
    exact ⟨by rw [HE1.out, HE2.out]; rfl, HB1.out.drew⟩
  · have HE1 := Lib.hid (show x = 0 from by rw [HX.out]; unfold fromI; rw [Bool.eq_false_iff.2 hin])
    have HE2 := Lib.hid (show y = 0 from by rw [HY.out]; unfold toI; rw [Bool.eq_false_iff.2 hin])
    have hno : ¬ (chkB s k n = true ∧ 0 ≤ i ∧ i < (n : Int)) := fun ⟨h1, h2, h3⟩ => hin (by unfold partB; rw [h1, decide_eq_true h2, decide_eq_true h3]; rfl)
    rw [← HBB.out] at hno
    clear hin HX HY HBB
    cases b with
    | false =>
      clear hno
      unfold eno
      go_wp2_with fail
      go_ret2
      exact ⟨by rw [HE1.out, HE2.out]; rfl, HB1.out⟩
    | true =>
      unfold eno
      by_cases h1 : i < 0
      · have d1 : decide (i < 0) = true := by simpa using h1
        clear hno
        go_wp2_with fail
        go_ret2
        exact ⟨by rw [HE1.out, HE2.out]; rfl, HB1.out⟩
      · have d1 : decide (i < 0) = false := by simpa using h1
        have h2 : (n : Int) ≤ i := by
          by_cases h : (n : Int) ≤ i
          · exact h
          · exact absurd ⟨rfl, by omega, by omega⟩ hno
        have d2 : decide ((n : Int) ≤ i) = true := by simpa using h2
        clear hno
        go_wp2_with fail
        go_ret2
        exact ⟨by rw [HE1.out, HE2.out]; rfl, HB1.out⟩
end Go.Proofs.Ytmpbimechgelfaa

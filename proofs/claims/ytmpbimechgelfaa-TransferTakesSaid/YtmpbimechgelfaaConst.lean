/- The digest's constants and its first state. -/
import Derived.Test.YtmpbimechgelfaaHash
namespace Go.Proofs.Ytmpbimechgelfaa
open Go Go.RowKit
set_option maxRecDepth 100000 in
set_option maxHeartbeats 4000000 in
theorem begun_any (w : World) : Calls Try.prog 51 #[] w fun e w' => e = .returned (.agg (wc 8 SC).toArray) ∧ Below w.heap.size w w' := by
  rw [wc_SC]
  go_enter Try.func51, Try.ntmps51
  go_wp2_with fail
  exact bodyPost_ret (v := .agg _) (results_cell_row rfl _ _ w.heap.size 79 _ (0, 0) _ rfl (heap_alloc_new w _) Try.underlying79 rfl (by kernel_rfl)) rfl ⟨rfl, (by repeat (first | exact Below.refl _ _ | assumption | refine below_drewN ?_ _ | refine Below.drew ?_ | refine Below.alloc ?_ (by simp; try omega) _ | refine Below.setCell ?_ (by simp; try omega) _))⟩
set_option maxRecDepth 100000 in
set_option maxHeartbeats 4000000 in
theorem constants_any (w : World) : Calls Try.prog 50 #[] w fun e w' => e = .returned (.agg (wc 64 KC).toArray) ∧ Below w.heap.size w w' := by
  rw [wc_KC]
  go_enter Try.func50, Try.ntmps50
  obtain ⟨C, hC⟩ : ∃ C, C = (wc 64 KC).toArray := ⟨_, rfl⟩
  rw [← wc_KC, ← hC]
  have hsz : C.size = 64 := by rw [hC, List.size_toArray, wc_len]
  have hall : C.all (·.oneCell') = true := by rw [hC]; exact wc_all 64 KC
  have hinf : (Try.prog.info? 76).map (·.size) = some C.size := by rw [hsz]; kernel_rfl
  have HC := Lib.hid (hC.trans wc_KC)
  have HS := Lib.hid hsz
  clear hC hsz
  go_upto_region 1 with (fail)
  obtain ⟨W, hW⟩ : ∃ W, W = w.alloc (.cells (wc 64 fun _ => 0).toArray 76) := ⟨_, rfl⟩
  change Code.wp _ _ _ _ (w.alloc (.cells (wc 64 fun _ => 0).toArray 76))
  have hB := heap_alloc_new w (.cells (wc 64 fun _ => 0).toArray 76)
  have hbl : Below w.heap.size w (w.alloc (.cells (wc 64 fun _ => 0).toArray 76)) := (by repeat (first | exact Below.refl _ _ | assumption | refine below_drewN ?_ _ | refine Below.drew ?_ | refine Below.alloc ?_ (by simp; try omega) _ | refine Below.setCell ?_ (by simp; try omega) _))
  rw [← hW] at hB hbl ⊢
  have HW := Lib.hid hW
  clear hW
  refine wp_region_list ?_
  have HAL := Lib.hid hall
  have HIN := Lib.hid hinf
  have HBB := Lib.hid hB
  clear hall hinf hB
  repeat (first
    | (rw [← HC.out]; refine wpList_store_row (by rfl) 76 (.tmp 0) (.tmp 1) (by rfl) w.heap.size C (by rfl) (by rfl) 76 _ HBB.out HIN.out (by rw [HS.out]; simp [wc]) HAL.out ?_)
    | go_values | go_skip | go_guarded | go_step | go_upon)
  go_wp2_with fail
  exact bodyPost_ret (v := .agg C) (results_cell_row (by rfl) _ _ w.heap.size 76 _ (0, 0) _ (by rfl) (setRow_heap _ _ _ _ _ _ HBB.out) Try.underlying76 (by rfl) HIN.out) rfl ⟨rfl, below_setRow hbl (Nat.le_refl _) C⟩
end Go.Proofs.Ytmpbimechgelfaa

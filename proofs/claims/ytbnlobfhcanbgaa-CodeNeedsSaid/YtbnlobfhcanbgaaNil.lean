/- Readers and writers that are nil. -/
import Derived.Test.YtbnlobfhcanbgaaRead
namespace Go.Proofs.Ytbnlobfhcanbgaa
open Go Go.RowKit

theorem need_nil (is : Bool) (w : World) : Calls Try.prog 25 #[.pointer none, .bool is] w fun e w' => e = .returned (.tuple #[]) ∧ Below w.heap.size w w' := by
  go_enter Try.func25, Try.ntmps25
  go_wp2_with fail
  refine (guard_nil 38 _ _).mono ?_
  rintro e w' ⟨rfl, rfl⟩
  go_wp2
  go_end0
  exact ⟨rfl, ((Below.refl _ _).alloc (Nat.le_refl _) _).alloc (by simp) _⟩
theorem int_nil (a b : Int) (w : World) : Calls Try.prog 26 #[.pointer none, .int .i64 a, .int .i64 b] w fun e w' => e = .returned (.int .i64 0) ∧ Below w.heap.size w w' := by
  go_enter Try.func26, Try.ntmps26
  go_wp2_with fail
  refine (guard_nil 40 _ _).mono ?_
  rintro e w' ⟨rfl, rfl⟩
  go_wp2
  refine bodyPost_ret (v := .int .i64 0) (by simp [results, Try.results26, go_sem]) rfl ?_
  exact ⟨rfl, (by repeat (first | exact Below.refl _ _ | assumption | refine below_drewN ?_ _ | refine Below.drew ?_ | refine Below.alloc ?_ (by simp; try omega) _ | refine Below.setCell ?_ (by simp; try omega) _))⟩
theorem text_nil (a : Int) (w : World) : Calls Try.prog 20 #[.pointer none, .int .i64 a] w fun e w' => e = .returned (.slice none 0 0) ∧ Below w.heap.size w w' := by
  go_enter Try.func20, Try.ntmps20
  go_wp2_with fail
  refine (guard_nil 34 _ _).mono ?_
  rintro e w' ⟨rfl, rfl⟩
  go_wp2
  refine bodyPost_ret (v := .slice none 0 0) (by simp [results, Try.results20, go_sem]) rfl ?_
  exact ⟨rfl, (by repeat (first | exact Below.refl _ _ | assumption | refine below_drewN ?_ _ | refine Below.drew ?_ | refine Below.alloc ?_ (by simp; try omega) _ | refine Below.setCell ?_ (by simp; try omega) _))⟩
theorem hash_nil (w : World) : Calls Try.prog 28 #[.pointer none] w fun e w' => e = .returned (.agg (hc fun _ => 0)) ∧ Below w.heap.size w w' := by
  go_enter Try.func28, Try.ntmps28
  go_wp2_with fail
  have hb : ((w.alloc (.cells #[.pointer none] 41)).alloc (.cells (hc fun _ => 0) 26)).heap[w.heap.size + 1]? = some (.cells (hc fun _ => 0) 26 (0, 0)) := alloc_new _ _ _ (by simp)
  refine (guard_nil 41 _ _).mono ?_
  rintro e w' ⟨rfl, rfl⟩
  have HB := Lib.hid (alloc_old (o := .cells #[.pointer none] 41) hb)
  go_upto_region 2 with (fail)
  refine wp_region_list ?_
  refine wpList_load_row rfl 26 (.tmp 2) rfl (w.heap.size + 1) rfl 26 (hc fun _ => 0) (0, 0) _ HB.out Try.underlying26 rfl size_hc ?_
  refine wpList_store_row rfl 26 (.tmp 2) (.tmp 6) rfl (w.heap.size + 1) (hc fun _ => 0) rfl rfl 26 (hc fun _ => 0) HB.out size_hc rfl (hc_all _) ?_
  go_wp2
  refine bodyPost_ret (v := .agg (hc fun _ => 0)) (results_cell_row (by rfl) _ _ (w.heap.size + 1) 26 _ (0, 0) _ (by rfl) (setRow_heap _ _ _ _ _ _ HB.out) Try.underlying26 (by rfl) size_hc) rfl ?_
  exact ⟨rfl, below_setRow (g := w.heap.size + 1) (by repeat (first | exact Below.refl _ _ | assumption | refine below_drewN ?_ _ | refine Below.drew ?_ | refine Below.alloc ?_ (by simp; try omega) _ | refine Below.setCell ?_ (by simp; try omega) _)) (by omega) _⟩
theorem done_nil (w : World) : Calls Try.prog 21 #[.pointer none] w fun e w' => e = .returned (.int .i64 1) ∧ w' = w := by
  go_enter Try.func21, Try.ntmps21
  go_wp2
  go_ret
  exact ⟨rfl, rfl⟩
theorem wint_nil (n : Int) (w : World) : Calls Try.prog 23 #[.pointer none, .int .i64 n] w fun e w' => e = .returned (.tuple #[]) ∧ w' = w := by
  go_enter Try.func23, Try.ntmps23
  go_wp2
  refine bodyPost_ret (results_none rfl _ _ _) rfl ?_
  exact ⟨rfl, rfl⟩
theorem wtext_nil (A : Option Addr) (n c : Nat) (w : World) : Calls Try.prog 22 #[.pointer none, .slice A n c] w fun e w' => e = .returned (.tuple #[]) ∧ w' = w := by
  go_enter Try.func22, Try.ntmps22
  go_wp2
  go_end0
  exact ⟨rfl, rfl⟩
theorem wbytes_nil (w : World) : Calls Try.prog 24 #[.pointer none] w fun e w' => e = .returned (.slice none 0 0) ∧ w' = w := by
  go_enter Try.func24, Try.ntmps24
  go_wp2
  go_ret
  exact ⟨rfl, rfl⟩
theorem whash_nil (h : Nat → Nat) (w : World) : Calls Try.prog 27 #[.pointer none, .agg (hc h)] w fun e w' => e = .returned (.tuple #[]) ∧ Below w.heap.size w w' := by
  have hsz := hc_size h
  go_enter Try.func27, Try.ntmps27
  go_wp2
  have hb : Below w.heap.size w (w.alloc (.cells (hc h) 26)) := (by repeat (first | exact Below.refl _ _ | assumption | refine below_drewN ?_ _ | refine Below.drew ?_ | refine Below.alloc ?_ (by simp; try omega) _ | refine Below.setCell ?_ (by simp; try omega) _))
  generalize w.alloc (.cells (hc h) 26) = w2 at *
  go_end0
  exact ⟨rfl, hb⟩
theorem eq_zero (w : World) : (Op.equalIn 10000 26 (.agg (hc fun _ => 0)) (.agg #[.int .u8 0, .int .u8 0, .int .u8 0, .int .u8 0, .int .u8 0, .int .u8 0, .int .u8 0, .int .u8 0, .int .u8 0, .int .u8 0, .int .u8 0, .int .u8 0, .int .u8 0, .int .u8 0, .int .u8 0, .int .u8 0, .int .u8 0, .int .u8 0, .int .u8 0, .int .u8 0, .int .u8 0, .int .u8 0, .int .u8 0, .int .u8 0, .int .u8 0, .int .u8 0, .int .u8 0, .int .u8 0, .int .u8 0, .int .u8 0, .int .u8 0, .int .u8 0])).run Try.prog w = .ok true w := by kernel_rfl
end Go.Proofs.Ytbnlobfhcanbgaa

/- manifest.digest: a chunk's. -/
import Derived.Test.YtmpbimechgelfaaPw
import Derived.Deep.Cut
namespace Go.Proofs.Ytmpbimechgelfaa
open Go Go.RowKit

/-- A chunk's digest. -/
def digH (i : Nat) (l : List Nat) : Nat → Nat := sumH ([0, i] ++ l)
set_option maxRecDepth 100000 in
set_option maxHeartbeats 4000000 in
theorem digest_any (i : Nat) (A : Option Addr) (c : Nat) (l : List Nat) (w : World) (h : Bs w w.heap.size A l) (hb : Byt l) (hi : i < 256) (hl : l.length ≤ 800000) :
    Calls Try.prog 46 #[.int .i64 (i : Int), .slice A l.length c] w fun e w' => e = .returned (.agg (hc (digH i l))) ∧ Below w.heap.size w w' := by
  obtain ⟨n, hn⟩ : ∃ n, n = l.length := ⟨_, rfl⟩
  rw [← hn]
  obtain ⟨C, hC⟩ : ∃ C, C = hc (digH i l) := ⟨_, rfl⟩
  rw [← hC]
  have HC := Lib.hid hC
  have HN := Lib.hid hn
  have HI := Lib.hid h
  have HBY := Lib.hid hb
  have HLN := Lib.hid hl
  have hu1 : (0 : Int) ≤ (i : Int) := by omega
  have hu2 : (i : Int) < 256 := by omega
  have hu3 : (i : Int) ≤ 255 := by omega
  clear hC hn h hb hl
  go_enter Try.func46, Try.ntmps46
  go_wp2_with fail
  obtain ⟨W1, hW1⟩ : ∃ W, W = (w.alloc (.cells (hc fun _ => 0) 33)).alloc (.cells #[.int .u8 0, .int .u8 (i : Int)] 5) := ⟨_, rfl⟩
  change Calls _ _ _ (((w.alloc (.cells (hc fun _ => 0) 33)).alloc (.cells #[.int .u8 0, .int .u8 (i : Int)] 5)).alloc (.cells #[.slice (some ⟨w.heap.size + 1, 0, none⟩) 2 2, .slice A n c] 31)) _
  rw [← hW1]
  have hs1 : W1.heap.size = w.heap.size + 1 + 1 := by rw [hW1]; simp
  have HB1 := Lib.hid (show Below w.heap.size w W1 from by rw [hW1]; exact (by repeat (first | exact Below.refl _ _ | assumption | refine below_drewN ?_ _ | refine Below.drew ?_ | refine Below.alloc ?_ (by simp; try omega) _ | refine Below.setCell ?_ (by simp; try omega) _)))
  have HO1 := Lib.hid (show W1.heap[w.heap.size]? = some (.cells (hc fun _ => 0) 33 (0, 0)) from by
    rw [hW1, Below.heap_alloc _ _ _ (by simp)]; exact heap_alloc_new w _)
  have HT := Lib.hid (show Bs W1 W1.heap.size (some ⟨w.heap.size + 1, 0, none⟩) [0, i] from by
    have h := Ob.of2 (w.alloc (.cells (hc fun _ => 0) 33)) (base := 0) (Nat.zero_le _) 0 i
    have h2 := (Ob.sl h).2.1
    rw [hW1]
    have e : (w.alloc (.cells (hc fun _ => 0) 33)).heap.size = w.heap.size + 1 := by simp
    rw [e] at h2
    exact h2)
  rw [← hs1]
  have HS1 := Lib.hid hs1
  clear hW1 hs1
  have HI2 := Lib.hid (show Byt [0, i] from by intro x hx; simp at hx; omega)
  refine (sum_any _ 2 [.slice (some ⟨w.heap.size + 1, 0, none⟩) 2 2, .slice A n c] [[0, i], l] _ (by have h := Prt.two (t := 31) (c := 2) (c2 := c) HT.out HI2.out (HI.out.next HB1.out) HBY.out; rw [← HN.out] at h; exact h) (Nat.le_refl _) (by simp) (by simp; have := HLN.out; omega)).mono ?_
  rintro e w2 ⟨rfl, hb2⟩
  rw [show hc (sumH [[0, i], l].flatten) = C from by rw [HC.out]; unfold digH; simp]
  have HCs := Lib.hid (show (Try.prog.info? 33).map (·.size) = some C.size from by rw [HC.out]; exact size_hc)
  have HCa := Lib.hid (show C.all (·.oneCell') = true from by rw [HC.out]; exact hc_all _)
  have HCz := Lib.hid (show (hc fun _ => 0).size = C.size from by rw [HC.out, hc_size, hc_size])
  have HB2 := Lib.hid (show Below W1.heap.size W1 w2 from below_chain ((Below.refl _ _).alloc (Nat.le_refl _) _) hb2)
  have HO2 := Lib.hid (show w2.heap[w.heap.size]? = some (.cells (hc fun _ => 0) 33 (0, 0)) from by rw [HB2.out.block _ (by rw [HS1.out]; omega)]; exact HO1.out)
  clear hb2
  dsimp only
  repeat (first
    | refine wpList_store_row (by rfl) 33 (.tmp 4) (.tmp 10) (by rfl) w.heap.size C (by rfl) (by rfl) 33 (hc fun _ => 0) HO2.out HCs.out HCz.out HCa.out ?_
    | go_values | go_skip | go_guarded | go_step | go_upon)
  exact bodyPost_ret (v := .agg C) (results_cell_row (by rfl) _ _ w.heap.size 33 _ (0, 0) _ (by rfl) (setRow_heap _ _ _ _ _ _ HO2.out) Try.underlying33 (by rfl) HCs.out) rfl ⟨rfl, below_setRow (below_chain HB1.out HB2.out) (Nat.le_refl _) C⟩
end Go.Proofs.Ytmpbimechgelfaa

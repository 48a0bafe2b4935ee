/- Writer.Hash's contract. -/
import Derived.Test.YtbnlobfhcanbgaaWText
namespace Go.Proofs.Ytbnlobfhcanbgaa
open Go Go.RowKit

/-- The 32 cells of a hash. -/
def hc (h : Nat → Nat) : Array Value := ((List.range 32).map fun j => Value.int .u8 ((h j : Nat) : Int)).toArray
theorem hc_size (h : Nat → Nat) : (hc h).size = 32 := by simp [hc]
def hl (h : Nat → Nat) : List Nat := (List.range 32).map h
theorem hl_len (h : Nat → Nat) : (hl h).length = 32 := by simp [hl]
theorem hc_at (h : Nat → Nat) (j : Nat) (hj : j < 32 * 1) : (hc h)[j]? = some (bf (hl h) j) := by
  have hj' : j < 32 := by omega
  simp [hc, bf, hl, hj']
set_option maxHeartbeats 1000000 in
theorem whash_any (p : Nat) (h : Nat → Nat) (base : Nat) (v : Value) (l : List Nat) (w : World) (hw : Wr w base p v l) (hl' : l.length ≤ 900000) :
    Calls Try.prog 27 #[.pointer (some ⟨p, 0, none⟩), .agg (hc h)] w (WEnd base p (l ++ hl h) w) := by
  obtain ⟨i0, hi0, hz0, hz1, hz2⟩ := info_parts info_u8
  have hsz := hc_size h
  have hcell := hw.cell
  have hfree := hw.free
  have hlt := hw.lt
  go_enter Try.func27, Try.ntmps27
  go_wp2
  go_region_law (first | (refine step_app _ (by rfl) (.tmp 10) (.tmp 11) 25 (by rfl) base 5 i0 _ 1 1 Try.underlying25 hi0 hz0 hz1 hz2 rfl (by omega) v l.length (bf l) (by rfl) (Own.drew (Own.alloc hw.own (.cells (hc h) 26))) (w.heap.size + 1) (some ⟨w.heap.size, 0, none⟩) 32 32 (bf (hl h)) (by rfl) (Rd.drew (Rd.new (hc_at h))) (by intro h; cases h) (fun j _ => bf_one _ j) (by unfold maxLen; omega) (by omega) (by simp; have := hw.low; omega) ?_; intro v1 w1 o1 g1 a1; obtain ⟨A1, c1, rfl, -⟩ := o1.shape; have hh := ((hw.alloc (.cells (hc h) 26)).drew).held g1; have hh0 := hh.1; have hh1 := hh.2))
  all_goals
    have hfr := Wr.frame (v' := .slice A1 (l.length + 32) c1) ((hw.alloc (.cells (hc h) 26)).drew) (((Below.refl base w).alloc (by have := hw.low; omega) _).drew) g1
    have hpt := ((hw.alloc (.cells (hc h) 26)).drew).put (Ob.app (l := l) (m := hl h) (by rw [hl_len h]; exact o1)) g1 a1
    clear hh hh0 hh1 o1 g1 a1
    go_wp2
    refine bodyPost_ret (results_none rfl _ _ _) rfl ?_
    exact ⟨_, rfl, hpt, hfr⟩
end Go.Proofs.Ytbnlobfhcanbgaa

/- Arrays of words in boxes of their own. -/
import Derived.Test.YtmpbimechgelfaaRot
import Derived.Laws.Tables
import Derived.Laws.Rows
import Derived.Laws.CopyOwn
import Derived.Deep.MidRow
namespace Go.Proofs.Ytmpbimechgelfaa
open Go Go.RowKit

/-- The cells of n words. -/
def wc (n : Nat) (f : Nat → Nat) : List Value := (List.range n).map fun j => Value.int .u32 ((f j : Nat) : Int)
theorem wc_len (n : Nat) (f : Nat → Nat) : (wc n f).length = n := by simp [wc]
theorem wc_at {n j : Nat} (f : Nat → Nat) (hj : j < n) : (wc n f)[j]? = some (.int .u32 ((f j : Nat) : Int)) := by simp [wc, hj]
theorem wc_one (n : Nat) (f : Nat → Nat) : ∀ v ∈ wc n f, v.oneCell' = true := by
  intro v hv
  unfold wc at hv
  obtain ⟨j, -, rfl⟩ := List.mem_map.1 hv
  rfl
theorem wc_all (n : Nat) (f : Nat → Nat) : (wc n f).toArray.all (·.oneCell') = true := Array.all_eq_true_iff_forall_mem.2 fun v hv => wc_one n f v (by simpa using hv)
theorem wc_congr {n : Nat} {f g : Nat → Nat} (h : ∀ j, j < n → f j = g j) : wc n f = wc n g := List.map_congr_left fun j hj => by rw [h j (by simpa using hj)]
theorem wc_set {n : Nat} (f : Nat → Nat) (j v : Nat) : (wc n f).set j (.int .u32 (v : Int)) = wc n fun i => if i = j then v else f i := by
  refine List.ext_getElem? fun i => ?_
  rw [List.getElem?_set]
  by_cases hi : i < n
  · by_cases hij : j = i
    · subst hij; rw [if_pos rfl, wc_len, if_pos hi, wc_at _ hi, if_pos rfl]
    · rw [if_neg hij, wc_at _ hi, wc_at _ hi, if_neg (fun e => hij e.symm)]
  · rw [List.getElem?_eq_none (by rw [wc_len]; omega)]
    by_cases hij : j = i
    · subst hij; rw [if_pos rfl, wc_len, if_neg hi]
      rw [List.getElem?_eq_none (by rw [wc_len]; omega)]
    · rw [if_neg hij, List.getElem?_eq_none (by rw [wc_len]; omega)]
/-- The box at block g, of type t, holds the n words f. -/
def AB (w : World) (t g n : Nat) (f : Nat → Nat) : Prop := w.heap[g]? = some (.cells (wc n f).toArray t (0, 0))
section
variable {w w' : World} {t g n : Nat} {f : Nat → Nat}
theorem AB.lt (h : AB w t g n f) : g < w.heap.size := (Array.getElem?_eq_some_iff.1 h).1
theorem AB.keep (h : AB w t g n f) (hk : w'.heap[g]? = w.heap[g]?) : AB w' t g n f := hk.trans h
theorem AB.alloc (h : AB w t g n f) (o : Obj) : AB (w.alloc o) t g n f := h.keep (Below.heap_alloc w o g h.lt)
theorem AB.drew (h : AB w t g n f) : AB w.drew t g n f := h
theorem AB.next (h : AB w t g n f) (hb : Below w.heap.size w w') : AB w' t g n f := h.keep (hb.block g h.lt)
theorem AB.far (h : AB w t g n f) {p : Addr} (hp : g ≠ p.block) (u : Value) : AB (w.setCell p u) t g n f := h.keep (heap_setCell_other w p g u hp)
theorem AB.farRow (h : AB w t g n f) {q : Nat} (hp : g ≠ q) (cs : Array Value) : AB (w.setRow q cs) t g n f := h.keep (setRow_other w q g cs hp)
theorem AB.cell (h : AB w t g n f) {j : Nat} (hj : j < n) : w.cell? ⟨g, j, none⟩ = some (.int .u32 ((f j : Nat) : Int)) := by
  rw [cell_of_row w g j _ _ _ h, List.getElem?_toArray]; exact wc_at f hj
theorem AB.free (h : AB w t g n f) (j : Nat) : w.frozen? ⟨g, j, none⟩ = false := frozen_of_row w g j _ _ h
theorem AB.set (h : AB w t g n f) (j v : Nat) : AB (w.setCell ⟨g, j, none⟩ (.int .u32 (v : Int))) t g n fun i => if i = j then v else f i := by
  have h1 := heap_setCell_same w g j _ _ (.int .u32 (v : Int)) h
  rw [List.setIfInBounds_toArray, wc_set] at h1
  exact h1
theorem AB.eight (h : AB w t g 8 f) (u : Nat → Nat) : AB ((((((((w.setCell ⟨g, 0, none⟩ (.int .u32 (u 0 : Int))).setCell ⟨g, 1, none⟩ (.int .u32 (u 1 : Int))).setCell ⟨g, 2, none⟩ (.int .u32 (u 2 : Int))).setCell ⟨g, 3, none⟩ (.int .u32 (u 3 : Int))).setCell ⟨g, 4, none⟩ (.int .u32 (u 4 : Int))).setCell ⟨g, 5, none⟩ (.int .u32 (u 5 : Int))).setCell ⟨g, 6, none⟩ (.int .u32 (u 6 : Int))).setCell ⟨g, 7, none⟩ (.int .u32 (u 7 : Int))) t g 8 u := by
  have h1 := (((((((h.set 0 (u 0)).set 1 (u 1)).set 2 (u 2)).set 3 (u 3)).set 4 (u 4)).set 5 (u 5)).set 6 (u 6)).set 7 (u 7)
  unfold AB at *
  refine h1.trans (congrArg (fun l => some (Obj.cells (List.toArray l) t (0, 0))) (wc_congr fun j hj => ?_))
  by_cases e7 : j = 7
  · subst e7; rfl
  by_cases e6 : j = 6
  · subst e6; rfl
  by_cases e5 : j = 5
  · subst e5; rfl
  by_cases e4 : j = 4
  · subst e4; rfl
  by_cases e3 : j = 3
  · subst e3; rfl
  by_cases e2 : j = 2
  · subst e2; rfl
  by_cases e1 : j = 1
  · subst e1; rfl
  obtain rfl : j = 0 := by omega
  rfl
theorem AB.grown (_h : AB w t g n f) (j v : Nat) : w.grownBy (w.setCell ⟨g, j, none⟩ (.int .u32 (v : Int))) (some g) := by
  refine ⟨rfl, rfl, rfl, by simp [World.setCell], fun i _ hne => heap_setCell_other w ⟨g, j, none⟩ i _ (fun e => hne (by rw [e]))⟩
theorem grown_trans {a b c : World} {r : Option Nat} (h : a.grownBy b r) (k : b.grownBy c r) : a.grownBy c r :=
  ⟨k.os.trans h.os, k.tape.trans h.tape, k.output.trans h.output, Nat.le_trans h.size k.size, fun i hi hne => (k.block i (Nat.lt_of_lt_of_le hi h.size) hne).trans (h.block i hi hne)⟩
theorem grown_drew {a b : World} {r : Option Nat} (h : a.grownBy b r) : a.grownBy b.drew r := ⟨h.os, h.tape, h.output, h.size, h.block⟩
theorem AB.congr (h : AB w t g n f) {f' : Nat → Nat} (he : ∀ j, j < n → f j = f' j) : AB w t g n f' := by
  unfold AB at *; rw [← wc_congr he]; exact h
end
end Go.Proofs.Ytmpbimechgelfaa

/- A part in a box of its own. -/
import Derived.Test.YtbnlobfhcanbgaaRead
import Derived.Deep.Upon
import Derived.Lib.LazyBuf
namespace Go.Proofs.Ytbnlobfhcanbgaa
open Go Go.RowKit

/-- The box at block g holds the part x. -/
def PB (w : World) (g : Nat) (x : Pt) : Prop := w.heap[g]? = some (.cells (ptc x).toArray 28 (0, 0))
section
variable {w w' : World} {g : Nat} {x : Pt}
theorem PB.lt (h : PB w g x) : g < w.heap.size := lt_of_block h
theorem PB.keep (h : PB w g x) (hk : w'.heap[g]? = w.heap[g]?) : PB w' g x := hk.trans h
theorem PB.alloc (h : PB w g x) (o : Obj) : PB (w.alloc o) g x := h.keep (Below.heap_alloc w o g h.lt)
theorem PB.drew (h : PB w g x) : PB w.drew g x := h
theorem PB.far (h : PB w g x) {p : Addr} (hp : g ≠ p.block) (u : Value) : PB (w.setCell p u) g x := h.keep (heap_setCell_other w p g u hp)
theorem PB.farRow (h : PB w g x) {q : Nat} (hp : g ≠ q) (cs : Array Value) : PB (w.setRow q cs) g x := h.keep (setRow_other w q g cs hp)
theorem PB.grown (h : PB w g x) {row : Option Nat} (hg : w.grownBy w' row) (hr : row ≠ some g) : PB w' g x := h.keep (hg.block g h.lt (fun e => hr e.symm))
theorem PB.new (w : World) (x : Pt) : PB ((w.alloc (.cells (ptc Pt.nil).toArray 28)).setRow w.heap.size (ptc x).toArray) w.heap.size x := setRow_heap _ _ _ _ _ _ (alloc_new _ _ _ rfl)
theorem PB.cell (h : PB w g x) (j : Nat) {v : Value} (hv : (ptc x)[j]? = some v) : w.cell? ⟨g, j, none⟩ = some v := by
  rw [cell_of_row w g j _ _ _ h, List.getElem?_toArray]; exact hv
theorem PB.free (h : PB w g x) (j : Nat) : w.frozen? ⟨g, j, none⟩ = false := frozen_of_row w g j _ _ h
theorem PB.setN (h : PB w g x) (n : Int) : PB (w.setCell ⟨g, 1, none⟩ (.int .i64 n)) g { x with n := n } := heap_setCell_same w g 1 _ _ (.int .i64 n) h
theorem PB.setMost (h : PB w g x) (n : Int) : PB (w.setCell ⟨g, 3, none⟩ (.int .i64 n)) g { x with most := n } := heap_setCell_same w g 3 _ _ (.int .i64 n) h
theorem PB.setB (h : PB w g x) (A : Option Addr) (b : List Nat) (c : Nat) : PB (w.setCell ⟨g, 4, none⟩ (.slice A b.length c)) g { x with A := A, b := b, c := c } := heap_setCell_same w g 4 _ _ (.slice A b.length c) h
theorem setCells_row (t : TypeId) : ∀ (vs pre cur post : List Value) (w : World), w.heap[g]? = some (.cells (pre ++ (cur ++ post)).toArray t (0, 0)) → cur.length = vs.length → (w.setCells g pre.length vs).heap[g]? = some (.cells (pre ++ (vs ++ post)).toArray t (0, 0))
  | [], pre, cur, post, w, h, hl => by
    obtain rfl : cur = [] := List.eq_nil_of_length_eq_zero hl
    exact h
  | v :: vs, pre, cur, post, w, h, hl => by
    cases cur with
    | nil => simp at hl
    | cons c cur =>
      have h1 := heap_setCell_same w g pre.length _ t v h
      have e : (pre ++ (c :: cur ++ post)).toArray.setIfInBounds pre.length v = ((pre ++ [v]) ++ (cur ++ post)).toArray := by
        rw [List.setIfInBounds_toArray, List.set_append_right _ _ (Nat.le_refl _)]
        simp
      rw [e] at h1
      have h2 := setCells_row t vs (pre ++ [v]) cur post _ h1 (by simpa using hl)
      rw [List.length_append] at h2
      rw [World.setCells]
      have e2 : (pre ++ [v]) ++ (vs ++ post) = pre ++ (v :: vs ++ post) := by simp
      rw [e2] at h2
      exact h2
theorem PB.setH (h : PB w g x) (f : Nat → Nat) : PB (w.setCells g 5 (hc f).toList) g { x with h := f } := by
  have := setCells_row (g := g) 28 (hc f).toList [.int .i64 x.kind, .int .i64 x.n, .int .i64 x.least, .int .i64 x.most, .slice x.A x.b.length x.c] (hc x.h).toList [] w (by rw [List.append_nil]; exact h) (by simp [hc])
  rw [List.append_nil] at this
  exact this
theorem hc_set (f : Nat → Nat) (j v : Nat) (hj : j < 32) : (hc f).toList.set j (.int .u8 (v : Int)) = (hc fun i => if i = j then v else f i).toList := by
  refine List.ext_getElem? fun i => ?_
  rw [List.getElem?_set]
  unfold hc
  by_cases hi : i < 32
  · by_cases hij : j = i
    · subst hij; simp [hj]
    · have : ¬ i = j := fun e => hij e.symm
      simp [hi, hij, this]
  · have : ¬ j = i := by omega
    simp [hi, this]
theorem PB.setHq (h : PB w g x) (j v : Nat) (hj : j < 32) : PB (w.setCell ⟨g, 5 + j, none⟩ (.int .u8 (v : Int))) g { x with h := fun i => if i = j then v else x.h i } := by
  have h1 := heap_setCell_same w g (5 + j) _ _ (.int .u8 (v : Int)) h
  have e : (ptc x).toArray.setIfInBounds (5 + j) (.int .u8 (v : Int)) = (ptc { x with h := fun i => if i = j then v else x.h i }).toArray := by
    rw [List.setIfInBounds_toArray]
    congr 1
    unfold ptc
    rw [List.set_append_right _ _ (by simp)]
    simp only [List.length_cons, List.length_nil]
    rw [show 5 + j - (0 + 1 + 1 + 1 + 1 + 1) = j from by omega, hc_set _ _ _ hj]
  rw [e] at h1
  exact h1
theorem PB.cellH (h : PB w g x) (j : Nat) (hj : j < 32) : w.cell? ⟨g, 5 + j, none⟩ = some (.int .u8 ((x.h j : Nat) : Int)) := by
  refine h.cell (5 + j) ?_
  unfold ptc
  rw [List.getElem?_append_right (by simp)]
  simp only [List.length_cons, List.length_nil]
  rw [show 5 + j - (0 + 1 + 1 + 1 + 1 + 1) = j from by omega]
  unfold hc
  simp [hj]
theorem PB.there (h : PB w g x) : w.there g 5 32 := fun j hj => by
  refine ⟨?_, h.free _⟩
  rw [cell_of_row w g (5 + j) _ _ _ h, List.getElem?_toArray, List.getElem?_eq_getElem (by rw [ptc_len]; omega)]
  rfl
end
theorem setCells_below {B b : Nat} {a w : World} (hb : B ≤ b) (vs : List Value) (o : Nat) (h : Below B a w) : Below B a (w.setCells b o vs) := Go.below_setCells hb vs o w h
theorem setCells_size (w : World) (g o : Nat) (vs : List Value) : (w.setCells g o vs).heap.size = w.heap.size := by
  induction vs generalizing o w with
  | nil => rfl
  | cons v vs ih => rw [World.setCells, ih]; simp [World.setCell]
end Go.Proofs.Ytbnlobfhcanbgaa

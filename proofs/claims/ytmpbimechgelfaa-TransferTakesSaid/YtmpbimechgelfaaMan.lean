/- Manifests: how many chunks, whether one may be, where a chunk is. -/
import Derived.Test.YtmpbimechgelfaaTb
import Derived.Test.YtmpbimechgelfaaHw
import Derived.Test.YtmpbimechgelfaaPw
import Derived.IntWalk
namespace Go.Proofs.Ytmpbimechgelfaa
open Go Go.RowKit

/-- The cells of a manifest. -/
def mcv (s k : Int) (v : Value) (f : Nat → Nat) : Array Value := ([.int .i64 s, .int .i64 k, v] ++ (hc f).toList).toArray
theorem mcv_size (s k : Int) (v : Value) (f : Nat → Nat) : (mcv s k v f).size = 35 := by simp [mcv, hc]
theorem mcv_all (s k : Int) (A : Option Addr) (n c : Nat) (f : Nat → Nat) : (mcv s k (.slice A n c) f).all (·.oneCell') = true := by
  refine Array.all_eq_true_iff_forall_mem.2 fun v hv => ?_
  unfold mcv at hv
  rw [List.mem_toArray, List.mem_append] at hv
  rcases hv with hv | hv
  · simp only [List.mem_cons, List.not_mem_nil, or_false] at hv
    rcases hv with rfl | rfl | rfl <;> rfl
  · exact hc_one f v hv
theorem size_mcv {s k : Int} {v : Value} {f : Nat → Nat} : (Try.prog.info? 35).map (·.size) = some (mcv s k v f).size := by rw [mcv_size]; kernel_rfl
/-- The box at block g holds a manifest. -/
def MB (w : World) (g : Nat) (s k : Int) (v : Value) (f : Nat → Nat) : Prop := w.heap[g]? = some (.cells (mcv s k v f) 35 (0, 0))
section
variable {w w' : World} {g : Nat} {s k : Int} {v : Value} {f : Nat → Nat}
theorem MB.lt (h : MB w g s k v f) : g < w.heap.size := (Array.getElem?_eq_some_iff.1 h).1
theorem MB.keep (h : MB w g s k v f) (hk : w'.heap[g]? = w.heap[g]?) : MB w' g s k v f := hk.trans h
theorem MB.alloc (h : MB w g s k v f) (o : Obj) : MB (w.alloc o) g s k v f := h.keep (Below.heap_alloc w o g h.lt)
theorem MB.drew (h : MB w g s k v f) : MB w.drew g s k v f := h
theorem MB.next (h : MB w g s k v f) (hb : Below w.heap.size w w') : MB w' g s k v f := h.keep (hb.block g h.lt)
theorem MB.nextB {B : Nat} (h : MB w g s k v f) (hg : g < B) (hb : Below B w w') : MB w' g s k v f := h.keep (hb.block g hg)
theorem MB.far (h : MB w g s k v f) {p : Addr} (hp : g ≠ p.block) (u : Value) : MB (w.setCell p u) g s k v f := h.keep (heap_setCell_other w p g u hp)
theorem MB.farRow (h : MB w g s k v f) {q : Nat} (hp : g ≠ q) (cs : Array Value) : MB (w.setRow q cs) g s k v f := h.keep (setRow_other w q g cs hp)
theorem MB.cell (h : MB w g s k v f) (j : Nat) {x : Value} (hx : ([.int .i64 s, .int .i64 k, v] ++ (hc f).toList)[j]? = some x) : w.cell? ⟨g, j, none⟩ = some x := by
  rw [cell_of_row w g j _ _ _ h]; unfold mcv; rw [List.getElem?_toArray]; exact hx
theorem MB.c0 (h : MB w g s k v f) : w.cell? ⟨g, 0, none⟩ = some (.int .i64 s) := h.cell 0 rfl
theorem MB.c1 (h : MB w g s k v f) : w.cell? ⟨g, 1, none⟩ = some (.int .i64 k) := h.cell 1 rfl
theorem MB.c2 (h : MB w g s k v f) : w.cell? ⟨g, 2, none⟩ = some v := h.cell 2 rfl
theorem MB.free (h : MB w g s k v f) (j : Nat) : w.frozen? ⟨g, j, none⟩ = false := frozen_of_row w g j _ _ h
theorem MB.all (h : MB w g s k v f) : w.rangeAt g 0 (mcv s k v f).toList := box_range h
theorem MB.whole (h : MB w g s k v f) : w.rangeAt g 3 (hc f).toList := fun j x hx => h.cell (3 + j) (by
  rw [List.getElem?_append_right (by simp)]
  simp only [List.length_cons, List.length_nil, Nat.zero_add]
  rw [show 3 + j - (1 + 1 + 1) = j from by omega, hx])
end

/-- How many chunks; 0: none may be. -/
def chN (s k : Int) : Nat := if s < 1 ∨ 65536 < s ∨ k < 1 ∨ 4096 < k then 0 else if 64 < (s + k - 1) / k then 0 else ((s + k - 1) / k).toNat
theorem chN_le (s k : Int) : chN s k ≤ 64 := by
  unfold chN
  split
  · omega
  · split <;> omega
theorem chunks_any (s k : Int) (w : World) : Calls Try.prog 44 #[.int .i64 s, .int .i64 k] w fun e w' => e = .returned (.int .i64 (chN s k : Int)) ∧ w' = w := by
  obtain ⟨v, hv⟩ : ∃ v, v = chN s k := ⟨_, rfl⟩
  rw [← hv]
  by_cases h1 : s < 1
  · have H := Lib.hid (show v = 0 from by rw [hv]; unfold chN; rw [if_pos (Or.inl h1)])
    have d1 : decide (s < 1) = true := by simpa using h1
    clear hv
    go_enter Try.func44, Try.ntmps44
    go_wp2_with fail
    go_ret
    exact ⟨by rw [H.out]; rfl, rfl⟩
  by_cases h2 : 65536 < s
  · have H := Lib.hid (show v = 0 from by rw [hv]; unfold chN; rw [if_pos (Or.inr (Or.inl h2))])
    have d1 : decide (s < 1) = false := by simpa using h1
    have d2 : decide (65536 < s) = true := by simpa using h2
    clear hv
    go_enter Try.func44, Try.ntmps44
    go_wp2_with fail
    go_ret
    exact ⟨by rw [H.out]; rfl, rfl⟩
  by_cases h3 : k < 1
  · have H := Lib.hid (show v = 0 from by rw [hv]; unfold chN; rw [if_pos (Or.inr (Or.inr (Or.inl h3)))])
    have d1 : decide (s < 1) = false := by simpa using h1
    have d2 : decide (65536 < s) = false := by simpa using h2
    have d3 : decide (k < 1) = true := by simpa using h3
    clear hv
    go_enter Try.func44, Try.ntmps44
    go_wp2_with fail
    go_ret
    exact ⟨by rw [H.out]; rfl, rfl⟩
  by_cases h4 : 4096 < k
  · have H := Lib.hid (show v = 0 from by rw [hv]; unfold chN; rw [if_pos (Or.inr (Or.inr (Or.inr h4)))])
    have d1 : decide (s < 1) = false := by simpa using h1
    have d2 : decide (65536 < s) = false := by simpa using h2
    have d3 : decide (k < 1) = false := by simpa using h3
    have d4 : decide (4096 < k) = true := by simpa using h4
    clear hv
    go_enter Try.func44, Try.ntmps44
    go_wp2_with fail
    go_ret
    exact ⟨by rw [H.out]; rfl, rfl⟩
  have d1 : decide (s < 1) = false := by simpa using h1
  have d2 : decide (65536 < s) = false := by simpa using h2
  have d3 : decide (k < 1) = false := by simpa using h3
  have d4 : decide (4096 < k) = false := by simpa using h4
  have b1 : 1 ≤ s := by omega
  have b2 : s ≤ 65536 := by omega
  have b3 : 1 ≤ k := by omega
  have b4 : k ≤ 4096 := by omega
  have b5 : 0 ≤ (s + k - 1) / k := Int.ediv_nonneg (by omega) (by omega)
  have b6 : (s + k - 1) / k ≤ 100000 := Int.le_trans (Int.ediv_le_self _ (by omega)) (by omega)
  by_cases h5 : 64 < (s + k - 1) / k
  · have H := Lib.hid (show v = 0 from by rw [hv]; unfold chN; rw [if_neg (by omega), if_pos h5])
    have d5 : decide (64 < (s + k - 1) / k) = true := by simpa using h5
    clear hv
    go_enter Try.func44, Try.ntmps44
    go_wp2_with fail
    go_ret
    exact ⟨by rw [H.out]; rfl, rfl⟩
  · have H := Lib.hid (show (v : Int) = (s + k - 1) / k from by rw [hv]; unfold chN; rw [if_neg (by omega), if_neg h5]; omega)
    have d5 : decide (64 < (s + k - 1) / k) = false := by simpa using h5
    clear hv
    go_enter Try.func44, Try.ntmps44
    go_wp2_with fail
    go_ret
    exact ⟨by rw [H.out]; rfl, rfl⟩
/-- Whether a manifest may be. -/
def chkB (s k : Int) (n : Nat) : Bool := decide (chN s k ≠ 0) && decide (n = chN s k)
/-- An error's number. -/
def eno (b : Bool) (x : Int) : Int := match b with | true => 0 | false => x
theorem check_any (s k : Int) (A : Option Addr) (n c : Nat) (f : Nat → Nat) (w : World) :
    Calls Try.prog 48 #[.agg (mcv s k (.slice A n c) f)] w fun e w' => e = .returned (.int .i64 (eno (chkB s k n) 50)) ∧ Below w.heap.size w w' := by
  obtain ⟨z, hz⟩ : ∃ z, z = eno (chkB s k n) 50 := ⟨_, rfl⟩
  obtain ⟨M, hM⟩ : ∃ M, M = mcv s k (.slice A n c) f := ⟨_, rfl⟩
  obtain ⟨q, hq⟩ : ∃ q, q = chN s k := ⟨_, rfl⟩
  have HC := Lib.hid (chunks_any s k)
  have hq64 : q ≤ 64 := by rw [hq]; exact chN_le s k
  rw [← hq] at HC
  have HZ := Lib.hid (show z = eno (decide (q ≠ 0) && decide (n = q)) 50 from by rw [hz, chkB, hq])
  rw [← hz, ← hM]
  have HM := Lib.hid hM
  have HNW : Hid (∀ w : World, MB (w.alloc (.cells M 35)) w.heap.size s k (.slice A n c) f) := Lib.hid fun w : World => by rw [hM]; exact heap_alloc_new w _
  clear hz hM hq
  go_enter Try.func48, Try.ntmps48
  go_upto_region 1 with (fail)
  obtain ⟨W0, hW0⟩ : ∃ W0, W0 = w.alloc (.cells M 35) := ⟨_, rfl⟩
  change Code.wp _ _ _ _ (w.alloc (.cells M 35))
  rw [← hW0]
  have HB0 := Lib.hid (show Below w.heap.size w W0 from by rw [hW0]; exact (by repeat (first | exact Below.refl _ _ | assumption | refine below_drewN ?_ _ | refine Below.drew ?_ | refine Below.alloc ?_ (by simp; try omega) _ | refine Below.setCell ?_ (by simp; try omega) _)))
  have HMB := Lib.hid (show MB W0 w.heap.size s k (.slice A n c) f from by rw [hW0]; exact HNW.out w)
  obtain ⟨g, hg⟩ : ∃ g, g = w.heap.size := ⟨_, rfl⟩
  rw [← hg] at HMB ⊢
  have HG := Lib.hid hg
  clear hg hW0 HNW
  have c0 := HMB.out.c0
  have c1 := HMB.out.c1
  have c2 := HMB.out.c2
  go_wp2_with fail
  refine (HC.out W0).mono ?_
  rintro e w' ⟨rfl, hw⟩
  have hw2 := hw.symm
  clear hw
  subst hw2
  by_cases hq0 : q = 0
  · have HE := Lib.hid (show z = 50 from by rw [HZ.out, hq0]; rfl)
    have d1 : ((q : Int) == 0) = true := by rw [hq0]; rfl
    clear hq0
    go_wp2_with fail
    go_ret
    exact ⟨by rw [HE.out]; rfl, HB0.out⟩
  · have d1 : ((q : Int) == 0) = false := by simp; omega
    by_cases hn : n = q
    · have HE := Lib.hid (show z = 0 from by rw [HZ.out, hn]; simp [hq0, eno])
      have d2 : ((n : Int) != (q : Int)) = false := by rw [hn]; simp
      clear hn hq0
      go_wp2_with fail
      go_ret
      exact ⟨by rw [HE.out]; rfl, HB0.out⟩
    · have HE := Lib.hid (show z = 50 from by rw [HZ.out]; simp [hn, eno])
      have d2 : ((n : Int) != (q : Int)) = true := by simp; omega
      have d3 : (n != q) = true := by simp; omega
      clear hn hq0
      go_wp2_with fail
      go_ret
      exact ⟨by rw [HE.out]; rfl, HB0.out⟩
end Go.Proofs.Ytmpbimechgelfaa

/- The reader's Int. -/
import Derived.Test.YtbnlobfhcanbgaaReads
namespace Go.Proofs.Ytbnlobfhcanbgaa
open Go Go.RowKit

/-- What a reader answers that reads a number, and what it has left. -/
def intR (least most : Int) : Option (List Nat) → Int × Option (List Nat)
  | none => (0, none)
  | some l => match num 0 true l with
    | some (u, r) => if least ≤ unzz u ∧ unzz u ≤ most then (unzz u, some r) else (0, none)
    | none => (0, none)
theorem intR_yes {l r : List Nat} {u : Nat} {least most : Int} (h : num 0 true l = some (u, r)) (h1 : least ≤ unzz u) (h2 : unzz u ≤ most) : intR least most (some l) = (unzz u, some r) := by
  unfold intR; simp only [h]; rw [if_pos ⟨h1, h2⟩]
theorem intR_no {l : List Nat} {least most : Int} (h : ∀ u r, num 0 true l = some (u, r) → ¬ (least ≤ unzz u ∧ unzz u ≤ most)) : intR least most (some l) = (0, none) := by
  cases hn : num 0 true l with
  | none => unfold intR; simp only [hn]
  | some ur => obtain ⟨u, r⟩ := ur; unfold intR; simp only [hn]; rw [if_neg (h u r hn)]
/-- How the closure of Int ends. -/
def Int1 (p q3 : Nat) (l : List Nat) (least most : Int) (w : World) (e : Ending) (w' : World) : Prop :=
  (e = .returned (.tuple #[]) ∧ ∃ r w1, (intR least most (some l)) = ((intR least most (some l)).1, some r) ∧ w.grownBy w1 (some p) ∧ RS w1 p (some r) ∧ w' = w1.setCell ⟨q3, 0, none⟩ (.int .i64 (intR least most (some l)).1)) ∨
  (intR least most (some l) = (0, none) ∧ e = .panicked lostChain ∧ Left w p w')
set_option maxHeartbeats 1000000 in
theorem int1 (p c q0 q1 q2 q3 : Nat) (A : Option Addr) (l : List Nat) (least most : Int) (v3 : Value) (w : World) (hR : Rr w p A c l false) (hl : l.length ≤ 1000000) (hf1 : Fit least) (hf2 : Fit most)
    (h0 : w.cell? ⟨q0, 0, none⟩ = some (.pointer (some ⟨p, 0, none⟩))) (h1 : w.cell? ⟨q1, 0, none⟩ = some (.int .i64 least)) (h2 : w.cell? ⟨q2, 0, none⟩ = some (.int .i64 most)) (h3 : w.heap[q3]? = some (.cells #[v3] 2 (0, 0))) (hq3 : p < q3) :
    Calls Try.prog 40 #[.pointer (some ⟨q0, 0, none⟩), .pointer (some ⟨q1, 0, none⟩), .pointer (some ⟨q2, 0, none⟩), .pointer (some ⟨q3, 0, none⟩)] w (Int1 p q3 l least most w) := by
  have H := Lib.hid (number_any p c A l least most w hR hl hf1 hf2)
  have hlt := lt_of_block h3
  have hp := hR.lt
  have HR := Lib.hid hR
  clear hR hl
  go_enter Try.func40, Try.ntmps40
  go_wp2_with fail
  refine (Hid.out H).mono ?_
  rintro e w' (⟨u, r, A', c', hn, hb1, hb2, rfl, hg, hR'⟩ | ⟨hno, rfl, hL⟩)
  · have hI := Lib.hid (intR_yes hn hb1 hb2)
    have hblk := (hg.block q3 hlt (fun e => by injection e with e; omega)).trans h3
    have hc := cell_of_one hblk
    have hf := free_of_one hblk
    have HX := Lib.hid hR'
    clear hR' hn hb1 hb2
    go_wp2
    go_end0
    exact .inl ⟨rfl, r, w', by rw [hI.out], hg, ⟨A', c', HX.out⟩, by rw [hI.out]⟩
  · exact ⟨rfl, .inr ⟨intR_no hno, rfl, hL⟩⟩
theorem alloc_at (w : World) (o : Obj) (k : Nat) : (w.alloc o).heap[k]? = if k = w.heap.size then some o else w.heap[k]? := by
  simp only [World.alloc, Array.getElem?_push]
theorem alloc_old {w : World} {o x : Obj} {k : Nat} (h : w.heap[k]? = some x) : (w.alloc o).heap[k]? = some x := by
  have := lt_of_block h
  rw [alloc_at, if_neg (by omega), h]
theorem alloc_new (w : World) (o : Obj) (k : Nat) (h : k = w.heap.size) : (w.alloc o).heap[k]? = some o := by
  rw [alloc_at, if_pos h]
theorem alloc_size (w : World) (o : Obj) : (w.alloc o).heap.size = w.heap.size + 1 := by simp
theorem kept_other (w : World) (p q : Nat) (h : q ≠ p) : (Proofs.Ytbnlobfhcanbgaa.kept p w).heap[q]? = w.heap[q]? :=
  (heap_setCell_other _ ⟨p, 1, none⟩ q _ h).trans (heap_setCell_other _ ⟨p, 0, none⟩ q _ h)
/-- How Int ends. -/
def IntEnd (p : Nat) (x : Int × Option (List Nat)) (w : World) (e : Ending) (w' : World) : Prop :=
  e = .returned (.int .i64 x.1) ∧ w.grownBy w' (some p) ∧ RS w' p x.2
/-- What is so behind the guard of Int. -/
def IntMid (p q : Nat) (x : Int × Option (List Nat)) (w w' : World) : Prop :=
  w.grownBy w' (some p) ∧ RS w' p x.2 ∧ w'.heap[q]? = some (.cells #[.int .i64 x.1] 2 (0, 0))
theorem int_guarded (p N : Nat) (s : Option (List Nat)) (least most : Int) (a w : World) (ha : a.heap.size = N) (hag : a.grownBy w (some p)) (h : RS w p s) (hpN : p < N) (hl : ∀ l, s = some l → l.length ≤ 1000000) (hf1 : Fit least) (hf2 : Fit most)
    (h0 : w.heap[N]? = some (.cells #[.pointer (some ⟨p, 0, none⟩)] 41 (0, 0))) (h1 : w.heap[N + 1]? = some (.cells #[.int .i64 least] 2 (0, 0))) (h2 : w.heap[N + 1 + 1]? = some (.cells #[.int .i64 most] 2 (0, 0))) (h3 : w.heap[N + 1 + 1 + 1]? = some (.cells #[.int .i64 0] 2 (0, 0))) :
    Calls Try.prog 33 #[.pointer (some ⟨p, 0, none⟩), .func (.func 40) #[] #[.pointer (some ⟨N, 0, none⟩), .pointer (some ⟨N + 1, 0, none⟩), .pointer (some ⟨N + 1 + 1, 0, none⟩), .pointer (some ⟨N + 1 + 1 + 1, 0, none⟩)]] w fun e w' => e = .returned (.tuple #[]) ∧ IntMid p (N + 1 + 1 + 1) (intR least most s) a w' := by
  have hg5 := only_trans hag (grown_alloc w (.cells #[.pointer (some ⟨p, 0, none⟩)] 41) (some p))
  refine guard_rs p s 40 _ _ _ (enter40 _) h ?_ ?_
  · rintro rfl
    exact ⟨hg5, h.alloc _, alloc_old h3⟩
  · rintro l A c rfl hR
    refine (int1 p c N (N + 1) (N + 1 + 1) (N + 1 + 1 + 1) A l least most _ _ (hR.alloc _) (hl l rfl) hf1 hf2 (cell_of_one (alloc_old h0)) (cell_of_one (alloc_old h1)) (cell_of_one (alloc_old h2)) (alloc_old h3) (by omega)).mono ?_
    rintro e w' (⟨rfl, r, w1, he, hg, hr, rfl⟩ | ⟨he, rfl, hL⟩)
    · left
      have hb := (hg.block (N + 1 + 1 + 1) (lt_of_block (alloc_old h3)) (fun e => by injection e with e; omega)).trans (alloc_old h3)
      refine ⟨rfl, grown_far (k := N) _ _ (by omega) _ (by omega) (only_trans hg5 hg), ?_, ?_⟩
      · rw [he]; exact hr.far _ (by omega) _
      · simp [World.setCell, Array.getElem?_modify, hb]
    · right
      have hg6 := only_trans hg5 hL.1
      have hb := (hL.1.block (N + 1 + 1 + 1) (lt_of_block (alloc_old h3)) (fun e => by injection e with e; omega)).trans (alloc_old h3)
      refine ⟨rfl, hL, kept_grown hg6, ?_, ?_⟩
      · rw [he]; exact RS.kept hL
      · rw [he, kept_other _ _ _ (by omega)]; exact hb
set_option maxHeartbeats 1000000 in
theorem int_any (p : Nat) (s : Option (List Nat)) (least most : Int) (w : World) (h : RS w p s) (hl : ∀ l, s = some l → l.length ≤ 1000000) (hf1 : Fit least) (hf2 : Fit most) :
    Calls Try.prog 26 #[.pointer (some ⟨p, 0, none⟩), .int .i64 least, .int .i64 most] w (IntEnd p (intR least most s) w) := by
  have hlt := h.lt
  have HL := Lib.hid hl
  clear hl
  go_enter Try.func26, Try.ntmps26
  go_wp2_with fail
  refine (int_guarded p w.heap.size s least most w _ rfl (only_trans (only_trans (only_trans (grown_alloc _ _ _) (grown_alloc _ _ _)) (grown_alloc _ _ _)) (grown_alloc _ _ _)) ((((h.alloc _).alloc _).alloc _).alloc _) hlt HL.out hf1 hf2 ?_ ?_ ?_ ?_).mono ?_
  · exact alloc_old (alloc_old (alloc_old (alloc_new _ _ _ rfl)))
  · exact alloc_old (alloc_old (alloc_new _ _ _ (by simp)))
  · exact alloc_old (alloc_new _ _ _ (by simp))
  · exact alloc_new _ _ _ (by simp)
  · rintro e w' ⟨rfl, hg, hr, hb⟩
    have hc := cell_of_one hb
    have hf := free_of_one hb
    have HG := Lib.hid hg
    have HR := Lib.hid hr
    have HB := Lib.hid hb
    clear hg hr hb
    go_wp2
    refine bodyPost_ret (v := .int .i64 (intR least most s).1) (by simp [results, Try.results26, go_sem, hc]) rfl ?_
    exact ⟨rfl, grown_far (k := w.heap.size) _ _ (by omega) _ (Nat.le_refl _) HG.out, HR.out.far _ (by omega) _⟩
end Go.Proofs.Ytbnlobfhcanbgaa

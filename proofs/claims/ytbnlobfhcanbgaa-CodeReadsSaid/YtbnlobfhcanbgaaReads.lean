/- The reader's Need, Int and Done. -/
import Derived.Test.YtbnlobfhcanbgaaGuard
namespace Go.Proofs.Ytbnlobfhcanbgaa
open Go Go.RowKit

/-- The reader at block p: gave up, or has some bytes left. -/
def RS (w : World) (p : Nat) : Option (List Nat) → Prop
  | some l => ∃ A c, Rr w p A c l false
  | none => w.heap[p]? = some (.cells #[.slice none 0 0, .bool true] 67 (0, 0))
section
variable {w w' : World} {p : Nat} {s : Option (List Nat)}
theorem RS.lt (h : RS w p s) : p < w.heap.size := by
  cases s with
  | none => exact lt_of_block h
  | some l => obtain ⟨A, c, h⟩ := h; exact h.lt
theorem RS.below (h : RS w p s) (hb : Below w.heap.size w w') : RS w' p s := by
  cases s with
  | none => exact (hb.block p (lt_of_block h)).trans h
  | some l => obtain ⟨A, c, h⟩ := h; exact ⟨A, c, h.below hb⟩
theorem RS.alloc (h : RS w p s) (o : Obj) : RS (w.alloc o) p s := h.below ((Below.refl _ _).alloc (Nat.le_refl _) o)
theorem RS.far (h : RS w p s) (q : Nat) (hq : p < q) (u : Value) : RS (w.setCell ⟨q, 0, none⟩ u) p s := by
  cases s with
  | none =>
    have := lt_of_block h
    exact (heap_setCell_other w ⟨q, 0, none⟩ p u (by simp; omega)).trans h
  | some l =>
    obtain ⟨A, c, h⟩ := h
    refine ⟨A, c, (heap_setCell_other w ⟨q, 0, none⟩ p u (by simp; omega)).trans h.blk, ?_, h.cap, h.none_, h.byt⟩
    exact h.bytes.below ((Below.refl _ _).setCell (Nat.le_of_lt hq) u)
theorem RS.kept (h : Left w p w') : RS (kept p w') p none := by
  obtain ⟨_, v, hv⟩ := h
  exact (set2 (set2 hv).1).2
theorem kept_grown (h : w.grownBy w' (some p)) : w.grownBy (Proofs.Ytbnlobfhcanbgaa.kept p w') (some p) := only_trans (only_trans h (only_set _ p 0 _)) (only_set _ p 1 _)
theorem grown_alloc (w : World) (o : Obj) (r : Option Nat) : w.grownBy (w.alloc o) r := only_below ((Below.refl _ _).alloc (Nat.le_refl _) o) r
theorem grown_far (w : World) {k q : Nat} (r : Option Nat) (hq : k ≤ q) (u : Value) {a : World} (ha : a.heap.size ≤ k) (h : a.grownBy w r) : a.grownBy (w.setCell ⟨q, 0, none⟩ u) r :=
  ⟨h.os, h.tape, h.output, by simpa using h.size, fun i hi hr => (heap_setCell_other w ⟨q, 0, none⟩ i u (by simp; omega)).trans (h.block i hi hr)⟩
end
theorem guard_rs (p : Nat) (s : Option (List Nat)) (k : Nat) (caps : Array Value) (w : World) (Q : World → Prop) (hin : ∀ w, (callFunc k caps).run Try.prog w = .ok (.enter k caps) w) (h : RS w p s)
    (hlost : s = none → Q (w.alloc (.cells #[.pointer (some ⟨p, 0, none⟩)] 41)))
    (hlive : ∀ l A c, s = some l → Rr w p A c l false → Calls Try.prog k caps (w.alloc (.cells #[.pointer (some ⟨p, 0, none⟩)] 41)) (GEnd p Q (w.alloc (.cells #[.pointer (some ⟨p, 0, none⟩)] 41)))) :
    Calls Try.prog 33 #[.pointer (some ⟨p, 0, none⟩), .func (.func k) #[] caps] w fun e w' => e = .returned (.tuple #[]) ∧ Q w' := by
  cases s with
  | none =>
    refine (guard_lost p _ k caps w h).mono ?_
    rintro e w' ⟨rfl, rfl⟩
    exact ⟨rfl, hlost rfl⟩
  | some l =>
    obtain ⟨A, c, h⟩ := h
    exact guard_live p _ k caps w Q hin h.blk (hlive l A c rfl h)

theorem need1 (q : Nat) (is : Bool) (w : World) (h : w.cell? ⟨q, 0, none⟩ = some (.bool is)) :
    Calls Try.prog 38 #[.pointer (some ⟨q, 0, none⟩)] w fun e w' => (is = true → e = .returned (.tuple #[])) ∧ (is = false → e = .panicked lostChain) ∧ w' = w := by
  cases is with
  | true =>
    go_enter Try.func38, Try.ntmps38
    go_wp2_with (go_at_call 39; refine (must_yes _).mono ?_; rintro e w' ⟨rfl, rfl⟩)
    go_end0
    exact ⟨fun _ => rfl, (fun h => by cases h), rfl⟩
  | false =>
    go_enter Try.func38, Try.ntmps38
    go_wp2_with (go_at_call 39; refine (must_no _).mono ?_; rintro e w' ⟨rfl, rfl⟩)
    exact ⟨rfl, (fun h => by cases h), fun _ => rfl, rfl⟩
/-- What a reader has left that needs something. -/
def needR (is : Bool) (s : Option (List Nat)) : Option (List Nat) := if is then s else none
theorem need_any (p : Nat) (s : Option (List Nat)) (is : Bool) (w : World) (h : RS w p s) :
    Calls Try.prog 25 #[.pointer (some ⟨p, 0, none⟩), .bool is] w fun e w' => e = .returned (.tuple #[]) ∧ w.grownBy w' (some p) ∧ RS w' p (needR is s) := by
  have hlt := h.lt
  go_enter Try.func25, Try.ntmps25
  go_wp2_with fail
  refine (guard_rs p s 38 _ _ (fun w' => w.grownBy w' (some p) ∧ RS w' p (needR is s)) (enter38 _) (h.alloc _) ?_ ?_).mono ?_
  · rintro rfl
    refine ⟨only_trans (grown_alloc w _ _) (grown_alloc _ _ _), ?_⟩
    have : needR is none = none := by cases is <;> rfl
    rw [this]
    exact (h.alloc _).alloc _
  · rintro l A c rfl hR
    refine (need1 w.heap.size is _ (by simp [go_sem])).mono ?_
    rintro e w' ⟨hy, hn, rfl⟩
    have hg := only_trans (grown_alloc w (.cells #[.bool is] 4) (some p)) (grown_alloc (w.alloc (.cells #[.bool is] 4)) (.cells #[.pointer (some ⟨p, 0, none⟩)] 41) (some p))
    cases is with
    | true => exact .inl ⟨hy rfl, hg, (h.alloc _).alloc _⟩
    | false =>
      have hL := Rr.left (World.grownBy.refl _ _) (hR.alloc (.cells #[.pointer (some ⟨p, 0, none⟩)] 41))
      exact .inr ⟨hn rfl, hL, kept_grown hg, RS.kept hL⟩
  · rintro e w' ⟨rfl, hg, hr⟩
    go_wp2
    go_end0
    exact ⟨rfl, hg, hr⟩
/-- Whether all was read. -/
def doneR : Option (List Nat) → Int
  | some [] => 0
  | _ => 20
theorem done_any (p : Nat) (s : Option (List Nat)) (w : World) (h : RS w p s) :
    Calls Try.prog 21 #[.pointer (some ⟨p, 0, none⟩)] w fun e w' => e = .returned (.int .i64 (doneR s)) ∧ w' = w := by
  cases s with
  | none =>
    obtain ⟨hc0, hc1, -, -⟩ := cell2 h
    go_enter Try.func21, Try.ntmps21
    go_wp2
    all_goals go_ret
    all_goals exact ⟨rfl, rfl⟩
  | some l =>
    obtain ⟨A, c, h⟩ := h
    obtain ⟨hc0, hc1, -, -⟩ := cell2 h.blk
    cases l with
    | nil =>
      go_enter Try.func21, Try.ntmps21
      go_wp2
      all_goals go_ret
      all_goals exact ⟨rfl, rfl⟩
    | cons x l =>
      go_enter Try.func21, Try.ntmps21
      go_wp2
      all_goals go_ret
      all_goals exact ⟨rfl, rfl⟩
theorem new_any (A : Option Addr) (c : Nat) (l : List Nat) (w : World) :
    Calls Try.prog 19 #[.slice A l.length c] w fun e w' => e = .returned (.pointer (some ⟨w.heap.size, 0, none⟩)) ∧ w' = w.alloc (.cells #[.slice A l.length c, .bool false] 67) := by
  go_enter Try.func19, Try.ntmps19
  go_wp2
  go_ret
  exact ⟨rfl, rfl⟩
end Go.Proofs.Ytbnlobfhcanbgaa

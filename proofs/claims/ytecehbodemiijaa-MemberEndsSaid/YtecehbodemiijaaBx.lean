/- The contracts of member's functions with their answers named; a box that holds a member; small laws. -/
import Derived.Test.YtecehbodemiijaaAllRd
namespace Go.Proofs.Ytecehbodemiijaa
open Go.ChangeShapes Go.WideShapes Go.ChangeAt Go.RowKit Go.Joins Go.Deep

theorem check_yes (a : M) (h : may a = true) (w : World) : Calls Try.prog 11 #[.agg #[.int .i64 a.inc, .int .i64 a.st]] w
    fun e w' => e = .returned (.int .i64 0) ∧ Below w.heap.size w w' := (check_any a w).mono fun _ _ ⟨h1, h2⟩ => ⟨by rw [h1, h]; rfl, h2⟩
theorem check_no (a : M) (h : may a = false) (w : World) : Calls Try.prog 11 #[.agg #[.int .i64 a.inc, .int .i64 a.st]] w
    fun e w' => e = .returned (.int .i64 1) ∧ Below w.heap.size w w' := (check_any a w).mono fun _ _ ⟨h1, h2⟩ => ⟨by rw [h1, h]; rfl, h2⟩
theorem join_is (a b r : M) (h : jn a b = r) (w : World) : Calls Try.prog 13 #[.agg #[.int .i64 a.inc, .int .i64 a.st], .agg #[.int .i64 b.inc, .int .i64 b.st]] w
    fun e w' => e = .returned (.agg #[.int .i64 r.inc, .int .i64 r.st]) ∧ Below w.heap.size w w' := (join_any a b w).mono fun _ _ ⟨h1, h2⟩ => ⟨by rw [h1, h]; rfl, h2⟩
theorem speak_is (a b r : M) (hb : b.fits) (h : spk a b = r) (w : World) : Calls Try.prog 15 #[.agg #[.int .i64 a.inc, .int .i64 a.st], .agg #[.int .i64 b.inc, .int .i64 b.st]] w
    fun e w' => e = .returned (.agg #[.int .i64 r.inc, .int .i64 r.st]) ∧ Below w.heap.size w w' := (speak_any a b w hb).mono fun _ _ ⟨h1, h2⟩ => ⟨by rw [h1, h]; rfl, h2⟩
theorem suspect_is (a r : M) (h : sus a = r) (w : World) : Calls Try.prog 17 #[.agg #[.int .i64 a.inc, .int .i64 a.st]] w
    fun e w' => e = .returned (.agg #[.int .i64 r.inc, .int .i64 r.st]) ∧ Below w.heap.size w w' := (suspect_any a w).mono fun _ _ ⟨h1, h2⟩ => ⟨by rw [h1, h]; rfl, h2⟩
theorem bury_is (a r : M) (h : bur a = r) (w : World) : Calls Try.prog 19 #[.agg #[.int .i64 a.inc, .int .i64 a.st]] w
    fun e w' => e = .returned (.agg #[.int .i64 r.inc, .int .i64 r.st]) ∧ Below w.heap.size w w' := (bury_any a w).mono fun _ _ ⟨h1, h2⟩ => ⟨by rw [h1, h]; rfl, h2⟩
theorem may_of (m : M) (h : may m = true) : 0 ≤ m.inc ∧ m.inc ≤ 1099511627776 ∧ 0 ≤ m.st ∧ m.st ≤ 2 := by
  unfold may at h
  exact of_decide_eq_true h
theorem spk_alive (ai : Int) (b : M) : ∃ si, spk ⟨ai, 0⟩ b = ⟨si, 0⟩ := by
  unfold spk
  (repeat' split) <;> exact ⟨_, rfl⟩
theorem may_mk (m : M) (h : 0 ≤ m.inc ∧ m.inc ≤ 1099511627776 ∧ 0 ≤ m.st ∧ m.st ≤ 2) : may m = true := decide_eq_true h

theorem bool_beq_false {a b : Int} (h : a ≠ b) : (a == b) = false := by simpa using h
/-- The box at block p holds the member m. -/
def Bx (w : World) (p : Nat) (m : M) : Prop := w.cell? ⟨p, 0, none⟩ = some (.int .i64 m.inc) ∧ w.cell? ⟨p, 1, none⟩ = some (.int .i64 m.st)
section
variable {w w' : World} {p : Nat} {m : M}
theorem Bx.lt (h : Bx w p m) : p < w.heap.size := World.block_lt_of_cell? w ⟨p, 0, none⟩ h.1
theorem Bx.next (h : Bx w p m) (hb : Below w.heap.size w w') : Bx w' p m := ⟨(hb.cell (p := ⟨p, 0, none⟩) h.lt).trans h.1, (hb.cell (p := ⟨p, 1, none⟩) h.lt).trans h.2⟩
theorem Bx.alloc (h : Bx w p m) (o : Obj) : Bx (w.alloc o) p m := h.next ((Below.refl _ _).alloc (Nat.le_refl _) o)
theorem Bx.drew (h : Bx w p m) : Bx w.drew p m := h
theorem Bx.new (w : World) (m : M) (t : Nat) : Bx (w.alloc (.cells #[.int .i64 m.inc, .int .i64 m.st] t)) w.heap.size m := by
  constructor <;> (rw [cell_of_row _ _ _ _ _ _ (heap_alloc_new w _)]; rfl)
end
theorem spk_law (ai : Int) (b s : M) (ha : may ⟨ai, 0⟩ = true) (hb : may b = true) (hk : ¬ b.inc = 1099511627776) (hs : spk ⟨ai, 0⟩ b = s) :
    may s = true ∧ jn s ⟨ai, 0⟩ = s ∧ (jn s b = s ∨ (b.st = 0 ∧ jn s b = b ∧ ¬ b.inc = s.inc)) := by
  have h1 := may_of _ ha
  have h2 := may_of _ hb
  obtain ⟨bi, bs⟩ := b
  simp only at h1 h2 hk
  subst hs
  unfold spk jn
  simp only
  by_cases c1 : bi < ai ∨ bs = 0
  · rw [if_pos c1]
    refine ⟨ha, by rw [if_neg (by first | omega | (simp only; omega))], ?_⟩
    by_cases c2 : bi > ai
    · right
      refine ⟨by first | omega | (simp only; omega), by rw [if_pos (by first | omega | (simp only; omega))], by first | omega | (simp only; omega)⟩
    · left
      rw [if_neg (by first | omega | (simp only; omega))]
  · rw [if_neg c1, if_neg (by omega)]
    refine ⟨may_mk _ (by first | omega | (simp only; omega)), by rw [if_neg (by first | omega | (simp only; omega))], .inl (by rw [if_neg (by first | omega | (simp only; omega))])⟩
theorem sus_law (b : M) (hb : may b = true) : may (sus b) = true ∧ jn (sus b) b = sus b := by
  have h2 := may_of _ hb
  obtain ⟨bi, bs⟩ := b
  simp only at h2
  unfold sus
  simp only
  by_cases c : bs = 0
  · rw [if_pos c]
    exact ⟨may_mk _ (by first | omega | (simp only; omega)), by unfold jn; rw [if_neg (by first | omega | (simp only; omega))]⟩
  · rw [if_neg c]
    exact ⟨hb, jn_self _⟩
theorem bur_law (b : M) (hb : may b = true) : may (bur b) = true ∧ jn (bur b) b = bur b := by
  have h2 := may_of _ hb
  obtain ⟨bi, bs⟩ := b
  simp only at h2
  unfold bur
  simp only
  by_cases c : bs = 1
  · rw [if_pos c]
    exact ⟨may_mk _ (by first | omega | (simp only; omega)), by unfold jn; rw [if_neg (by first | omega | (simp only; omega))]⟩
  · rw [if_neg c]
    exact ⟨hb, jn_self _⟩

end Go.Proofs.Ytecehbodemiijaa

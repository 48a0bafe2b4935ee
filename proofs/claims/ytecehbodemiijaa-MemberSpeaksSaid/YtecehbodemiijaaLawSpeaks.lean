/- MemberSpeaks holds: what a node says of itself comes behind what it heard, and what it said before, and is alive; what is suspected, or buried, comes no earlier than it was; each of them may be. Conditions: none. -/
import Derived.Test.YtecehbodemiijaaAllRd
namespace Go.Proofs.Ytecehbodemiijaa
open Go.ChangeShapes Go.WideShapes Go.ChangeAt Go.RowKit Go.Joins Go.Deep

theorem check_yes (a : M) (h : may a = true) (w : World) : Calls Try.prog 11 #[.agg #[.int .i64 a.inc, .int .i64 a.st]] w
    fun e w' => e = .returned (.int .i64 0) ∧ Below w.heap.size w w' := (check_any a w).mono fun _ _ ⟨h1, h2⟩ => ⟨by rw [h1, h]; rfl, h2⟩
theorem check_no (a : M) (h : may a = false) (w : World) : Calls Try.prog 11 #[.agg #[.int .i64 a.inc, .int .i64 a.st]] w
    fun e w' => e = .returned (.int .i64 1) ∧ Below w.heap.size w w' := (check_any a w).mono fun _ _ ⟨h1, h2⟩ => ⟨by rw [h1, h]; rfl, h2⟩
theorem join_is (a b r : M) (h : jn a b = r) (w : World) : Calls Try.prog 13 #[.agg #[.int .i64 a.inc, .int .i64 a.st], .agg #[.int .i64 b.inc, .int .i64 b.st]] w
    fun e w' => e = .returned (.agg #[.int .i64 r.inc, .int .i64 r.st]) ∧ Below w.heap.size w w' := (join_any a b w).mono fun _ _ ⟨h1, h2⟩ => ⟨by rw [h1, h]; rfl, h2⟩
theorem speak_is (a b r : M) (hb : b.fits) (h : spk a b = r) (w : World) : Calls Try.prog 15 #[.agg #[.int .i64 a.inc, .int .i64 a.st], .agg #[.int .i64 b.inc, .int .i64 b.st]] w
    fun e w' => e = .returned (.agg #[.int .i64 r.inc, .int .i64 r.st]) ∧ Below w.heap.size w w' := (speak_any a b w hb).mono fun _ _ ⟨h1, h2⟩ => ⟨by rw [h1, h]; rfl, h2⟩
theorem suspect_is (a r : M) (h : sus a = r) (w : World) : Calls Try.prog 17 #[.agg #[.int .i64 a.inc, .int .i64 a.st]] w
    fun e w' => e = .returned (.agg #[.int .i64 r.inc, .int .i64 r.st]) ∧ Below w.heap.size w w' := (suspect_any a w).mono fun _ _ ⟨h1, h2⟩ => ⟨by rw [h1, h]; rfl, h2⟩
theorem bury_is (a r : M) (h : bur a = r) (w : World) : Calls Try.prog 19 #[.agg #[.int .i64 a.inc, .int .i64 a.st]] w
    fun e w' => e = .returned (.agg #[.int .i64 r.inc, .int .i64 r.st]) ∧ Below w.heap.size w w' := (bury_any a w).mono fun _ _ ⟨h1, h2⟩ => ⟨by rw [h1, h]; rfl, h2⟩
theorem may_of (m : M) (h : may m = true) : 0 ≤ m.inc ∧ m.inc ≤ 1099511627776 ∧ 0 ≤ m.st ∧ m.st ≤ 2 := by
  unfold may at h
  exact of_decide_eq_true h
theorem spk_alive (ai : Int) (b : M) : ∃ si, spk ⟨ai, 0⟩ b = ⟨si, 0⟩ := by
  unfold spk
  (repeat' split) <;> exact ⟨_, rfl⟩
theorem may_mk (m : M) (h : 0 ≤ m.inc ∧ m.inc ≤ 1099511627776 ∧ 0 ≤ m.st ∧ m.st ≤ 2) : may m = true := decide_eq_true h

theorem bool_beq_false {a b : Int} (h : a ≠ b) : (a == b) = false := by simpa using h
/-- The box at block p holds the member m. -/
def Bx (w : World) (p : Nat) (m : M) : Prop := w.cell? ⟨p, 0, none⟩ = some (.int .i64 m.inc) ∧ w.cell? ⟨p, 1, none⟩ = some (.int .i64 m.st)
section
variable {w w' : World} {p : Nat} {m : M}
theorem Bx.lt (h : Bx w p m) : p < w.heap.size := World.block_lt_of_cell? w ⟨p, 0, none⟩ h.1
theorem Bx.next (h : Bx w p m) (hb : Below w.heap.size w w') : Bx w' p m := ⟨(hb.cell (p := ⟨p, 0, none⟩) h.lt).trans h.1, (hb.cell (p := ⟨p, 1, none⟩) h.lt).trans h.2⟩
theorem Bx.alloc (h : Bx w p m) (o : Obj) : Bx (w.alloc o) p m := h.next ((Below.refl _ _).alloc (Nat.le_refl _) o)
theorem Bx.drew (h : Bx w p m) : Bx w.drew p m := h
theorem Bx.new (w : World) (m : M) (t : Nat) : Bx (w.alloc (.cells #[.int .i64 m.inc, .int .i64 m.st] t)) w.heap.size m := by
  constructor <;> (rw [cell_of_row _ _ _ _ _ _ (heap_alloc_new w _)]; rfl)
end
theorem spk_law (ai : Int) (b s : M) (ha : may ⟨ai, 0⟩ = true) (hb : may b = true) (hk : ¬ b.inc = 1099511627776) (hs : spk ⟨ai, 0⟩ b = s) :
    may s = true ∧ jn s ⟨ai, 0⟩ = s ∧ (jn s b = s ∨ (b.st = 0 ∧ jn s b = b ∧ ¬ b.inc = s.inc)) := by
  have h1 := may_of _ ha
  have h2 := may_of _ hb
  obtain ⟨bi, bs⟩ := b
  simp only at h1 h2 hk
  subst hs
  unfold spk jn
  simp only
  by_cases c1 : bi < ai ∨ bs = 0
  · rw [if_pos c1]
    refine ⟨ha, by rw [if_neg (by first | omega | (simp only; omega))], ?_⟩
    by_cases c2 : bi > ai
    · right
      refine ⟨by first | omega | (simp only; omega), by rw [if_pos (by first | omega | (simp only; omega))], by first | omega | (simp only; omega)⟩
    · left
      rw [if_neg (by first | omega | (simp only; omega))]
  · rw [if_neg c1, if_neg (by omega)]
    refine ⟨may_mk _ (by first | omega | (simp only; omega)), by rw [if_neg (by first | omega | (simp only; omega))], .inl (by rw [if_neg (by first | omega | (simp only; omega))])⟩
theorem sus_law (b : M) (hb : may b = true) : may (sus b) = true ∧ jn (sus b) b = sus b := by
  have h2 := may_of _ hb
  obtain ⟨bi, bs⟩ := b
  simp only at h2
  unfold sus
  simp only
  by_cases c : bs = 0
  · rw [if_pos c]
    exact ⟨may_mk _ (by first | omega | (simp only; omega)), by unfold jn; rw [if_neg (by first | omega | (simp only; omega))]⟩
  · rw [if_neg c]
    exact ⟨hb, jn_self _⟩
theorem bur_law (b : M) (hb : may b = true) : may (bur b) = true ∧ jn (bur b) b = bur b := by
  have h2 := may_of _ hb
  obtain ⟨bi, bs⟩ := b
  simp only at h2
  unfold bur
  simp only
  by_cases c : bs = 1
  · rw [if_pos c]
    exact ⟨may_mk _ (by first | omega | (simp only; omega)), by unfold jn; rw [if_neg (by first | omega | (simp only; omega))]⟩
  · rw [if_neg c]
    exact ⟨hb, jn_self _⟩

set_option maxRecDepth 100000 in
set_option maxHeartbeats 4000000 in
theorem memberSpeaks_walk (w : World) (a : M) (_fa : a.fits) (b : M) (fb : b.fits) : Calls Try.prog 7 #[a.v, b.v] w fun e w' => e = .returned (.bool true) ∧ Below w.heap.size w w' := by
  simp only [M.v]
  have FB := Lib.hid fb
  clear fb _fa
  cases ha : may a with
  | false =>
    have HA := Lib.hid ha
    clear ha
    go_enter Try.func7, Try.ntmps7
    go_wp2_with fail
    refine (awake_any _).mono ?_
    rintro e w1 ⟨rfl, hb1⟩
    have x0 : Bx w1 (w.heap.size) a := ((Bx.new w a 24).alloc _).next hb1
    have x1 : Bx w1 (w.heap.size + 1) b := by
      have := (Bx.new (w.alloc (Obj.cells #[Value.int IntKind.i64 a.inc, Value.int IntKind.i64 a.st] 24)) b 24).next hb1
      rw [World.size_alloc] at this
      exact this
    have hbl : Below w.heap.size w w1 := below_two (Below.refl _ _) hb1
    clear hb1
    have x0l := x0.lt
    have x0a := x0.1
    have x0b := x0.2
    go_wp2_with fail
    clear x0a x0b x0l
    refine (check_no a HA.out _).mono ?_
    rintro e w2 ⟨rfl, hb2⟩
    have hbl := below_chain hbl hb2
    go_wp2
    go_ret
    exact ⟨rfl, hbl⟩
  | true =>
    have HA := Lib.hid ha
    clear ha
    cases hb : may b with
    | false =>
      have HB := Lib.hid hb
      clear hb
      go_enter Try.func7, Try.ntmps7
      go_wp2_with fail
      refine (awake_any _).mono ?_
      rintro e w1 ⟨rfl, hb1⟩
      have x0 : Bx w1 (w.heap.size) a := ((Bx.new w a 24).alloc _).next hb1
      have x1 : Bx w1 (w.heap.size + 1) b := by
        have := (Bx.new (w.alloc (Obj.cells #[Value.int IntKind.i64 a.inc, Value.int IntKind.i64 a.st] 24)) b 24).next hb1
        rw [World.size_alloc] at this
        exact this
      have hbl : Below w.heap.size w w1 := below_two (Below.refl _ _) hb1
      clear hb1
      have x0l := x0.lt
      have x0a := x0.1
      have x0b := x0.2
      go_wp2_with fail
      clear x0a x0b x0l
      refine (check_yes a HA.out _).mono ?_
      rintro e w2 ⟨rfl, hb2⟩
      have x0' := x0.next hb2
      clear x0
      have x0 := x0'
      clear x0'
      have x1' := x1.next hb2
      clear x1
      have x1 := x1'
      clear x1'
      have hbl := below_chain hbl hb2
      have x1l := x1.lt
      have x1a := x1.1
      have x1b := x1.2
      go_wp2_with fail
      clear x1a x1b x1l
      refine (check_no b HB.out _).mono ?_
      rintro e w3 ⟨rfl, hb3⟩
      have hbl := below_chain hbl hb3
      go_wp2
      go_ret
      exact ⟨rfl, hbl⟩
    | true =>
      have HB := Lib.hid hb
      clear hb
      by_cases k1 : b.inc = 1099511627776
      · have k1' : (b.inc == 1099511627776) = true := by simp [k1]
        clear k1
        go_enter Try.func7, Try.ntmps7
        go_wp2_with fail
        refine (awake_any _).mono ?_
        rintro e w1 ⟨rfl, hb1⟩
        have x0 : Bx w1 (w.heap.size) a := ((Bx.new w a 24).alloc _).next hb1
        have x1 : Bx w1 (w.heap.size + 1) b := by
          have := (Bx.new (w.alloc (Obj.cells #[Value.int IntKind.i64 a.inc, Value.int IntKind.i64 a.st] 24)) b 24).next hb1
          rw [World.size_alloc] at this
          exact this
        have hbl : Below w.heap.size w w1 := below_two (Below.refl _ _) hb1
        clear hb1
        have x0l := x0.lt
        have x0a := x0.1
        have x0b := x0.2
        go_wp2_with fail
        clear x0a x0b x0l
        refine (check_yes a HA.out _).mono ?_
        rintro e w2 ⟨rfl, hb2⟩
        have x0' := x0.next hb2
        clear x0
        have x0 := x0'
        clear x0'
        have x1' := x1.next hb2
        clear x1
        have x1 := x1'
        clear x1'
        have hbl := below_chain hbl hb2
        have x1l := x1.lt
        have x1a := x1.1
        have x1b := x1.2
        go_wp2_with fail
        clear x1a x1b x1l
        refine (check_yes b HB.out _).mono ?_
        rintro e w3 ⟨rfl, hb3⟩
        have x0' := x0.next hb3
        clear x0
        have x0 := x0'
        clear x0'
        have x1' := x1.next hb3
        clear x1
        have x1 := x1'
        clear x1'
        have hbl := below_chain hbl hb3
        have x0l := x0.lt
        have x0a := x0.1
        have x0b := x0.2
        have x1l := x1.lt
        have x1a := x1.1
        have x1b := x1.2
        go_wp2
        go_ret
        exact ⟨rfl, hbl⟩
      · have k1' : (b.inc == 1099511627776) = false := by simp [k1]
        have K1 := Lib.hid k1
        clear k1
        by_cases k2 : a.st = 0
        · obtain ⟨ai, as'⟩ := a
          simp only at k2
          subst k2
          obtain ⟨si, hs⟩ : ∃ si, spk ⟨ai, 0⟩ b = ⟨si, 0⟩ := spk_alive ai b
          have HS := Lib.hid hs
          have HL := Lib.hid (spk_law ai b _ HA.out HB.out K1.out hs)
          clear hs
          obtain ⟨x, hx⟩ : ∃ x, x = sus b := ⟨_, rfl⟩
          have HX := Lib.hid hx
          have LX := Lib.hid (sus_law b HB.out)
          clear hx
          obtain ⟨y, hy⟩ : ∃ y, y = bur b := ⟨_, rfl⟩
          have HY := Lib.hid hy
          have LY := Lib.hid (bur_law b HB.out)
          clear hy
          have JX : Hid (jn x b = x) := by rw [HX.out]; exact LX.out.2
          have MX : Hid (may x = true) := by rw [HX.out]; exact LX.out.1
          have JY : Hid (jn y b = y) := by rw [HY.out]; exact LY.out.2
          have MY : Hid (may y = true) := by rw [HY.out]; exact LY.out.1
          clear LX LY
          rcases HL.out.2.2 with hj | hj
          · have HJ := Lib.hid hj
            clear hj
            go_enter Try.func7, Try.ntmps7
            go_wp2_with fail
            refine (awake_any _).mono ?_
            rintro e w1 ⟨rfl, hb1⟩
            have x0 : Bx w1 (w.heap.size) ⟨ai, 0⟩ := ((Bx.new w ⟨ai, 0⟩ 24).alloc _).next hb1
            have x1 : Bx w1 (w.heap.size + 1) b := by
              have := (Bx.new (w.alloc (Obj.cells #[Value.int IntKind.i64 ai, Value.int IntKind.i64 0] 24)) b 24).next hb1
              rw [World.size_alloc] at this
              exact this
            have hbl : Below w.heap.size w w1 := below_two (Below.refl _ _) hb1
            clear hb1
            have x0l := x0.lt
            have x0a := x0.1
            have x0b := x0.2
            go_wp2_with fail
            clear x0a x0b x0l
            refine (check_yes ⟨ai, 0⟩ HA.out _).mono ?_
            rintro e w2 ⟨rfl, hb2⟩
            have x0' := x0.next hb2
            clear x0
            have x0 := x0'
            clear x0'
            have x1' := x1.next hb2
            clear x1
            have x1 := x1'
            clear x1'
            have hbl := below_chain hbl hb2
            have x1l := x1.lt
            have x1a := x1.1
            have x1b := x1.2
            go_wp2_with fail
            clear x1a x1b x1l
            refine (check_yes b HB.out _).mono ?_
            rintro e w3 ⟨rfl, hb3⟩
            have x0' := x0.next hb3
            clear x0
            have x0 := x0'
            clear x0'
            have x1' := x1.next hb3
            clear x1
            have x1 := x1'
            clear x1'
            have hbl := below_chain hbl hb3
            have x0l := x0.lt
            have x0a := x0.1
            have x0b := x0.2
            have x1l := x1.lt
            have x1a := x1.1
            have x1b := x1.2
            go_wp2_with fail
            clear x0a x0b x0l x1a x1b x1l
            refine (speak_is ⟨ai, 0⟩ b ⟨si, 0⟩ FB.out HS.out _).mono ?_
            rintro e w4 ⟨rfl, hb4⟩
            have x0' := x0.next hb4
            clear x0
            have x0 := x0'
            clear x0'
            have x1' := x1.next hb4
            clear x1
            have x1 := x1'
            clear x1'
            have hbl := below_chain hbl hb4
            have x0l4 := x0.lt
            have x0a4 := x0.1
            have x0b4 := x0.2
            have x1l4 := x1.lt
            have x1a4 := x1.1
            have x1b4 := x1.2
            go_wp2_with fail
            clear x0l4 x0a4 x0b4 x1l4 x1a4 x1b4
            have x0' := x0.alloc (Obj.cells #[Value.int IntKind.i64 si, Value.int IntKind.i64 0] 24)
            clear x0
            have x0 := x0'
            clear x0'
            have x1' := x1.alloc (Obj.cells #[Value.int IntKind.i64 si, Value.int IntKind.i64 0] 24)
            clear x1
            have x1 := x1'
            clear x1'
            have x2 := Bx.new w4 ⟨si, 0⟩ 24
            have hbl := hbl.alloc hbl.size (Obj.cells #[Value.int IntKind.i64 si, Value.int IntKind.i64 0] 24)
            refine (suspect_is b x HX.out.symm _).mono ?_
            rintro e w5 ⟨rfl, hb5⟩
            have x0' := x0.next hb5
            clear x0
            have x0 := x0'
            clear x0'
            have x1' := x1.next hb5
            clear x1
            have x1 := x1'
            clear x1'
            have x2' := x2.next hb5
            clear x2
            have x2 := x2'
            clear x2'
            have hbl := below_chain hbl hb5
            have x0l5 := x0.lt
            have x0a5 := x0.1
            have x0b5 := x0.2
            have x1l5 := x1.lt
            have x1a5 := x1.1
            have x1b5 := x1.2
            have x2l5 := x2.lt
            have x2a5 := x2.1
            have x2b5 := x2.2
            go_wp2_with fail
            clear x0l5 x0a5 x0b5 x1l5 x1a5 x1b5 x2l5 x2a5 x2b5
            have x0' := x0.alloc (Obj.cells #[Value.int IntKind.i64 x.inc, Value.int IntKind.i64 x.st] 24)
            clear x0
            have x0 := x0'
            clear x0'
            have x1' := x1.alloc (Obj.cells #[Value.int IntKind.i64 x.inc, Value.int IntKind.i64 x.st] 24)
            clear x1
            have x1 := x1'
            clear x1'
            have x2' := x2.alloc (Obj.cells #[Value.int IntKind.i64 x.inc, Value.int IntKind.i64 x.st] 24)
            clear x2
            have x2 := x2'
            clear x2'
            have x3 := Bx.new w5 x 24
            have hbl := hbl.alloc hbl.size (Obj.cells #[Value.int IntKind.i64 x.inc, Value.int IntKind.i64 x.st] 24)
            refine (bury_is b y HY.out.symm _).mono ?_
            rintro e w6 ⟨rfl, hb6⟩
            have x0' := x0.next hb6
            clear x0
            have x0 := x0'
            clear x0'
            have x1' := x1.next hb6
            clear x1
            have x1 := x1'
            clear x1'
            have x2' := x2.next hb6
            clear x2
            have x2 := x2'
            clear x2'
            have x3' := x3.next hb6
            clear x3
            have x3 := x3'
            clear x3'
            have hbl := below_chain hbl hb6
            have x0l6 := x0.lt
            have x0a6 := x0.1
            have x0b6 := x0.2
            have x1l6 := x1.lt
            have x1a6 := x1.1
            have x1b6 := x1.2
            have x2l6 := x2.lt
            have x2a6 := x2.1
            have x2b6 := x2.2
            have x3l6 := x3.lt
            have x3a6 := x3.1
            have x3b6 := x3.2
            go_wp2_with fail
            clear x0l6 x0a6 x0b6 x1l6 x1a6 x1b6 x2l6 x2a6 x2b6 x3l6 x3a6 x3b6
            have x0' := x0.alloc (Obj.cells #[Value.int IntKind.i64 y.inc, Value.int IntKind.i64 y.st] 24)
            clear x0
            have x0 := x0'
            clear x0'
            have x1' := x1.alloc (Obj.cells #[Value.int IntKind.i64 y.inc, Value.int IntKind.i64 y.st] 24)
            clear x1
            have x1 := x1'
            clear x1'
            have x2' := x2.alloc (Obj.cells #[Value.int IntKind.i64 y.inc, Value.int IntKind.i64 y.st] 24)
            clear x2
            have x2 := x2'
            clear x2'
            have x3' := x3.alloc (Obj.cells #[Value.int IntKind.i64 y.inc, Value.int IntKind.i64 y.st] 24)
            clear x3
            have x3 := x3'
            clear x3'
            have x4 := Bx.new w6 y 24
            have hbl := hbl.alloc hbl.size (Obj.cells #[Value.int IntKind.i64 y.inc, Value.int IntKind.i64 y.st] 24)
            clear hb2 hb3 hb4 hb5 hb6
            have x0l := x0.lt
            have x0a := x0.1
            have x0b := x0.2
            have x1l := x1.lt
            have x1a := x1.1
            have x1b := x1.2
            have x2l := x2.lt
            have x2a := x2.1
            have x2b := x2.2
            have x3l := x3.lt
            have x3a := x3.1
            have x3b := x3.2
            have x4l := x4.lt
            have x4a := x4.1
            have x4b := x4.2
            generalize (w6.alloc (Obj.cells #[Value.int IntKind.i64 y.inc, Value.int IntKind.i64 y.st] 24)) = wy at *
            clear x0 x1 x2 x3 x4
            refine wp_region_held_drew (S := (fun w' => w'.cell? ⟨w.heap.size, 0, none⟩ = some (.int .i64 ai) ∧ w'.cell? ⟨w.heap.size, 1, none⟩ = some (.int .i64 0) ∧ w'.cell? ⟨w.heap.size + 1, 0, none⟩ = some (.int .i64 b.inc) ∧ w'.cell? ⟨w.heap.size + 1, 1, none⟩ = some (.int .i64 b.st) ∧ w'.cell? ⟨w4.heap.size, 0, none⟩ = some (.int .i64 si) ∧ w'.cell? ⟨w4.heap.size, 1, none⟩ = some (.int .i64 0) ∧ w'.cell? ⟨w5.heap.size, 0, none⟩ = some (.int .i64 x.inc) ∧ w'.cell? ⟨w5.heap.size, 1, none⟩ = some (.int .i64 x.st) ∧ w'.cell? ⟨w6.heap.size, 0, none⟩ = some (.int .i64 y.inc) ∧ w'.cell? ⟨w6.heap.size, 1, none⟩ = some (.int .i64 y.st))) (by kernel_rfl) ?_ (fun hHeld => ?_)
            · (try dsimp only); (first | go_keep | (go_split_ands; refine ⟨?_, ?_, ?_, ?_, ?_, ?_, ?_, ?_, ?_, ?_⟩ <;> (rw [hb.cell (by simp; omega)]; assumption)))
            refine wpAnyH_take (i := 0) (oi := { dst := some 38, op := Op.load 24 (Operand.tmp 6), type := 24, pos := "law.go:63", after := #[], guard := none }) (v := ?_) rfl (by kernel_rfl) (by kernel_rfl) (by kernel_rfl) (fun _ _ _ h => h) (Or.inl ⟨by rfl, ?_⟩) (by assumption) ?_
            rotate_left 1
            · intro ws hSw; (try dsimp only at hSw); go_simp; all_goals with_reducible rfl
            simp only [Act.put, List.setIfInBounds_toArray, List.set_cons_zero, List.set_cons_succ]
            refine wpAnyH_take (i := 1) (oi := { dst := some 39, op := Op.load 24 (Operand.tmp 3), type := 24, pos := "law.go:63", after := #[], guard := none }) (v := ?_) rfl (by kernel_rfl) (by kernel_rfl) (by kernel_rfl) (fun _ _ _ h => h) (Or.inl ⟨by rfl, ?_⟩) (by assumption) ?_
            rotate_left 1
            · intro ws hSw; (try dsimp only at hSw); go_simp; all_goals with_reducible rfl
            simp only [Act.put, List.setIfInBounds_toArray, List.set_cons_zero, List.set_cons_succ]
            refine wpAnyH_take (i := 3) (oi := { dst := some 41, op := Op.load 24 (Operand.tmp 6), type := 24, pos := "law.go:63", after := #[], guard := none }) (v := ?_) rfl (by kernel_rfl) (by kernel_rfl) (by kernel_rfl) (fun _ _ _ h => h) (Or.inl ⟨by rfl, ?_⟩) (by assumption) ?_
            rotate_left 1
            · intro ws hSw; (try dsimp only at hSw); go_simp; all_goals with_reducible rfl
            simp only [Act.put, List.setIfInBounds_toArray, List.set_cons_zero, List.set_cons_succ]
            refine wpAnyH_ready (rs := [2]) (by kernel_rfl) (by simp) ?_
            refine AllReadyH.cons (o := { dst := some 40, op := Op.call { callee := Callee.value (Operand.func 13), args := #[Operand.tmp 38, Operand.tmp 39], argTypes := #[24, 24] }, type := 24, pos := "law.go:63", after := #[{ on := 0, ground := Ground.data }, { on := 1, ground := Ground.data }], guard := none }) rfl (fun K hK => ?_) AllReadyH.nil
            go_simp
            (go_at_call 13; ((with_reducible refine (join_is ⟨si, 0⟩ b ⟨si, 0⟩ HJ.out _).mono ?_); rintro e w' ⟨rfl, hb⟩; have hs := hb.size; (try simp at hs); have hbl : Below w.heap.size w w' := (by first | exact below_chain hbl hb | exact below_chain hbl.drew hb)))
            refine hK.out _ _ ?_ (fun hHeld => ?_)
            · (try dsimp only); (first | go_keep | (go_split_ands; refine ⟨?_, ?_, ?_, ?_, ?_, ?_, ?_, ?_, ?_, ?_⟩ <;> (rw [hb.cell (by simp; omega)]; assumption)))
            clear hK K
            refine wpAnyH_take (i := 4) (oi := { dst := some 42, op := Op.binOp BinOp.eql 24 (Operand.tmp 40) (Operand.tmp 41) 24, type := 4, pos := "law.go:63", after := #[{ on := 2, ground := Ground.data }, { on := 3, ground := Ground.data }], guard := none }) (v := ?_) rfl (by kernel_rfl) (by kernel_rfl) (by kernel_rfl) (fun _ _ _ h => h) (Or.inl ⟨by rfl, ?_⟩) (by assumption) ?_
            rotate_left 1
            · intro ws hSw; (try dsimp only at hSw); go_simp; all_goals with_reducible rfl
            simp only [Act.put, List.setIfInBounds_toArray, List.set_cons_zero, List.set_cons_succ]
            refine wpAnyH_take (i := 5) (oi := { dst := some 43, op := Op.move (Operand.tmp 42), type := 4, pos := "law.go:63", after := #[{ on := 4, ground := Ground.data }, { on := 2, ground := Ground.chain }], guard := none }) (v := ?_) rfl (by kernel_rfl) (by kernel_rfl) (by kernel_rfl) (fun _ _ _ h => h) (Or.inl ⟨by rfl, ?_⟩) (by assumption) ?_
            rotate_left 1
            · intro ws hSw; (try dsimp only at hSw); go_simp; all_goals with_reducible rfl
            simp only [Act.put, List.setIfInBounds_toArray, List.set_cons_zero, List.set_cons_succ]
            refine wpAnyH_take (i := 6) (oi := { dst := some 44, op := Op.fieldAddr 24 (Operand.tmp 3) 1, type := 0, pos := "law.go:63", after := #[{ on := 5, ground := Ground.guard }], guard := some (5, false) }) (v := undef) rfl (by kernel_rfl) (by kernel_rfl) (by kernel_rfl) (fun _ _ _ h => h) (Or.inr ⟨by rfl, rfl⟩) (by assumption) ?_
            simp only [Act.put, List.setIfInBounds_toArray, List.set_cons_zero, List.set_cons_succ]
            refine wpAnyH_take (i := 7) (oi := { dst := some 45, op := Op.load 3 (Operand.tmp 44), type := 3, pos := "law.go:63", after := #[{ on := 6, ground := Ground.data }, { on := 5, ground := Ground.guard }], guard := some (5, false) }) (v := undef) rfl (by kernel_rfl) (by kernel_rfl) (by kernel_rfl) (fun _ _ _ h => h) (Or.inr ⟨by rfl, rfl⟩) (by assumption) ?_
            simp only [Act.put, List.setIfInBounds_toArray, List.set_cons_zero, List.set_cons_succ]
            refine wpAnyH_take (i := 8) (oi := { dst := some 46, op := Op.binOp BinOp.eql 3 (Operand.tmp 45) (Operand.const (Value.int IntKind.i64 0)) 3, type := 4, pos := "law.go:63", after := #[{ on := 7, ground := Ground.data }, { on := 5, ground := Ground.guard }], guard := some (5, false) }) (v := undef) rfl (by kernel_rfl) (by kernel_rfl) (by kernel_rfl) (fun _ _ _ h => h) (Or.inr ⟨by rfl, rfl⟩) (by assumption) ?_
            simp only [Act.put, List.setIfInBounds_toArray, List.set_cons_zero, List.set_cons_succ]
            refine wpAnyH_take (i := 9) (oi := { dst := some 47, op := Op.move (Operand.tmp 46), type := 4, pos := "law.go:63", after := #[{ on := 8, ground := Ground.data }, { on := 5, ground := Ground.chain }, { on := 5, ground := Ground.guard }], guard := some (5, false) }) (v := undef) rfl (by kernel_rfl) (by kernel_rfl) (by kernel_rfl) (fun _ _ _ h => h) (Or.inr ⟨by rfl, rfl⟩) (by assumption) ?_
            simp only [Act.put, List.setIfInBounds_toArray, List.set_cons_zero, List.set_cons_succ]
            refine wpAnyH_take (i := 10) (oi := { dst := some 48, op := Op.load 24 (Operand.tmp 6), type := 24, pos := "law.go:63", after := #[{ on := 9, ground := Ground.guard }], guard := some (9, true) }) (v := undef) rfl (by kernel_rfl) (by kernel_rfl) (by kernel_rfl) (fun _ _ _ h => h) (Or.inr ⟨by rfl, rfl⟩) (by assumption) ?_
            simp only [Act.put, List.setIfInBounds_toArray, List.set_cons_zero, List.set_cons_succ]
            refine wpAnyH_take (i := 11) (oi := { dst := some 49, op := Op.load 24 (Operand.tmp 3), type := 24, pos := "law.go:63", after := #[{ on := 9, ground := Ground.guard }], guard := some (9, true) }) (v := undef) rfl (by kernel_rfl) (by kernel_rfl) (by kernel_rfl) (fun _ _ _ h => h) (Or.inr ⟨by rfl, rfl⟩) (by assumption) ?_
            simp only [Act.put, List.setIfInBounds_toArray, List.set_cons_zero, List.set_cons_succ]
            refine wpAnyH_take (i := 13) (oi := { dst := some 51, op := Op.load 24 (Operand.tmp 3), type := 24, pos := "law.go:63", after := #[{ on := 9, ground := Ground.guard }], guard := some (9, true) }) (v := undef) rfl (by kernel_rfl) (by kernel_rfl) (by kernel_rfl) (fun _ _ _ h => h) (Or.inr ⟨by rfl, rfl⟩) (by assumption) ?_
            simp only [Act.put, List.setIfInBounds_toArray, List.set_cons_zero, List.set_cons_succ]
            refine wpAnyH_ready (rs := [12]) (by kernel_rfl) (by simp) ?_
            refine AllReadyH.cons (o := { dst := some 50, op := Op.call { callee := Callee.value (Operand.func 13), args := #[Operand.tmp 48, Operand.tmp 49], argTypes := #[24, 24] }, type := 24, pos := "law.go:63", after := #[{ on := 10, ground := Ground.data }, { on := 11, ground := Ground.data }, { on := 9, ground := Ground.chain }, { on := 9, ground := Ground.guard }], guard := some (9, true) }) rfl (fun K hK => ?_) AllReadyH.nil
            rw [if_neg (Bool.eq_false_iff.1 (by rfl))]
            refine hK.out _ _ (by assumption) (fun hHeld => ?_)
            clear hK K
            try simp only [Act.put, List.setIfInBounds_toArray, List.set_cons_zero, List.set_cons_succ]
            refine wpAnyH_take (i := 14) (oi := { dst := some 52, op := Op.binOp BinOp.eql 24 (Operand.tmp 50) (Operand.tmp 51) 24, type := 4, pos := "law.go:63", after := #[{ on := 12, ground := Ground.data }, { on := 13, ground := Ground.data }, { on := 9, ground := Ground.guard }], guard := some (9, true) }) (v := undef) rfl (by kernel_rfl) (by kernel_rfl) (by kernel_rfl) (fun _ _ _ h => h) (Or.inr ⟨by rfl, rfl⟩) (by assumption) ?_
            simp only [Act.put, List.setIfInBounds_toArray, List.set_cons_zero, List.set_cons_succ]
            refine wpAnyH_take (i := 15) (oi := { dst := some 53, op := Op.pick (Operand.tmp 47) (Operand.tmp 52) (Operand.const (Value.bool false)), type := 4, pos := "law.go:63", after := #[{ on := 9, ground := Ground.data }, { on := 14, ground := Ground.data }, { on := 5, ground := Ground.guard }], guard := some (5, false) }) (v := undef) rfl (by kernel_rfl) (by kernel_rfl) (by kernel_rfl) (fun _ _ _ h => h) (Or.inr ⟨by rfl, rfl⟩) (by assumption) ?_
            simp only [Act.put, List.setIfInBounds_toArray, List.set_cons_zero, List.set_cons_succ]
            refine wpAnyH_take (i := 16) (oi := { dst := some 54, op := Op.pick (Operand.tmp 43) (Operand.const (Value.bool true)) (Operand.tmp 53), type := 4, pos := "law.go:63", after := #[{ on := 5, ground := Ground.data }, { on := 15, ground := Ground.data }], guard := none }) (v := ?_) rfl (by kernel_rfl) (by kernel_rfl) (by kernel_rfl) (fun _ _ _ h => h) (Or.inl ⟨by rfl, ?_⟩) (by assumption) ?_
            rotate_left 1
            · intro ws hSw; (try dsimp only at hSw); go_simp; all_goals with_reducible rfl
            simp only [Act.put, List.setIfInBounds_toArray, List.set_cons_zero, List.set_cons_succ]
            refine wpAnyH_ready (rs := [17]) (by kernel_rfl) (by simp) ?_
            refine AllReadyH.cons (o := { dst := some 9, op := Op.assign (Operand.tmp 54), type := 4, pos := "law.go:63", after := #[{ on := 16, ground := Ground.data }, { on := 12, ground := Ground.chain }, { on := 0, ground := Ground.phase }, { on := 1, ground := Ground.phase }, { on := 2, ground := Ground.phase }, { on := 3, ground := Ground.phase }, { on := 4, ground := Ground.phase }, { on := 5, ground := Ground.phase }, { on := 6, ground := Ground.phase }, { on := 7, ground := Ground.phase }, { on := 8, ground := Ground.phase }, { on := 9, ground := Ground.phase }, { on := 10, ground := Ground.phase }, { on := 11, ground := Ground.phase }, { on := 12, ground := Ground.phase }, { on := 13, ground := Ground.phase }, { on := 14, ground := Ground.phase }, { on := 15, ground := Ground.phase }, { on := 16, ground := Ground.phase }], guard := none }) rfl (fun K hK => ?_) AllReadyH.nil
            go_simp
            refine hK.out _ _ (by assumption) (fun hHeld => ?_)
            clear hK K
            refine wpAnyH_done (by kernel_rfl) ?_ _
            go_wp2
            go_split_ands
            go_region_held3 (fun w' => w'.cell? ⟨w.heap.size, 0, none⟩ = some (.int .i64 ai) ∧ w'.cell? ⟨w.heap.size, 1, none⟩ = some (.int .i64 0) ∧ w'.cell? ⟨w.heap.size + 1, 0, none⟩ = some (.int .i64 b.inc) ∧ w'.cell? ⟨w.heap.size + 1, 1, none⟩ = some (.int .i64 b.st) ∧ w'.cell? ⟨w4.heap.size, 0, none⟩ = some (.int .i64 si) ∧ w'.cell? ⟨w4.heap.size, 1, none⟩ = some (.int .i64 0) ∧ w'.cell? ⟨w5.heap.size, 0, none⟩ = some (.int .i64 x.inc) ∧ w'.cell? ⟨w5.heap.size, 1, none⟩ = some (.int .i64 x.st) ∧ w'.cell? ⟨w6.heap.size, 0, none⟩ = some (.int .i64 y.inc) ∧ w'.cell? ⟨w6.heap.size, 1, none⟩ = some (.int .i64 y.st))
              (first | go_keep | (go_split_ands; refine ⟨?_, ?_, ?_, ?_, ?_, ?_, ?_, ?_, ?_, ?_⟩ <;> (rw [hb.cell (by simp; omega)]; assumption)))
              (first | (go_at_call 13; ((with_reducible refine (join_is ⟨si, 0⟩ ⟨ai, 0⟩ ⟨si, 0⟩ HL.out.2.1 _).mono ?_); rintro e w' ⟨rfl, hb⟩; have hs := hb.size; (try simp at hs); have hbl : Below w.heap.size w w' := (by first | exact below_chain hbl hb | exact below_chain hbl.drew hb))) | (go_at_call 11; ((with_reducible refine (check_yes ⟨si, 0⟩ HL.out.1 _).mono ?_); rintro e w' ⟨rfl, hb⟩; have hs := hb.size; (try simp at hs); have hbl : Below w.heap.size w w' := (by first | exact below_chain hbl hb | exact below_chain hbl.drew hb))))
            go_wp2
            go_split_ands
            go_region_held3 (fun w' => w'.cell? ⟨w.heap.size, 0, none⟩ = some (.int .i64 ai) ∧ w'.cell? ⟨w.heap.size, 1, none⟩ = some (.int .i64 0) ∧ w'.cell? ⟨w.heap.size + 1, 0, none⟩ = some (.int .i64 b.inc) ∧ w'.cell? ⟨w.heap.size + 1, 1, none⟩ = some (.int .i64 b.st) ∧ w'.cell? ⟨w4.heap.size, 0, none⟩ = some (.int .i64 si) ∧ w'.cell? ⟨w4.heap.size, 1, none⟩ = some (.int .i64 0) ∧ w'.cell? ⟨w5.heap.size, 0, none⟩ = some (.int .i64 x.inc) ∧ w'.cell? ⟨w5.heap.size, 1, none⟩ = some (.int .i64 x.st) ∧ w'.cell? ⟨w6.heap.size, 0, none⟩ = some (.int .i64 y.inc) ∧ w'.cell? ⟨w6.heap.size, 1, none⟩ = some (.int .i64 y.st))
              (first | go_keep | (go_split_ands; refine ⟨?_, ?_, ?_, ?_, ?_, ?_, ?_, ?_, ?_, ?_⟩ <;> (rw [hb.cell (by simp; omega)]; assumption)))
              (first | (go_at_call 13; ((with_reducible refine (join_is x b x JX.out _).mono ?_); rintro e w' ⟨rfl, hb⟩; have hs := hb.size; (try simp at hs); have hbl : Below w.heap.size w w' := (by first | exact below_chain hbl hb | exact below_chain hbl.drew hb))) | (go_at_call 13; ((with_reducible refine (join_is y b y JY.out _).mono ?_); rintro e w' ⟨rfl, hb⟩; have hs := hb.size; (try simp at hs); have hbl : Below w.heap.size w w' := (by first | exact below_chain hbl hb | exact below_chain hbl.drew hb))) | (go_at_call 11; ((with_reducible refine (check_yes x MX.out _).mono ?_); rintro e w' ⟨rfl, hb⟩; have hs := hb.size; (try simp at hs); have hbl : Below w.heap.size w w' := (by first | exact below_chain hbl hb | exact below_chain hbl.drew hb))) | (go_at_call 11; ((with_reducible refine (check_yes y MY.out _).mono ?_); rintro e w' ⟨rfl, hb⟩; have hs := hb.size; (try simp at hs); have hbl : Below w.heap.size w w' := (by first | exact below_chain hbl hb | exact below_chain hbl.drew hb))))
            go_wp2
            go_ret
            exact ⟨rfl, hbl⟩
          · obtain ⟨bi, bs⟩ := b
            obtain ⟨h0, hj, hne⟩ := hj
            simp only at h0 hne k1'
            subst h0
            have hne1 : (bi == si) = false := bool_beq_false hne
            have hne2 : decide (bi = si) = false := by simp [hne]
            have HJ := Lib.hid hj
            clear hj
            go_enter Try.func7, Try.ntmps7
            go_wp2_with fail
            refine (awake_any _).mono ?_
            rintro e w1 ⟨rfl, hb1⟩
            have x0 : Bx w1 (w.heap.size) ⟨ai, 0⟩ := ((Bx.new w ⟨ai, 0⟩ 24).alloc _).next hb1
            have x1 : Bx w1 (w.heap.size + 1) ⟨bi, 0⟩ := by
              have := (Bx.new (w.alloc (Obj.cells #[Value.int IntKind.i64 ai, Value.int IntKind.i64 0] 24)) ⟨bi, 0⟩ 24).next hb1
              rw [World.size_alloc] at this
              exact this
            have hbl : Below w.heap.size w w1 := below_two (Below.refl _ _) hb1
            clear hb1
            have x0l := x0.lt
            have x0a := x0.1
            have x0b := x0.2
            go_wp2_with fail
            clear x0a x0b x0l
            refine (check_yes ⟨ai, 0⟩ HA.out _).mono ?_
            rintro e w2 ⟨rfl, hb2⟩
            have x0' := x0.next hb2
            clear x0
            have x0 := x0'
            clear x0'
            have x1' := x1.next hb2
            clear x1
            have x1 := x1'
            clear x1'
            have hbl := below_chain hbl hb2
            have x1l := x1.lt
            have x1a := x1.1
            have x1b := x1.2
            go_wp2_with fail
            clear x1a x1b x1l
            refine (check_yes ⟨bi, 0⟩ HB.out _).mono ?_
            rintro e w3 ⟨rfl, hb3⟩
            have x0' := x0.next hb3
            clear x0
            have x0 := x0'
            clear x0'
            have x1' := x1.next hb3
            clear x1
            have x1 := x1'
            clear x1'
            have hbl := below_chain hbl hb3
            have x0l := x0.lt
            have x0a := x0.1
            have x0b := x0.2
            have x1l := x1.lt
            have x1a := x1.1
            have x1b := x1.2
            go_wp2_with fail
            clear x0a x0b x0l x1a x1b x1l
            refine (speak_is ⟨ai, 0⟩ ⟨bi, 0⟩ ⟨si, 0⟩ FB.out HS.out _).mono ?_
            rintro e w4 ⟨rfl, hb4⟩
            have x0' := x0.next hb4
            clear x0
            have x0 := x0'
            clear x0'
            have x1' := x1.next hb4
            clear x1
            have x1 := x1'
            clear x1'
            have hbl := below_chain hbl hb4
            have x0l4 := x0.lt
            have x0a4 := x0.1
            have x0b4 := x0.2
            have x1l4 := x1.lt
            have x1a4 := x1.1
            have x1b4 := x1.2
            go_wp2_with fail
            clear x0l4 x0a4 x0b4 x1l4 x1a4 x1b4
            have x0' := x0.alloc (Obj.cells #[Value.int IntKind.i64 si, Value.int IntKind.i64 0] 24)
            clear x0
            have x0 := x0'
            clear x0'
            have x1' := x1.alloc (Obj.cells #[Value.int IntKind.i64 si, Value.int IntKind.i64 0] 24)
            clear x1
            have x1 := x1'
            clear x1'
            have x2 := Bx.new w4 ⟨si, 0⟩ 24
            have hbl := hbl.alloc hbl.size (Obj.cells #[Value.int IntKind.i64 si, Value.int IntKind.i64 0] 24)
            refine (suspect_is ⟨bi, 0⟩ x HX.out.symm _).mono ?_
            rintro e w5 ⟨rfl, hb5⟩
            have x0' := x0.next hb5
            clear x0
            have x0 := x0'
            clear x0'
            have x1' := x1.next hb5
            clear x1
            have x1 := x1'
            clear x1'
            have x2' := x2.next hb5
            clear x2
            have x2 := x2'
            clear x2'
            have hbl := below_chain hbl hb5
            have x0l5 := x0.lt
            have x0a5 := x0.1
            have x0b5 := x0.2
            have x1l5 := x1.lt
            have x1a5 := x1.1
            have x1b5 := x1.2
            have x2l5 := x2.lt
            have x2a5 := x2.1
            have x2b5 := x2.2
            go_wp2_with fail
            clear x0l5 x0a5 x0b5 x1l5 x1a5 x1b5 x2l5 x2a5 x2b5
            have x0' := x0.alloc (Obj.cells #[Value.int IntKind.i64 x.inc, Value.int IntKind.i64 x.st] 24)
            clear x0
            have x0 := x0'
            clear x0'
            have x1' := x1.alloc (Obj.cells #[Value.int IntKind.i64 x.inc, Value.int IntKind.i64 x.st] 24)
            clear x1
            have x1 := x1'
            clear x1'
            have x2' := x2.alloc (Obj.cells #[Value.int IntKind.i64 x.inc, Value.int IntKind.i64 x.st] 24)
            clear x2
            have x2 := x2'
            clear x2'
            have x3 := Bx.new w5 x 24
            have hbl := hbl.alloc hbl.size (Obj.cells #[Value.int IntKind.i64 x.inc, Value.int IntKind.i64 x.st] 24)
            refine (bury_is ⟨bi, 0⟩ y HY.out.symm _).mono ?_
            rintro e w6 ⟨rfl, hb6⟩
            have x0' := x0.next hb6
            clear x0
            have x0 := x0'
            clear x0'
            have x1' := x1.next hb6
            clear x1
            have x1 := x1'
            clear x1'
            have x2' := x2.next hb6
            clear x2
            have x2 := x2'
            clear x2'
            have x3' := x3.next hb6
            clear x3
            have x3 := x3'
            clear x3'
            have hbl := below_chain hbl hb6
            have x0l6 := x0.lt
            have x0a6 := x0.1
            have x0b6 := x0.2
            have x1l6 := x1.lt
            have x1a6 := x1.1
            have x1b6 := x1.2
            have x2l6 := x2.lt
            have x2a6 := x2.1
            have x2b6 := x2.2
            have x3l6 := x3.lt
            have x3a6 := x3.1
            have x3b6 := x3.2
            go_wp2_with fail
            clear x0l6 x0a6 x0b6 x1l6 x1a6 x1b6 x2l6 x2a6 x2b6 x3l6 x3a6 x3b6
            have x0' := x0.alloc (Obj.cells #[Value.int IntKind.i64 y.inc, Value.int IntKind.i64 y.st] 24)
            clear x0
            have x0 := x0'
            clear x0'
            have x1' := x1.alloc (Obj.cells #[Value.int IntKind.i64 y.inc, Value.int IntKind.i64 y.st] 24)
            clear x1
            have x1 := x1'
            clear x1'
            have x2' := x2.alloc (Obj.cells #[Value.int IntKind.i64 y.inc, Value.int IntKind.i64 y.st] 24)
            clear x2
            have x2 := x2'
            clear x2'
            have x3' := x3.alloc (Obj.cells #[Value.int IntKind.i64 y.inc, Value.int IntKind.i64 y.st] 24)
            clear x3
            have x3 := x3'
            clear x3'
            have x4 := Bx.new w6 y 24
            have hbl := hbl.alloc hbl.size (Obj.cells #[Value.int IntKind.i64 y.inc, Value.int IntKind.i64 y.st] 24)
            clear hb2 hb3 hb4 hb5 hb6
            have x0l := x0.lt
            have x0a := x0.1
            have x0b := x0.2
            have x1l := x1.lt
            have x1a := x1.1
            have x1b := x1.2
            have x2l := x2.lt
            have x2a := x2.1
            have x2b := x2.2
            have x3l := x3.lt
            have x3a := x3.1
            have x3b := x3.2
            have x4l := x4.lt
            have x4a := x4.1
            have x4b := x4.2
            generalize (w6.alloc (Obj.cells #[Value.int IntKind.i64 y.inc, Value.int IntKind.i64 y.st] 24)) = wy at *
            clear x0 x1 x2 x3 x4
            go_region_held3 (fun w' => w'.cell? ⟨w.heap.size, 0, none⟩ = some (.int .i64 ai) ∧ w'.cell? ⟨w.heap.size, 1, none⟩ = some (.int .i64 0) ∧ w'.cell? ⟨w.heap.size + 1, 0, none⟩ = some (.int .i64 bi) ∧ w'.cell? ⟨w.heap.size + 1, 1, none⟩ = some (.int .i64 0) ∧ w'.cell? ⟨w4.heap.size, 0, none⟩ = some (.int .i64 si) ∧ w'.cell? ⟨w4.heap.size, 1, none⟩ = some (.int .i64 0) ∧ w'.cell? ⟨w5.heap.size, 0, none⟩ = some (.int .i64 x.inc) ∧ w'.cell? ⟨w5.heap.size, 1, none⟩ = some (.int .i64 x.st) ∧ w'.cell? ⟨w6.heap.size, 0, none⟩ = some (.int .i64 y.inc) ∧ w'.cell? ⟨w6.heap.size, 1, none⟩ = some (.int .i64 y.st))
              (first | go_keep | (go_split_ands; refine ⟨?_, ?_, ?_, ?_, ?_, ?_, ?_, ?_, ?_, ?_⟩ <;> (rw [hb.cell (by simp; omega)]; assumption)))
              (first | (go_at_call 13; ((with_reducible refine (join_is ⟨si, 0⟩ ⟨bi, 0⟩ ⟨bi, 0⟩ HJ.out _).mono ?_); rintro e w' ⟨rfl, hb⟩; have hs := hb.size; (try simp at hs); have hbl : Below w.heap.size w w' := (by first | exact below_chain hbl hb | exact below_chain hbl.drew hb))))
            go_wp2
            go_split_ands
            go_region_held3 (fun w' => w'.cell? ⟨w.heap.size, 0, none⟩ = some (.int .i64 ai) ∧ w'.cell? ⟨w.heap.size, 1, none⟩ = some (.int .i64 0) ∧ w'.cell? ⟨w.heap.size + 1, 0, none⟩ = some (.int .i64 bi) ∧ w'.cell? ⟨w.heap.size + 1, 1, none⟩ = some (.int .i64 0) ∧ w'.cell? ⟨w4.heap.size, 0, none⟩ = some (.int .i64 si) ∧ w'.cell? ⟨w4.heap.size, 1, none⟩ = some (.int .i64 0) ∧ w'.cell? ⟨w5.heap.size, 0, none⟩ = some (.int .i64 x.inc) ∧ w'.cell? ⟨w5.heap.size, 1, none⟩ = some (.int .i64 x.st) ∧ w'.cell? ⟨w6.heap.size, 0, none⟩ = some (.int .i64 y.inc) ∧ w'.cell? ⟨w6.heap.size, 1, none⟩ = some (.int .i64 y.st))
              (first | go_keep | (go_split_ands; refine ⟨?_, ?_, ?_, ?_, ?_, ?_, ?_, ?_, ?_, ?_⟩ <;> (rw [hb.cell (by simp; omega)]; assumption)))
              (first | (go_at_call 13; ((with_reducible refine (join_is ⟨si, 0⟩ ⟨ai, 0⟩ ⟨si, 0⟩ HL.out.2.1 _).mono ?_); rintro e w' ⟨rfl, hb⟩; have hs := hb.size; (try simp at hs); have hbl : Below w.heap.size w w' := (by first | exact below_chain hbl hb | exact below_chain hbl.drew hb))) | (go_at_call 11; ((with_reducible refine (check_yes ⟨si, 0⟩ HL.out.1 _).mono ?_); rintro e w' ⟨rfl, hb⟩; have hs := hb.size; (try simp at hs); have hbl : Below w.heap.size w w' := (by first | exact below_chain hbl hb | exact below_chain hbl.drew hb))))
            go_wp2
            go_split_ands
            go_region_held3 (fun w' => w'.cell? ⟨w.heap.size, 0, none⟩ = some (.int .i64 ai) ∧ w'.cell? ⟨w.heap.size, 1, none⟩ = some (.int .i64 0) ∧ w'.cell? ⟨w.heap.size + 1, 0, none⟩ = some (.int .i64 bi) ∧ w'.cell? ⟨w.heap.size + 1, 1, none⟩ = some (.int .i64 0) ∧ w'.cell? ⟨w4.heap.size, 0, none⟩ = some (.int .i64 si) ∧ w'.cell? ⟨w4.heap.size, 1, none⟩ = some (.int .i64 0) ∧ w'.cell? ⟨w5.heap.size, 0, none⟩ = some (.int .i64 x.inc) ∧ w'.cell? ⟨w5.heap.size, 1, none⟩ = some (.int .i64 x.st) ∧ w'.cell? ⟨w6.heap.size, 0, none⟩ = some (.int .i64 y.inc) ∧ w'.cell? ⟨w6.heap.size, 1, none⟩ = some (.int .i64 y.st))
              (first | go_keep | (go_split_ands; refine ⟨?_, ?_, ?_, ?_, ?_, ?_, ?_, ?_, ?_, ?_⟩ <;> (rw [hb.cell (by simp; omega)]; assumption)))
              (first | (go_at_call 13; ((with_reducible refine (join_is x ⟨bi, 0⟩ x JX.out _).mono ?_); rintro e w' ⟨rfl, hb⟩; have hs := hb.size; (try simp at hs); have hbl : Below w.heap.size w w' := (by first | exact below_chain hbl hb | exact below_chain hbl.drew hb))) | (go_at_call 13; ((with_reducible refine (join_is y ⟨bi, 0⟩ y JY.out _).mono ?_); rintro e w' ⟨rfl, hb⟩; have hs := hb.size; (try simp at hs); have hbl : Below w.heap.size w w' := (by first | exact below_chain hbl hb | exact below_chain hbl.drew hb))) | (go_at_call 11; ((with_reducible refine (check_yes x MX.out _).mono ?_); rintro e w' ⟨rfl, hb⟩; have hs := hb.size; (try simp at hs); have hbl : Below w.heap.size w w' := (by first | exact below_chain hbl hb | exact below_chain hbl.drew hb))) | (go_at_call 11; ((with_reducible refine (check_yes y MY.out _).mono ?_); rintro e w' ⟨rfl, hb⟩; have hs := hb.size; (try simp at hs); have hbl : Below w.heap.size w w' := (by first | exact below_chain hbl hb | exact below_chain hbl.drew hb))))
            go_wp2
            go_ret
            exact ⟨rfl, hbl⟩
        · have k2' : (a.st == 0) = false := by simp [k2]
          have k2'' : (a.st != 0) = true := by simp [k2]
          clear k2
          go_enter Try.func7, Try.ntmps7
          go_wp2_with fail
          refine (awake_any _).mono ?_
          rintro e w1 ⟨rfl, hb1⟩
          have x0 : Bx w1 (w.heap.size) a := ((Bx.new w a 24).alloc _).next hb1
          have x1 : Bx w1 (w.heap.size + 1) b := by
            have := (Bx.new (w.alloc (Obj.cells #[Value.int IntKind.i64 a.inc, Value.int IntKind.i64 a.st] 24)) b 24).next hb1
            rw [World.size_alloc] at this
            exact this
          have hbl : Below w.heap.size w w1 := below_two (Below.refl _ _) hb1
          clear hb1
          have x0l := x0.lt
          have x0a := x0.1
          have x0b := x0.2
          go_wp2_with fail
          clear x0a x0b x0l
          refine (check_yes a HA.out _).mono ?_
          rintro e w2 ⟨rfl, hb2⟩
          have x0' := x0.next hb2
          clear x0
          have x0 := x0'
          clear x0'
          have x1' := x1.next hb2
          clear x1
          have x1 := x1'
          clear x1'
          have hbl := below_chain hbl hb2
          have x1l := x1.lt
          have x1a := x1.1
          have x1b := x1.2
          go_wp2_with fail
          clear x1a x1b x1l
          refine (check_yes b HB.out _).mono ?_
          rintro e w3 ⟨rfl, hb3⟩
          have x0' := x0.next hb3
          clear x0
          have x0 := x0'
          clear x0'
          have x1' := x1.next hb3
          clear x1
          have x1 := x1'
          clear x1'
          have hbl := below_chain hbl hb3
          have x0l := x0.lt
          have x0a := x0.1
          have x0b := x0.2
          have x1l := x1.lt
          have x1a := x1.1
          have x1b := x1.2
          go_wp2
          go_ret
          exact ⟨rfl, hbl⟩

set_option maxRecDepth 100000 in
theorem memberSpeaks_lifted (os : Os) (started : os.Started) (H : Type) (enc : TypeId × Value → H) :
    ReturnsInHanded {} Try.checked os 7 .any (Rows.memberSpeaksSpec.pre6 enc Try.prog Try.f7 Rows.memberSpeaksRow.domain false) (Rows.memberSpeaksSpec.post enc Try.prog Try.f7 false true false false) := by
  refine returnsInHanded_of_change (C := Try.checked) own started (by kernel_rfl) Try.func7
    (ChangeSpec.witness6 (enc := enc) (C := Try.checked) false ⟨#[], #[.agg #[.int .i64 0, .int .i64 0], .agg #[.int .i64 0, .int .i64 0]], []⟩ 8 (by kernel_rfl) (by kernel_rfl) (by kernel_rfl) (by kernel_rfl)) ?_
  intro W base args ds gs before hval0 hW _ _
  have hval : ∀ (j : Nat) t v, Try.f7.params[j]? = some t → args[j]? = some v → Value.okWide Try.prog W .any base t v := hval0
  have hW' := hW
  obtain ⟨p, q, hA0, hV, rfl, _, _⟩ := hW
  have hA : DataW.TrodAll enc Try.prog W 0 (fun _ => true) true Try.f7.params.toList args.toList ds p := hA0
  rw [Try.params7] at hA hval
  obtain ⟨v0, vs0, d0, ds0, p0, q0, hargs, rfl, rfl, h0, r0⟩ := trodAll_cons hA
  obtain ⟨v1, vs1, d1, ds1, p1, q1, rfl, rfl, rfl, h1, r1⟩ := trodAll_cons r0
  obtain ⟨rfl, rfl, rfl⟩ := trodAll_nil r1
  obtain rfl : args = #[v0, v1] := by cases args; simp_all
  obtain ⟨rfl, rfl⟩ := trodVars_none hV
  have k0 := h0
  have lt0 : ∀ x ∈ p0, x.block < W.heap.size := by obtain ⟨m, hm⟩ := k0; exact DataW.trod_lt m _ _ _ hm
  obtain ⟨m0, fm0, rfl⟩ := open_M (hval 0 24 v0 rfl rfl) h0
  have k1 := h1
  have lt1 : ∀ x ∈ p1, x.block < W.heap.size := by obtain ⟨m, hm⟩ := k1; exact DataW.trod_lt m _ _ _ hm
  obtain ⟨m1, fm1, rfl⟩ := open_M (hval 1 24 v1 rfl rfl) h1
  clear hA0 hval0 hval
  refine (memberSpeaks_walk W m0 fm0 m1 fm1).mono fun e W' ⟨he, bel⟩ => ?_
  subst he
  exact ⟨_, rfl, _, _, _, [], _, [], hW', trodAll_mk1 (shut_bool Try.underlying4 _), (trodAll_cons_mk (Below.trod laidOut (by kernel_rfl) (of_decide_eq_true (by kernel_rfl)) k0 bel lt0) (trodAll_cons_mk (Below.trod laidOut (by kernel_rfl) (of_decide_eq_true (by kernel_rfl)) k1 bel lt1) trodAll_mk0)), rfl, bel.frame _, fun h => by cases h⟩

theorem memberSpeaks_holds : Rows.MemberSpeaksSaid :=
  OpenClaim.holds_of_wide 7 Try.f7 rfl rfl rfl rfl rfl rfl rfl ⟨rfl, rfl, rfl, rfl, rfl⟩ rfl rfl rfl rfl rfl (by kernel_rfl) Try.func7 (by kernel_rfl)
    (of_decide_eq_true (by kernel_rfl)) (by unfold Func.isWrapper; first | (rw [if_pos (by decide +kernel)]; kernel_rfl) | (rw [if_neg (by decide +kernel)]; exact ⟨rfl, rfl⟩))
    (fun os started H enc _ => memberSpeaks_lifted os started H enc)
#print axioms memberSpeaks_holds
end Go.Proofs.Ytecehbodemiijaa

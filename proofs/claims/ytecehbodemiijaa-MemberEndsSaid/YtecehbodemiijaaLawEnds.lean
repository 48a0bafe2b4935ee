/- MemberEnds holds: one who does not answer is suspected, and then dead, and stays so till it speaks, and nothing joined is what is known. Conditions: none. -/
import Derived.Test.YtecehbodemiijaaBx
namespace Go.Proofs.Ytecehbodemiijaa
open Go.ChangeShapes Go.WideShapes Go.ChangeAt Go.RowKit Go.Joins Go.Deep

theorem ends_law (m : M) (hm : may m = true) : ∃ s : M, sus m = s ∧ ¬ s.st = 0 ∧ bur s = ⟨m.inc, 2⟩ := by
  have h := may_of _ hm
  obtain ⟨i, st⟩ := m
  simp only at h
  unfold sus bur
  by_cases h0 : st = 0
  · exact ⟨⟨i, 1⟩, by simp [h0], by simp, by simp⟩
  · by_cases h1 : st = 1
    · exact ⟨⟨i, st⟩, by simp [h0], h0, by simp [h1]⟩
    · exact ⟨⟨i, st⟩, by simp [h0], h0, by rw [if_neg h1]; simp; omega⟩
theorem spk_dead (m : M) : ∃ k, spk m ⟨m.inc, 2⟩ = ⟨k, 0⟩ := by
  unfold spk
  rw [if_neg (by simp)]
  split <;> exact ⟨_, rfl⟩
theorem al_left (n : Nat) (l k : Nat → M) (i : Nat) (hi : i < n) : al n 0 l k i = l i := by unfold al; simp [hi]
theorem al_right (n : Nat) (l k : Nat → M) (i : Nat) : al 0 n k l i = l i := by unfold al; simp

set_option maxRecDepth 100000 in
set_option maxHeartbeats 4000000 in
theorem memberEnds_walk (w : World) (a : M) (fa : a.fits) (A : Option Addr) (n c : Nat) (l : Nat → M) (rA : Rd w w.heap.size 2 A n (mc l)) (zA : A = none → c = 0) (_bA : n ≤ 9223372036854775807) (_fA : ∀ i, i < n → (l i).fits) :
    Calls Try.prog 8 #[a.v, .slice A n c] w fun e w' => e = .returned (.bool true) ∧ Below w.heap.size w w' := by
  simp only [M.v]
  have ZA := Lib.hid zA
  have FA := Lib.hid fa
  clear zA fa _fA
  by_cases h1 : 50 < n
  · go_enter Try.func8, Try.ntmps8
    go_wp2_with fail
    refine (awake_any _).mono ?_
    rintro e w1 ⟨rfl, hb1⟩
    have x0 : Bx w1 (w.heap.size) a := (Bx.new w a 24).next hb1
    have hbl : Below w.heap.size w w1 := below_chain ((Below.refl _ _).alloc (Nat.le_refl _) _) hb1
    clear hb1
    have x0l := x0.lt
    have x0a := x0.1
    have x0b := x0.2
    go_wp2
    go_ret
    exact ⟨rfl, hbl⟩
  · cases ha : may a with
    | false =>
      have HA := Lib.hid ha
      clear ha
      go_enter Try.func8, Try.ntmps8
      go_wp2_with fail
      refine (awake_any _).mono ?_
      rintro e w1 ⟨rfl, hb1⟩
      have x0 : Bx w1 (w.heap.size) a := (Bx.new w a 24).next hb1
      have hbl : Below w.heap.size w w1 := below_chain ((Below.refl _ _).alloc (Nat.le_refl _) _) hb1
      clear hb1
      have x0l := x0.lt
      have x0a := x0.1
      have x0b := x0.2
      go_wp2_with fail
      clear x0a x0b x0l
      refine (check_no a HA.out _).mono ?_
      rintro e w2 ⟨rfl, hb2⟩
      have hbl := below_chain hbl hb2
      go_wp2
      go_ret
      exact ⟨rfl, hbl⟩
    | true =>
      have HA := Lib.hid ha
      obtain ⟨s, hs, hs0, hd⟩ := ends_law a ha
      obtain ⟨k, hk⟩ := spk_dead a
      have HS := Lib.hid hs
      have HD := Lib.hid hd
      have HK := Lib.hid hk
      have hs1 : (s.st == 0) = false := bool_beq_false hs0
      have hs2 : (s.st != 0) = true := by simp [hs0]
      have hsd : decide (s.st = 0) = false := by simp [hs0]
      have fd : M.fits ⟨a.inc, 2⟩ := by have := FA.out; unfold M.fits at *; simp only; omega
      have FD := Lib.hid fd
      clear ha hs hd hk fd hs0
      go_enter Try.func8, Try.ntmps8
      go_wp2_with fail
      refine (awake_any _).mono ?_
      rintro e w1 ⟨rfl, hb1⟩
      have x0 : Bx w1 (w.heap.size) a := (Bx.new w a 24).next hb1
      have hbl : Below w.heap.size w w1 := below_chain ((Below.refl _ _).alloc (Nat.le_refl _) _) hb1
      clear hb1
      have x0l := x0.lt
      have x0a := x0.1
      have x0b := x0.2
      go_wp2_with fail
      clear x0a x0b x0l
      refine (check_yes a HA.out _).mono ?_
      rintro e w2 ⟨rfl, hb2⟩
      have x0' := x0.next hb2
      clear x0
      have x0 := x0'
      clear x0'
      have hbl := below_chain hbl hb2
      have x0l2 := x0.lt
      have x0a2 := x0.1
      have x0b2 := x0.2
      go_wp2_with fail
      clear x0l2 x0a2 x0b2
      refine (suspect_is a s HS.out _).mono ?_
      rintro e w3 ⟨rfl, hb3⟩
      have x0' := x0.next hb3
      clear x0
      have x0 := x0'
      clear x0'
      have hbl := below_chain hbl hb3
      have x0l3 := x0.lt
      have x0a3 := x0.1
      have x0b3 := x0.2
      go_wp2_with fail
      clear x0l3 x0a3 x0b3
      have x0' := x0.alloc (Obj.cells #[Value.int IntKind.i64 s.inc, Value.int IntKind.i64 s.st] 24)
      clear x0
      have x0 := x0'
      clear x0'
      have x1 := Bx.new w3 s 24
      have hbl := hbl.alloc hbl.size (Obj.cells #[Value.int IntKind.i64 s.inc, Value.int IntKind.i64 s.st] 24)
      refine (bury_is s ⟨a.inc, 2⟩ HD.out _).mono ?_
      rintro e w4 ⟨rfl, hb4⟩
      have x0' := x0.next hb4
      clear x0
      have x0 := x0'
      clear x0'
      have x1' := x1.next hb4
      clear x1
      have x1 := x1'
      clear x1'
      have hbl := below_chain hbl hb4
      have x0l4 := x0.lt
      have x0a4 := x0.1
      have x0b4 := x0.2
      have x1l4 := x1.lt
      have x1a4 := x1.1
      have x1b4 := x1.2
      go_wp2_with fail
      clear x0l4 x0a4 x0b4 x1l4 x1a4 x1b4
      have x0' := x0.alloc (Obj.cells #[Value.int IntKind.i64 a.inc, Value.int IntKind.i64 2] 24)
      clear x0
      have x0 := x0'
      clear x0'
      have x1' := x1.alloc (Obj.cells #[Value.int IntKind.i64 a.inc, Value.int IntKind.i64 2] 24)
      clear x1
      have x1 := x1'
      clear x1'
      have x2 := Bx.new w4 ⟨a.inc, 2⟩ 24
      have hbl := hbl.alloc hbl.size (Obj.cells #[Value.int IntKind.i64 a.inc, Value.int IntKind.i64 2] 24)
      clear hb2 hb3 hb4
      have x0l := x0.lt
      have x0a := x0.1
      have x0b := x0.2
      have x1l := x1.lt
      have x1a := x1.1
      have x1b := x1.2
      have x2l := x2.lt
      have x2a := x2.1
      have x2b := x2.2
      generalize (w4.alloc (Obj.cells #[Value.int IntKind.i64 a.inc, Value.int IntKind.i64 2] 24)) = wy at *
      clear x0 x1 x2
      go_region_held3 (fun w' => w'.cell? ⟨w.heap.size, 0, none⟩ = some (.int .i64 a.inc) ∧ w'.cell? ⟨w.heap.size, 1, none⟩ = some (.int .i64 a.st) ∧ w'.cell? ⟨w3.heap.size, 0, none⟩ = some (.int .i64 s.inc) ∧ w'.cell? ⟨w3.heap.size, 1, none⟩ = some (.int .i64 s.st) ∧ w'.cell? ⟨w4.heap.size, 0, none⟩ = some (.int .i64 a.inc) ∧ w'.cell? ⟨w4.heap.size, 1, none⟩ = some (.int .i64 2))
        (first | go_keep | (go_split_ands; refine ⟨?_, ?_, ?_, ?_, ?_, ?_⟩ <;> (rw [hb.cell (by simp; omega)]; assumption)))
        (first | (go_at_call 17; ((with_reducible refine (suspect_is ⟨a.inc, 2⟩ ⟨a.inc, 2⟩ rfl _).mono ?_); rintro e w' ⟨rfl, hb⟩; have hs := hb.size; (try simp at hs); have hbl : Below w.heap.size w w' := (by first | exact below_chain hbl hb | exact below_chain hbl.drew hb))) | (go_at_call 19; ((with_reducible refine (bury_is ⟨a.inc, 2⟩ ⟨a.inc, 2⟩ rfl _).mono ?_); rintro e w' ⟨rfl, hb⟩; have hs := hb.size; (try simp at hs); have hbl : Below w.heap.size w w' := (by first | exact below_chain hbl hb | exact below_chain hbl.drew hb))))
      go_split_ands
      go_wp2_with fail
      refine (speak_is a ⟨a.inc, 2⟩ ⟨k, 0⟩ FD.out HK.out _).mono ?_
      rintro e w5 ⟨rfl, hb5⟩
      have hbl := below_chain hbl hb5
      go_wp2_with fail
      have y := Bx.new w5 ⟨k, 0⟩ 24
      have hbl := hbl.alloc hbl.size (Obj.cells #[Value.int IntKind.i64 k, Value.int IntKind.i64 0] 24)
      generalize (w5.alloc (Obj.cells #[Value.int IntKind.i64 k, Value.int IntKind.i64 0] 24)) = w6 at *
      obtain ⟨N1, hN1⟩ : ∃ N, N = max n 0 := ⟨_, rfl⟩
      obtain ⟨N2, hN2⟩ : ∃ N, N = max 0 n := ⟨_, rfl⟩
      have lN1 : N1 ≤ 1000 := by omega
      have lN2 : N2 ≤ 1000 := by omega
      have HN1 := Lib.hid hN1
      have HN2 := Lib.hid hN2
      clear hN1 hN2
      refine (all_rd (k := l) HN1.out (rA.next hbl) Rd.zero ZA.out (fun _ => rfl) (by omega) (by omega)).mono ?_
      rintro e w7 ⟨A1, c1, rfl, r1, -, hb7⟩
      have hbl := below_chain hbl hb7
      have y' := y.next hb7
      clear y
      go_wp2_with fail
      refine (same_yes r1 (rA.next hbl) (by omega) (by have := HN1.out; omega) (fun i hi => al_left n l l i (by have := HN1.out; omega))).mono ?_
      rintro e w8 ⟨rfl, hb8⟩
      have hbl := below_chain hbl hb8
      have y := y'.next hb8
      clear y'
      go_wp2_with fail
      refine (all_rd (l := l) HN2.out Rd.zero (rA.next hbl) (fun _ => rfl) ZA.out (by omega) (by omega)).mono ?_
      rintro e w9 ⟨A2, c2, rfl, r2, -, hb9⟩
      have hbl := below_chain hbl hb9
      have y' := y.next hb9
      clear y
      go_wp2_with fail
      refine (same_yes r2 (rA.next hbl) (by omega) (by have := HN2.out; omega) (fun i _ => al_right n l l i)).mono ?_
      rintro e w10 ⟨rfl, hb10⟩
      have hbl := below_chain hbl hb10
      have y := y'.next hb10
      clear y'
      have ya := y.1
      have yb := y.2
      go_wp2
      go_ret
      exact ⟨rfl, hbl⟩

set_option maxRecDepth 100000 in
theorem memberEnds_lifted (os : Os) (started : os.Started) (H : Type) (enc : TypeId × Value → H) :
    ReturnsInHanded {} Try.checked os 8 .any (Rows.memberEndsSpec.pre6 enc Try.prog Try.f8 Rows.memberEndsRow.domain false) (Rows.memberEndsSpec.post enc Try.prog Try.f8 false true false false) := by
  refine returnsInHanded_of_change (C := Try.checked) own started (by kernel_rfl) Try.func8
    (ChangeSpec.witness6 (enc := enc) (C := Try.checked) false ⟨#[], #[.agg #[.int .i64 0, .int .i64 0], .slice none 0 0], []⟩ 8 (by kernel_rfl) (by kernel_rfl) (by kernel_rfl) (by kernel_rfl)) ?_
  intro W base args ds gs before hval0 hW _ _
  have hval : ∀ (j : Nat) t v, Try.f8.params[j]? = some t → args[j]? = some v → Value.okWide Try.prog W .any base t v := hval0
  have hW' := hW
  obtain ⟨p, q, hA0, hV, rfl, _, _⟩ := hW
  have hA : DataW.TrodAll enc Try.prog W 0 (fun _ => true) true Try.f8.params.toList args.toList ds p := hA0
  rw [Try.params8] at hA hval
  obtain ⟨v0, vs0, d0, ds0, p0, q0, hargs, rfl, rfl, h0, r0⟩ := trodAll_cons hA
  obtain ⟨v1, vs1, d1, ds1, p1, q1, rfl, rfl, rfl, h1, r1⟩ := trodAll_cons r0
  obtain ⟨rfl, rfl, rfl⟩ := trodAll_nil r1
  obtain rfl : args = #[v0, v1] := by cases args; simp_all
  obtain ⟨rfl, rfl⟩ := trodVars_none hV
  have k0 := h0
  have lt0 : ∀ x ∈ p0, x.block < W.heap.size := by obtain ⟨m, hm⟩ := k0; exact DataW.trod_lt m _ _ _ hm
  obtain ⟨m0, fm0, rfl⟩ := open_M (hval 0 24 v0 rfl rfl) h0
  have k1 := h1
  have lt1 : ∀ x ∈ p1, x.block < W.heap.size := by obtain ⟨m, hm⟩ := k1; exact DataW.trod_lt m _ _ _ hm
  obtain ⟨A1, n1, c1, l1, rfl, rd1, z1, b1, fl1⟩ := open_Ms (hval 1 30 v1 rfl rfl) h1
  clear hA0 hval0 hval
  refine (memberEnds_walk W m0 fm0 A1 n1 c1 l1 rd1 z1 b1 fl1).mono fun e W' ⟨he, bel⟩ => ?_
  subst he
  exact ⟨_, rfl, _, _, _, [], _, [], hW', trodAll_mk1 (shut_bool Try.underlying4 _), (trodAll_cons_mk (Below.trod laidOut (by kernel_rfl) (of_decide_eq_true (by kernel_rfl)) k0 bel lt0) (trodAll_cons_mk (Below.trod laidOut (by kernel_rfl) (of_decide_eq_true (by kernel_rfl)) k1 bel lt1) trodAll_mk0)), rfl, bel.frame _, fun h => by cases h⟩

theorem memberEnds_holds : Rows.MemberEndsSaid :=
  OpenClaim.holds_of_wide 8 Try.f8 rfl rfl rfl rfl rfl rfl rfl ⟨rfl, rfl, rfl, rfl, rfl⟩ rfl rfl rfl rfl rfl (by kernel_rfl) Try.func8 (by kernel_rfl)
    (of_decide_eq_true (by kernel_rfl)) (by unfold Func.isWrapper; first | (rw [if_pos (by decide +kernel)]; kernel_rfl) | (rw [if_neg (by decide +kernel)]; exact ⟨rfl, rfl⟩))
    (fun os started H enc _ => memberEnds_lifted os started H enc)
#print axioms memberEnds_holds
end Go.Proofs.Ytecehbodemiijaa

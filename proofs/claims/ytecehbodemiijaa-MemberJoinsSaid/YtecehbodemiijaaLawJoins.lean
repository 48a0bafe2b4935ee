/- MemberJoins holds: in whatever order, and however often, what is known is joined, it is the same. Conditions: none. -/
import Derived.Test.YtecehbodemiijaaAllRd
namespace Go.Proofs.Ytecehbodemiijaa
open Go.ChangeShapes Go.WideShapes Go.ChangeAt Go.RowKit Go.Joins Go.Deep

set_option maxHeartbeats 2000000 in
theorem memberJoins_walk (w : World) (A : Option Addr) (n c : Nat) (l : Nat → M) (rA : Rd w w.heap.size 2 A n (mc l)) (zA : A = none → c = 0) (_bA : n ≤ 9223372036854775807) (_fA : ∀ i, i < n → (l i).fits) (B : Option Addr) (m d : Nat) (k : Nat → M) (rB : Rd w w.heap.size 2 B m (mc k)) (zB : B = none → d = 0) (_bB : m ≤ 9223372036854775807) (_fB : ∀ i, i < m → (k i).fits) (C : Option Addr) (q g : Nat) (j : Nat → M) (rC : Rd w w.heap.size 2 C q (mc j)) (zC : C = none → g = 0) (_bC : q ≤ 9223372036854775807) (_fC : ∀ i, i < q → (j i).fits) :
    Calls Try.prog 6 #[.slice A n c, .slice B m d, .slice C q g] w fun e w' => e = .returned (.bool true) ∧ Below w.heap.size w w' := by
  have ZA := Lib.hid zA
  have ZB := Lib.hid zB
  have ZC := Lib.hid zC
  clear zA zB zC _fA _fB _fC
  by_cases h1 : 50 < n
  · go_enter Try.func6, Try.ntmps6
    go_wp2_with (go_at_call 10; refine (awake_any _).mono ?_; rintro e w1 ⟨rfl, hb1⟩)
    go_ret
    exact ⟨rfl, hb1⟩
  by_cases h2 : 50 < m
  · go_enter Try.func6, Try.ntmps6
    go_wp2_with (go_at_call 10; refine (awake_any _).mono ?_; rintro e w1 ⟨rfl, hb1⟩)
    go_ret
    exact ⟨rfl, hb1⟩
  by_cases h3 : 50 < q
  · go_enter Try.func6, Try.ntmps6
    go_wp2_with (go_at_call 10; refine (awake_any _).mono ?_; rintro e w1 ⟨rfl, hb1⟩)
    go_ret
    exact ⟨rfl, hb1⟩
  go_enter Try.func6, Try.ntmps6
  go_wp2_with (go_at_call 10; refine (awake_any _).mono ?_; rintro e w1 ⟨rfl, hb1⟩)
  obtain ⟨N1, hN1⟩ : ∃ N, N = max n m := ⟨_, rfl⟩
  have lN1 : N1 ≤ 1000 := by omega
  have HN1 := Lib.hid hN1
  clear hN1
  refine (all_rd HN1.out (rA.next hb1) (rB.next hb1) ZA.out ZB.out (by omega) (by omega)).mono ?_
  rintro e w2 ⟨A1, c1, rfl, r1, z1', hb2⟩
  have Z1h := Lib.hid z1'
  clear z1'
  have b2 := below_chain hb1 hb2
  go_wp2_with fail
  obtain ⟨N2, hN2⟩ : ∃ N, N = max m n := ⟨_, rfl⟩
  have lN2 : N2 ≤ 1000 := by omega
  have HN2 := Lib.hid hN2
  clear hN2
  refine (all_rd HN2.out (rB.next b2) (rA.next b2) ZB.out ZA.out (by omega) (by omega)).mono ?_
  rintro e w3 ⟨A2, c2, rfl, r2, z2', hb3⟩
  have Z2h := Lib.hid z2'
  clear z2'
  have b3 := below_chain b2 hb3
  go_wp2_with fail
  refine (same_yes (r1.next hb3) r2 (by omega) (by rw [HN1.out, HN2.out, Nat.max_comm]) (fun i hi => al_comm n m l k i (by rw [← HN1.out]; exact hi))).mono ?_
  rintro e w4 ⟨rfl, hb4⟩
  have b4 := below_chain b3 hb4
  go_wp2_with fail
  obtain ⟨N3, hN3⟩ : ∃ N, N = max N1 q := ⟨_, rfl⟩
  have lN3 : N3 ≤ 1000 := by omega
  have HN3 := Lib.hid hN3
  clear hN3
  refine (all_rd HN3.out ((r1.next hb3).next hb4) (rC.next b4) Z1h.out ZC.out (by omega) (by omega)).mono ?_
  rintro e w5 ⟨A3, c3, rfl, r3, z3', hb5⟩
  have Z3h := Lib.hid z3'
  clear z3'
  have b5 := below_chain b4 hb5
  go_wp2_with fail
  obtain ⟨N4, hN4⟩ : ∃ N, N = max m q := ⟨_, rfl⟩
  have lN4 : N4 ≤ 1000 := by omega
  have HN4 := Lib.hid hN4
  clear hN4
  refine (all_rd HN4.out (rB.next b5) (rC.next b5) ZB.out ZC.out (by omega) (by omega)).mono ?_
  rintro e w6 ⟨A4, c4, rfl, r4, z4', hb6⟩
  have Z4h := Lib.hid z4'
  clear z4'
  have b6 := below_chain b5 hb6
  go_wp2_with fail
  obtain ⟨N5, hN5⟩ : ∃ N, N = max n N4 := ⟨_, rfl⟩
  have lN5 : N5 ≤ 1000 := by omega
  have HN5 := Lib.hid hN5
  clear hN5
  refine (all_rd HN5.out (rA.next b6) r4 ZA.out Z4h.out (by omega) (by omega)).mono ?_
  rintro e w7 ⟨A5, c5, rfl, r5, z5', hb7⟩
  have Z5h := Lib.hid z5'
  clear z5'
  have b7 := below_chain b6 hb7
  go_wp2_with fail
  refine (same_yes ((r3.next hb6).next hb7) r5 (by omega) (by rw [HN3.out, HN5.out, HN4.out, HN1.out, Nat.max_assoc]) (fun i hi => by rw [HN3.out, HN1.out] at hi; have := al_assoc n m q l k j i hi; rw [← HN1.out, ← HN4.out] at this; exact this)).mono ?_
  rintro e w8 ⟨rfl, hb8⟩
  have b8 := below_chain b7 hb8
  go_wp2_with fail
  obtain ⟨N6, hN6⟩ : ∃ N, N = max N1 m := ⟨_, rfl⟩
  have lN6 : N6 ≤ 1000 := by omega
  have HN6 := Lib.hid hN6
  clear hN6
  refine (all_rd HN6.out ((((((r1.next hb3).next hb4).next hb5).next hb6).next hb7).next hb8) (rB.next b8) Z1h.out ZB.out (by omega) (by omega)).mono ?_
  rintro e w9 ⟨A6, c6, rfl, r6, z6', hb9⟩
  have Z6h := Lib.hid z6'
  clear z6'
  have b9 := below_chain b8 hb9
  go_wp2_with fail
  refine (same_yes r6 (((((((r1.next hb3).next hb4).next hb5).next hb6).next hb7).next hb8).next hb9) (by omega) (by have h1 := HN6.out; have h2 := HN1.out; omega) (fun i hi => by rw [HN6.out, HN1.out] at hi; have := al_absorb n m l k i hi; rw [← HN1.out] at this; exact this)).mono ?_
  rintro e w10 ⟨rfl, hb10⟩
  have b10 := below_chain b9 hb10
  go_wp2_with fail
  obtain ⟨N7, hN7⟩ : ∃ N, N = max n n := ⟨_, rfl⟩
  have lN7 : N7 ≤ 1000 := by omega
  have HN7 := Lib.hid hN7
  clear hN7
  refine (all_rd HN7.out (rA.next b10) (rA.next b10) ZA.out ZA.out (by omega) (by omega)).mono ?_
  rintro e w11 ⟨A7, c7, rfl, r7, z7', hb11⟩
  have Z7h := Lib.hid z7'
  clear z7'
  have b11 := below_chain b10 hb11
  go_wp2_with fail
  refine (same_yes r7 (rA.next b11) (by omega) (by have h1 := HN7.out; omega) (fun i hi => al_self n l i (by rw [← HN7.out]; exact hi))).mono ?_
  rintro e w12 ⟨rfl, hb12⟩
  have b12 := below_chain b11 hb12
  go_wp2_with fail
  go_ret
  exact ⟨rfl, b12⟩

set_option maxRecDepth 100000 in
theorem memberJoins_lifted (os : Os) (started : os.Started) (H : Type) (enc : TypeId × Value → H) :
    ReturnsInHanded {} Try.checked os 6 .any (Rows.memberJoinsSpec.pre6 enc Try.prog Try.f6 Rows.memberJoinsRow.domain false) (Rows.memberJoinsSpec.post enc Try.prog Try.f6 false true false false) := by
  refine returnsInHanded_of_change (C := Try.checked) own started (by kernel_rfl) Try.func6
    (ChangeSpec.witness6 (enc := enc) (C := Try.checked) false ⟨#[], #[.slice none 0 0, .slice none 0 0, .slice none 0 0], []⟩ 8 (by kernel_rfl) (by kernel_rfl) (by kernel_rfl) (by kernel_rfl)) ?_
  intro W base args ds gs before hval0 hW _ _
  have hval : ∀ (j : Nat) t v, Try.f6.params[j]? = some t → args[j]? = some v → Value.okWide Try.prog W .any base t v := hval0
  have hW' := hW
  obtain ⟨p, q, hA0, hV, rfl, _, _⟩ := hW
  have hA : DataW.TrodAll enc Try.prog W 0 (fun _ => true) true Try.f6.params.toList args.toList ds p := hA0
  rw [Try.params6] at hA hval
  obtain ⟨v0, vs0, d0, ds0, p0, q0, hargs, rfl, rfl, h0, r0⟩ := trodAll_cons hA
  obtain ⟨v1, vs1, d1, ds1, p1, q1, rfl, rfl, rfl, h1, r1⟩ := trodAll_cons r0
  obtain ⟨v2, vs2, d2, ds2, p2, q2, rfl, rfl, rfl, h2, r2⟩ := trodAll_cons r1
  obtain ⟨rfl, rfl, rfl⟩ := trodAll_nil r2
  obtain rfl : args = #[v0, v1, v2] := by cases args; simp_all
  obtain ⟨rfl, rfl⟩ := trodVars_none hV
  have k0 := h0
  have lt0 : ∀ x ∈ p0, x.block < W.heap.size := by obtain ⟨m, hm⟩ := k0; exact DataW.trod_lt m _ _ _ hm
  obtain ⟨A0, n0, c0, l0, rfl, rd0, z0, b0, fl0⟩ := open_Ms (hval 0 30 v0 rfl rfl) h0
  have k1 := h1
  have lt1 : ∀ x ∈ p1, x.block < W.heap.size := by obtain ⟨m, hm⟩ := k1; exact DataW.trod_lt m _ _ _ hm
  obtain ⟨A1, n1, c1, l1, rfl, rd1, z1, b1, fl1⟩ := open_Ms (hval 1 30 v1 rfl rfl) h1
  have k2 := h2
  have lt2 : ∀ x ∈ p2, x.block < W.heap.size := by obtain ⟨m, hm⟩ := k2; exact DataW.trod_lt m _ _ _ hm
  obtain ⟨A2, n2, c2, l2, rfl, rd2, z2, b2, fl2⟩ := open_Ms (hval 2 30 v2 rfl rfl) h2
  clear hA0 hval0 hval
  refine (memberJoins_walk W A0 n0 c0 l0 rd0 z0 b0 fl0 A1 n1 c1 l1 rd1 z1 b1 fl1 A2 n2 c2 l2 rd2 z2 b2 fl2).mono fun e W' ⟨he, bel⟩ => ?_
  subst he
  exact ⟨_, rfl, _, _, _, [], _, [], hW', trodAll_mk1 (shut_bool Try.underlying4 _), (trodAll_cons_mk (Below.trod laidOut (by kernel_rfl) (of_decide_eq_true (by kernel_rfl)) k0 bel lt0) (trodAll_cons_mk (Below.trod laidOut (by kernel_rfl) (of_decide_eq_true (by kernel_rfl)) k1 bel lt1) (trodAll_cons_mk (Below.trod laidOut (by kernel_rfl) (of_decide_eq_true (by kernel_rfl)) k2 bel lt2) trodAll_mk0))), rfl, bel.frame _, fun h => by cases h⟩

theorem memberJoins_holds : Rows.MemberJoinsSaid :=
  OpenClaim.holds_of_wide 6 Try.f6 rfl rfl rfl rfl rfl rfl rfl ⟨rfl, rfl, rfl, rfl, rfl⟩ rfl rfl rfl rfl rfl (by kernel_rfl) Try.func6 (by kernel_rfl)
    (of_decide_eq_true (by kernel_rfl)) (by unfold Func.isWrapper; first | (rw [if_pos (by decide +kernel)]; kernel_rfl) | (rw [if_neg (by decide +kernel)]; exact ⟨rfl, rfl⟩))
    (fun os started H enc _ => memberJoins_lifted os started H enc)
#print axioms memberJoins_holds
end Go.Proofs.Ytecehbodemiijaa

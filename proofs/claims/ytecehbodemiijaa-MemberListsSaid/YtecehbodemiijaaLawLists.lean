/- MemberLists holds: what two know of many is what the document says. Conditions: none. -/
import Derived.Test.YtecehbodemiijaaAllRd
namespace Go.Proofs.Ytecehbodemiijaa
open Go.ChangeShapes Go.WideShapes Go.ChangeAt Go.RowKit Go.Joins Go.Deep

set_option maxHeartbeats 1000000 in
theorem memberLists_walk (w : World) (A : Option Addr) (n c : Nat) (l : Nat → M) (rA : Rd w w.heap.size 2 A n (mc l)) (zA : A = none → c = 0) (_bA : n ≤ 9223372036854775807) (_fA : ∀ i, i < n → (l i).fits) (B : Option Addr) (m d : Nat) (k : Nat → M) (rB : Rd w w.heap.size 2 B m (mc k)) (zB : B = none → d = 0) (_bB : m ≤ 9223372036854775807) (_fB : ∀ i, i < m → (k i).fits) :
    Calls Try.prog 5 #[.slice A n c, .slice B m d] w fun e w' => e = .returned (.bool true) ∧ Below w.heap.size w w' := by
  have ZA := Lib.hid zA
  have ZB := Lib.hid zB
  clear zA zB
  by_cases h1 : 50 < n
  · go_enter Try.func5, Try.ntmps5
    go_wp2_with (go_at_call 10; refine (awake_any _).mono ?_; rintro e w1 ⟨rfl, hb1⟩)
    go_ret
    exact ⟨rfl, hb1⟩
  · by_cases h2 : 50 < m
    · go_enter Try.func5, Try.ntmps5
      go_wp2_with (go_at_call 10; refine (awake_any _).mono ?_; rintro e w1 ⟨rfl, hb1⟩)
      go_ret
      exact ⟨rfl, hb1⟩
    · go_enter Try.func5, Try.ntmps5
      go_wp2_with (go_at_call 10; refine (awake_any _).mono ?_; rintro e w1 ⟨rfl, hb1⟩)
      refine (all_rd rfl (rA.next hb1) (rB.next hb1) ZA.out ZB.out (by omega) (by omega)).mono ?_
      rintro e w2 ⟨A1, c1, rfl, r1, -, hb2⟩
      have b2 := below_chain hb1 hb2
      go_wp2_with fail
      refine (rall_rd (rA.next b2) (rB.next b2) (by omega) (by omega)).mono ?_
      rintro e w3 ⟨A2, c2, rfl, r2, -, hb3⟩
      have b3 := below_chain b2 hb3
      go_wp2_with fail
      refine (same_yes (r1.next hb3) r2 (by omega) rfl (fun _ _ => rfl)).mono ?_
      rintro e w4 ⟨rfl, hb4⟩
      have b4 := below_chain b3 hb4
      go_wp2
      go_ret
      exact ⟨rfl, b4⟩

set_option maxRecDepth 100000 in
theorem memberLists_lifted (os : Os) (started : os.Started) (H : Type) (enc : TypeId × Value → H) :
    ReturnsInHanded {} Try.checked os 5 .any (Rows.memberListsSpec.pre6 enc Try.prog Try.f5 Rows.memberListsRow.domain false) (Rows.memberListsSpec.post enc Try.prog Try.f5 false true false false) := by
  refine returnsInHanded_of_change (C := Try.checked) own started (by kernel_rfl) Try.func5
    (ChangeSpec.witness6 (enc := enc) (C := Try.checked) false ⟨#[], #[.slice none 0 0, .slice none 0 0], []⟩ 8 (by kernel_rfl) (by kernel_rfl) (by kernel_rfl) (by kernel_rfl)) ?_
  intro W base args ds gs before hval0 hW _ _
  have hval : ∀ (j : Nat) t v, Try.f5.params[j]? = some t → args[j]? = some v → Value.okWide Try.prog W .any base t v := hval0
  have hW' := hW
  obtain ⟨p, q, hA0, hV, rfl, _, _⟩ := hW
  have hA : DataW.TrodAll enc Try.prog W 0 (fun _ => true) true Try.f5.params.toList args.toList ds p := hA0
  rw [Try.params5] at hA hval
  obtain ⟨v0, vs0, d0, ds0, p0, q0, hargs, rfl, rfl, h0, r0⟩ := trodAll_cons hA
  obtain ⟨v1, vs1, d1, ds1, p1, q1, rfl, rfl, rfl, h1, r1⟩ := trodAll_cons r0
  obtain ⟨rfl, rfl, rfl⟩ := trodAll_nil r1
  obtain rfl : args = #[v0, v1] := by cases args; simp_all
  obtain ⟨rfl, rfl⟩ := trodVars_none hV
  have k0 := h0
  have lt0 : ∀ x ∈ p0, x.block < W.heap.size := by obtain ⟨m, hm⟩ := k0; exact DataW.trod_lt m _ _ _ hm
  obtain ⟨A0, n0, c0, l0, rfl, rd0, z0, b0, fl0⟩ := open_Ms (hval 0 30 v0 rfl rfl) h0
  have k1 := h1
  have lt1 : ∀ x ∈ p1, x.block < W.heap.size := by obtain ⟨m, hm⟩ := k1; exact DataW.trod_lt m _ _ _ hm
  obtain ⟨A1, n1, c1, l1, rfl, rd1, z1, b1, fl1⟩ := open_Ms (hval 1 30 v1 rfl rfl) h1
  clear hA0 hval0 hval
  refine (memberLists_walk W A0 n0 c0 l0 rd0 z0 b0 fl0 A1 n1 c1 l1 rd1 z1 b1 fl1).mono fun e W' ⟨he, bel⟩ => ?_
  subst he
  exact ⟨_, rfl, _, _, _, [], _, [], hW', trodAll_mk1 (shut_bool Try.underlying4 _), (trodAll_cons_mk (Below.trod laidOut (by kernel_rfl) (of_decide_eq_true (by kernel_rfl)) k0 bel lt0) (trodAll_cons_mk (Below.trod laidOut (by kernel_rfl) (of_decide_eq_true (by kernel_rfl)) k1 bel lt1) trodAll_mk0)), rfl, bel.frame _, fun h => by cases h⟩

theorem memberLists_holds : Rows.MemberListsSaid :=
  OpenClaim.holds_of_wide 5 Try.f5 rfl rfl rfl rfl rfl rfl rfl ⟨rfl, rfl, rfl, rfl, rfl⟩ rfl rfl rfl rfl rfl (by kernel_rfl) Try.func5 (by kernel_rfl)
    (of_decide_eq_true (by kernel_rfl)) (by unfold Func.isWrapper; first | (rw [if_pos (by decide +kernel)]; kernel_rfl) | (rw [if_neg (by decide +kernel)]; exact ⟨rfl, rfl⟩))
    (fun os started H enc _ => memberLists_lifted os started H enc)
#print axioms memberLists_holds
end Go.Proofs.Ytecehbodemiijaa

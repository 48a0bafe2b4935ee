/- ShaTrees holds: the digest of any digests is what the document says. Conditions: none. -/
import Derived.Test.YtmpbimechgelfaaRTree
import Derived.Test.YtmpbimechgelfaaSOpen
namespace Go.Proofs.Ytmpbimechgelfaa
open Go.ChangeShapes Go.WideShapes Go.ChangeAt Go.RowKit Go.Joins Go.Deep

set_option maxRecDepth 100000 in
set_option maxHeartbeats 8000000 in
theorem shaTrees_walk (w : World) (A : Option Addr) (c : Nat) (l : List (Nat → Nat)) (hb : Hs w w.heap.size A l) (_hnn : A = none → l.length = 0 ∧ c = 0) (hz : l.length ≤ c ∧ c ≤ maxLen) (ho : ∀ h ∈ l, ∀ j, h j < 256) :
    Calls Try.prog 13 #[.slice A l.length c] w fun e w' => e = .returned (.bool true) ∧ Below w.heap.size w w' := by
  have HI := Lib.hid hb
  have HO := Lib.hid ho
  have HZ := Lib.hid hz
  have hcm : l.length ≤ maxLen := by omega
  unfold maxLen at hcm
  obtain ⟨n, hn⟩ : ∃ n, n = l.length := ⟨_, rfl⟩
  rw [← hn] at hcm HZ ⊢
  have HN := Lib.hid hn
  clear hb ho hz hn
  go_enter Try.func13, Try.ntmps13
  go_wp2_with fail
  refine (awake_any _).mono ?_
  rintro e w1 ⟨rfl, hb1⟩
  have HB1 := Lib.hid hb1
  have HL := Lib.hid (HI.out.next hb1)
  clear HI hb1
  by_cases h40 : n ≤ 40
  · have hd1 : decide ((40 : Int) < (n : Int)) = false := by simp; omega
    obtain ⟨D, hD⟩ : ∃ D, D = hc (treeF n l) := ⟨_, rfl⟩
    have hev : ∀ W, (Op.equalIn 10000 33 (.agg D) (.agg D)).run Try.prog W = .ok true W := fun W => by rw [hD, eq_hash, eqh_self]
    have HC1 : Hid (∀ W, Below w1.heap.size w1 W → Calls Try.prog 31 #[.slice A n c] W fun e w' => e = .returned (.agg D) ∧ Below W.heap.size W w') := Lib.hid fun W hb => by
      have h := tree_any n l A c W (HL.out.next hb) HO.out (by rw [← HN.out]; omega) (by rw [← HN.out]; omega) (by rw [← HN.out]; exact HZ.out.1) HZ.out.2
      rw [← hD, ← HN.out] at h
      exact h
    have HC2 : Hid (∀ W, Below w1.heap.size w1 W → Calls Try.prog 36 #[.slice A n c] W fun e w' => e = .returned (.agg D) ∧ Below W.heap.size W w') := Lib.hid fun W hb => by
      have h := rtree_any n l A c W (HL.out.next hb) HO.out (by rw [← HN.out]; omega) (by rw [← HN.out]; omega) (by rw [← HN.out]; exact HZ.out.1) HZ.out.2
      rw [← hD, ← HN.out] at h
      exact h
    clear hD HL
    go_wp2_with fail
    refine (HC1.out w1 (Below.refl _ _)).mono ?_
    rintro e w2 ⟨rfl, hb2⟩
    have HB2 := Lib.hid hb2
    clear hb2
    go_wp2_with fail
    refine (HC2.out w2 HB2.out).mono ?_
    rintro e w3 ⟨rfl, hb3⟩
    have HB3 := Lib.hid (below_chain HB2.out hb3)
    clear hb3
    go_wp2_with fail
    go_ret
    exact ⟨rfl, below_chain HB1.out HB3.out⟩
  · go_wp2_with fail
    go_ret
    exact ⟨rfl, HB1.out⟩

set_option maxRecDepth 100000 in
theorem shaTrees_lifted (os : Os) (started : os.Started) (H : Type) (enc : TypeId × Value → H) :
    ReturnsInHanded {} Try.checked os 13 .any (Rows.shaTreesSpec.pre6 enc Try.prog Try.f13 Rows.shaTreesRow.domain false) (Rows.shaTreesSpec.post enc Try.prog Try.f13 false true false false) := by
  refine returnsInHanded_of_change (C := Try.checked) own started (by kernel_rfl) Try.func13
    (ChangeSpec.witness6 (enc := enc) (C := Try.checked) false ⟨#[], #[.slice none 0 0], []⟩ 8 (by kernel_rfl) (by kernel_rfl) (by kernel_rfl) (by kernel_rfl)) ?_
  intro W base args ds gs before hval0 hW _ _
  have hval : ∀ (j : Nat) t v, Try.f13.params[j]? = some t → args[j]? = some v → Value.okWide Try.prog W .any base t v := hval0
  have hW' := hW
  obtain ⟨p, q, hA0, hV, rfl, _, _⟩ := hW
  have hA : DataW.TrodAll enc Try.prog W 0 (fun _ => true) true Try.f13.params.toList args.toList ds p := hA0
  rw [Try.params13] at hA hval
  obtain ⟨v0, vs0, d0, ds0, p0, q0, hargs, rfl, rfl, h0, r0⟩ := trodAll_cons hA
  obtain ⟨rfl, rfl, rfl⟩ := trodAll_nil r0
  obtain rfl : args = #[v0] := by cases args; simp_all
  obtain ⟨rfl, rfl⟩ := trodVars_none hV
  have k0 := h0
  have lt0 : ∀ x ∈ p0, x.block < W.heap.size := by obtain ⟨m, hm⟩ := k0; exact DataW.trod_lt m _ _ _ hm
  obtain ⟨A0, c0, l0, rfl, b0, n0, z0, o0⟩ := open_Hs (hval 0 32 v0 rfl rfl) h0
  clear hA0 hval0 hval
  refine (shaTrees_walk W A0 c0 l0 b0 n0 z0 o0).mono fun e W' ⟨he, bel⟩ => ?_
  subst he
  exact ⟨_, rfl, _, _, _, [], _, [], hW', trodAll_mk1 (shut_bool Try.underlying4 _), (trodAll_cons_mk (Below.trod laidOut (by kernel_rfl) (of_decide_eq_true (by kernel_rfl)) k0 bel lt0) trodAll_mk0), rfl, bel.frame _, fun h => by cases h⟩

theorem shaTrees_holds : Rows.ShaTreesSaid :=
  OpenClaim.holds_of_wide 13 Try.f13 rfl rfl rfl rfl rfl rfl rfl ⟨rfl, rfl, rfl, rfl, rfl⟩ rfl rfl rfl rfl rfl (by kernel_rfl) Try.func13 (by kernel_rfl)
    (of_decide_eq_true (by kernel_rfl)) (by unfold Func.isWrapper; first | (rw [if_pos (by decide +kernel)]; kernel_rfl) | (rw [if_neg (by decide +kernel)]; exact ⟨rfl, rfl⟩))
    (fun os started H enc _ => shaTrees_lifted os started H enc)
#print axioms shaTrees_holds
end Go.Proofs.Ytmpbimechgelfaa

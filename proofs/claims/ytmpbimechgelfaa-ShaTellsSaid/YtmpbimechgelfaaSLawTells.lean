/- ShaTells holds: the digest of any text, and its code by any key, are what the document says. Conditions: none. -/
import Derived.Test.YtmpbimechgelfaaRCode
namespace Go.Proofs.Ytmpbimechgelfaa
open Go.ChangeShapes Go.WideShapes Go.ChangeAt Go.RowKit Go.Joins Go.Deep

set_option maxRecDepth 100000 in
set_option maxHeartbeats 8000000 in
theorem shaTells_walk (w : World) (A1 : Option Addr) (c1 : Nat) (t : List Nat) (h1 : InB w A1 c1 t) (A2 : Option Addr) (c2 : Nat) (k : List Nat) (h2 : InB w A2 c2 k) :
    Calls Try.prog 12 #[.slice A1 t.length c1, .slice A2 k.length c2] w fun e w' => e = .returned (.bool true) ∧ Below w.heap.size w w' := by
  have HI1 := Lib.hid h1
  have HI2 := Lib.hid h2
  have hcm1 : t.length ≤ maxLen := by have := h1.cap; omega
  have hcm2 : k.length ≤ maxLen := by have := h2.cap; omega
  unfold maxLen at hcm1 hcm2
  obtain ⟨n, hn⟩ : ∃ n, n = t.length := ⟨_, rfl⟩
  obtain ⟨m, hm⟩ : ∃ m, m = k.length := ⟨_, rfl⟩
  rw [← hn] at hcm1 ⊢
  rw [← hm] at hcm2 ⊢
  have HN := Lib.hid hn
  have HM := Lib.hid hm
  clear h1 h2 hn hm
  go_enter Try.func12, Try.ntmps12
  go_wp2_with fail
  refine (awake_any _).mono ?_
  rintro e w1 ⟨rfl, hb1⟩
  have HB1 := Lib.hid hb1
  have HT := Lib.hid (HI1.out.next hb1)
  have HK := Lib.hid (HI2.out.next hb1)
  clear HI1 HI2 hb1
  by_cases ht500 : n ≤ 500
  · by_cases hk500 : m ≤ 500
    · have hd1 : decide ((500 : Int) < (n : Int)) = false := by simp; omega
      have hd2 : decide ((500 : Int) < (m : Int)) = false := by simp; omega
      obtain ⟨D1, hD1⟩ : ∃ D, D = hc (sumH t) := ⟨_, rfl⟩
      obtain ⟨D2, hD2⟩ : ∃ D, D = hc (codeH k t) := ⟨_, rfl⟩
      have hev1 : ∀ W, (Op.equalIn 10000 33 (.agg D1) (.agg D1)).run Try.prog W = .ok true W := fun W => by rw [hD1, eq_hash, eqh_self]
      have hev2 : ∀ W, (Op.equalIn 10000 33 (.agg D2) (.agg D2)).run Try.prog W = .ok true W := fun W => by rw [hD2, eq_hash, eqh_self]
      have HC1 : Hid (∀ W, Below w1.heap.size w1 W → Calls Try.prog 29 #[.slice (some ⟨W.heap.size, 0, none⟩) 1 1] (W.alloc (.cells #[.slice A1 n c1] 31)) fun e w' => e = .returned (.agg D1) ∧ Below (W.alloc (.cells #[.slice A1 n c1] 31)).heap.size (W.alloc (.cells #[.slice A1 n c1] 31)) w') := Lib.hid fun W hb => by
        have hT := HT.out.next hb
        have h := sum_any _ 1 [.slice A1 n c1] [t] _ (by have h := Prt.one (t := 31) (c := c1) hT.bs hT.byt; rw [← HN.out] at h; exact h) (Nat.le_refl _) (by simp) (by simp; have := HN.out; omega)
        rw [show hc (sumH [t].flatten) = D1 from by rw [hD1]; simp] at h
        exact h
      have HC2 : Hid (∀ W, Below w1.heap.size w1 W → Calls Try.prog 34 #[.slice A1 n c1] W fun e w' => e = .returned (.agg D1) ∧ Below W.heap.size W w') := Lib.hid fun W hb => by
        have hT := HT.out.next hb
        have h := rsum_any A1 n c1 t W hT.bs HN.out hT.byt (by rw [← HN.out]; omega) (fun e => (hT.none_ e).2)
        rw [← hD1] at h
        exact h
      have HC3 : Hid (∀ W, Below w1.heap.size w1 W → Calls Try.prog 30 #[.slice A2 m c2, .slice A1 n c1] W fun e w' => e = .returned (.agg D2) ∧ Below W.heap.size W w') := Lib.hid fun W hb => by
        have h := code_any A2 A1 c2 c1 k t W (HK.out.next hb).bs (HT.out.next hb).bs HK.out.byt HT.out.byt (by rw [← HM.out]; omega) (by rw [← HN.out]; omega)
        rw [← HN.out, ← HM.out, ← hD2] at h
        exact h
      have HC4 : Hid (∀ W, Below w1.heap.size w1 W → Calls Try.prog 35 #[.slice A2 m c2, .slice A1 n c1] W fun e w' => e = .returned (.agg D2) ∧ Below W.heap.size W w') := Lib.hid fun W hb => by
        have hT := HT.out.next hb
        have hK := HK.out.next hb
        have h := rcode_any A2 A1 m n c2 c1 k t W hK.bs hT.bs hK.byt hT.byt HM.out HN.out (by omega) (by omega) (fun e => (hK.none_ e).2) (fun e => (hT.none_ e).2)
        rw [← hD2] at h
        exact h
      clear hD1 hD2 HT HK
      go_wp2_with fail
      refine (HC1.out w1 (Below.refl _ _)).mono ?_
      rintro e w2 ⟨rfl, hb2⟩
      have HB2 := Lib.hid (show Below w1.heap.size w1 w2 from below_chain ((Below.refl _ _).alloc (Nat.le_refl _) _) hb2)
      clear hb2
      go_wp2_with fail
      refine (HC2.out w2 HB2.out).mono ?_
      rintro e w3 ⟨rfl, hb3⟩
      have HB3 := Lib.hid (below_chain HB2.out hb3)
      clear hb3
      go_wp2_with fail
      refine (HC3.out w3 HB3.out).mono ?_
      rintro e w4 ⟨rfl, hb4⟩
      have HB4 := Lib.hid (below_chain HB3.out hb4)
      clear hb4
      go_wp2_with fail
      refine (HC4.out w4 HB4.out).mono ?_
      rintro e w5 ⟨rfl, hb5⟩
      have HB5 := Lib.hid (below_chain HB4.out hb5)
      clear hb5
      go_wp2_with fail
      go_ret
      exact ⟨rfl, below_chain HB1.out HB5.out⟩
    · go_wp2_with fail
      go_ret
      exact ⟨rfl, HB1.out⟩
  · go_wp2_with fail
    go_ret
    exact ⟨rfl, HB1.out⟩

set_option maxRecDepth 100000 in
theorem shaTells_lifted (os : Os) (started : os.Started) (H : Type) (enc : TypeId × Value → H) :
    ReturnsInHanded {} Try.checked os 12 .any (Rows.shaTellsSpec.pre6 enc Try.prog Try.f12 Rows.shaTellsRow.domain false) (Rows.shaTellsSpec.post enc Try.prog Try.f12 false true false false) := by
  refine returnsInHanded_of_change (C := Try.checked) own started (by kernel_rfl) Try.func12
    (ChangeSpec.witness6 (enc := enc) (C := Try.checked) false ⟨#[], #[.slice none 0 0, .slice none 0 0], []⟩ 8 (by kernel_rfl) (by kernel_rfl) (by kernel_rfl) (by kernel_rfl)) ?_
  intro W base args ds gs before hval0 hW _ _
  have hval : ∀ (j : Nat) t v, Try.f12.params[j]? = some t → args[j]? = some v → Value.okWide Try.prog W .any base t v := hval0
  have hW' := hW
  obtain ⟨p, q, hA0, hV, rfl, _, _⟩ := hW
  have hA : DataW.TrodAll enc Try.prog W 0 (fun _ => true) true Try.f12.params.toList args.toList ds p := hA0
  rw [Try.params12] at hA hval
  obtain ⟨v0, vs0, d0, ds0, p0, q0, hargs, rfl, rfl, h0, r0⟩ := trodAll_cons hA
  obtain ⟨v1, vs1, d1, ds1, p1, q1, rfl, rfl, rfl, h1, r1⟩ := trodAll_cons r0
  obtain ⟨rfl, rfl, rfl⟩ := trodAll_nil r1
  obtain rfl : args = #[v0, v1] := by cases args; simp_all
  obtain ⟨rfl, rfl⟩ := trodVars_none hV
  have k0 := h0
  have lt0 : ∀ x ∈ p0, x.block < W.heap.size := by obtain ⟨m, hm⟩ := k0; exact DataW.trod_lt m _ _ _ hm
  obtain ⟨A0, c0, l0, rfl, b0⟩ := open_B (hval 0 31 v0 rfl rfl) h0
  have k1 := h1
  have lt1 : ∀ x ∈ p1, x.block < W.heap.size := by obtain ⟨m, hm⟩ := k1; exact DataW.trod_lt m _ _ _ hm
  obtain ⟨A1, c1, l1, rfl, b1⟩ := open_B (hval 1 31 v1 rfl rfl) h1
  clear hA0 hval0 hval
  refine (shaTells_walk W A0 c0 l0 b0 A1 c1 l1 b1).mono fun e W' ⟨he, bel⟩ => ?_
  subst he
  exact ⟨_, rfl, _, _, _, [], _, [], hW', trodAll_mk1 (shut_bool Try.underlying4 _), (trodAll_cons_mk (Below.trod laidOut (by kernel_rfl) (of_decide_eq_true (by kernel_rfl)) k0 bel lt0) (trodAll_cons_mk (Below.trod laidOut (by kernel_rfl) (of_decide_eq_true (by kernel_rfl)) k1 bel lt1) trodAll_mk0)), rfl, bel.frame _, fun h => by cases h⟩

theorem shaTells_holds : Rows.ShaTellsSaid :=
  OpenClaim.holds_of_wide 12 Try.f12 rfl rfl rfl rfl rfl rfl rfl ⟨rfl, rfl, rfl, rfl, rfl⟩ rfl rfl rfl rfl rfl (by kernel_rfl) Try.func12 (by kernel_rfl)
    (of_decide_eq_true (by kernel_rfl)) (by unfold Func.isWrapper; first | (rw [if_pos (by decide +kernel)]; kernel_rfl) | (rw [if_neg (by decide +kernel)]; exact ⟨rfl, rfl⟩))
    (fun os started H enc _ => shaTells_lifted os started H enc)
#print axioms shaTells_holds
end Go.Proofs.Ytmpbimechgelfaa

/- TransferPicks holds: which chunk is asked for, and whom, how many are missing and whether all are there are what the document says. Conditions: none. -/
import Derived.Test.YtmpbimechgelfaaRPick
import Derived.Test.YtmpbimechgelfaaTAwake
import Derived.Test.YtmpbimechgelfaaTOpen
namespace Go.Proofs.Ytmpbimechgelfaa
open Go.ChangeShapes Go.WideShapes Go.ChangeAt Go.RowKit Go.Joins Go.Deep

set_option maxRecDepth 100000 in
set_option maxHeartbeats 8000000 in
theorem transferPicks_walk (w : World) (A0 : Option Addr) (c0 : Nat) (hv : List Bool) (hi : InO w A0 c0 hv) (A1 : Option Addr) (c1 : Nat) (vs : List Value) (ls : List (List Bool)) (hp : Pb w w.heap.size A1 vs ls) (_hnn : A1 = none → ls.length = 0 ∧ c1 = 0) (hz : ls.length ≤ c1 ∧ c1 ≤ maxLen)
    (d : Nat) (hd : d < 18446744073709551616) :
    Calls Try.prog 3 #[.slice A0 hv.length c0, .slice A1 ls.length c1, .int .u64 (d : Int)] w fun e w' => e = .returned (.bool true) ∧ Below w.heap.size w w' := by
  have hcm0 : hv.length ≤ maxLen := Nat.le_trans hi.cap.1 hi.cap.2
  have hcm1 : ls.length ≤ maxLen := by omega
  unfold maxLen at hcm0 hcm1
  have HI := Lib.hid hi
  have HP := Lib.hid hp
  have HD := Lib.hid hd
  obtain ⟨n, hn⟩ : ∃ n, n = hv.length := ⟨_, rfl⟩
  obtain ⟨m, hm⟩ : ∃ m, m = ls.length := ⟨_, rfl⟩
  rw [← hn] at hcm0 ⊢
  rw [← hm] at hcm1 ⊢
  have HN := Lib.hid hn
  have HM := Lib.hid hm
  clear hi hp hd hn hm hz
  go_enter Try.func3, Try.ntmps3
  go_wp2_with fail
  refine (tawake_any _).mono ?_
  rintro e w1 ⟨rfl, hb1⟩
  have HB1 := Lib.hid hb1
  have HI1 := Lib.hid (HI.out.next hb1)
  have HP1 := Lib.hid (HP.out.next hb1)
  clear HI HP hb1
  by_cases h80 : 80 < n
  · have d1 : decide ((80 : Int) < (n : Int)) = true := by simp; omega
    go_wp2_with fail
    go_ret
    exact ⟨rfl, HB1.out⟩
  have d1 : decide ((80 : Int) < (n : Int)) = false := by simp; omega
  by_cases h12 : 12 < m
  · have d2 : decide ((12 : Int) < (m : Int)) = true := by simp; omega
    go_wp2_with fail
    go_ret
    exact ⟨rfl, HB1.out⟩
  have d2 : decide ((12 : Int) < (m : Int)) = false := by simp; omega
  have HPK := Lib.hid (pick_any d hv A0 c0 A1 c1 vs ls w1 HI1.out.bo HP1.out (by rw [← HM.out]; omega) (by rw [← HN.out]; omega) HD.out)
  have HRP := Lib.hid (fun (W : World) (hb : Below w1.heap.size w1 W) => rpick_any d hv A0 c0 A1 c1 vs ls W (HI1.out.bo.next hb) (HP1.out.next hb) (by rw [← HM.out]; omega) (by rw [← HN.out]; omega) HD.out)
  have HRM := Lib.hid (fun (W : World) (hb : Below w1.heap.size w1 W) => rmissing_any hv A0 c0 W (HI1.out.bo.next hb) (by rw [← HN.out]; omega))
  have HMI := Lib.hid (fun (W : World) (hb : Below w1.heap.size w1 W) => missing_any hv A0 c0 W (HI1.out.bo.next hb) (by rw [← HN.out]; omega))
  have HDN := Lib.hid (fun (W : World) (hb : Below w1.heap.size w1 W) => done_any hv A0 c0 W (HI1.out.bo.next hb) (by rw [← HN.out]; omega))
  rw [← HN.out, ← HM.out] at HPK HRP
  rw [← HN.out] at HRM HMI HDN
  obtain ⟨x, hx⟩ : ∃ x, x = missB hv := ⟨_, rfl⟩
  rw [← hx] at HRM HMI
  have hdn : doneB hv = (decide (0 < n) && decide (x = 0)) := by unfold doneB; rw [← HN.out, ← hx]
  rw [hdn] at HDN
  obtain ⟨o, ho⟩ : ∃ o, o = pickF hv ls d := ⟨_, rfl⟩
  rw [← ho] at HPK HRP
  clear hx hdn ho HN HM HI1 HP1 HD
  have HFIN : ∀ (a b : Int) (t : Bool), Hid (pkV o = .tuple #[.int .i64 a, .int .i64 b, .bool t]) → True := fun _ _ _ _ => trivial
  clear HFIN
  have htup : ∃ (a b : Int) (t : Bool), pkV o = .tuple #[.int .i64 a, .int .i64 b, .bool t] := by
    cases o with
    | none => exact ⟨0, 0, false, rfl⟩
    | some x => exact ⟨(x.1 : Int), (x.2 : Int), true, rfl⟩
  obtain ⟨a, b, t, htup⟩ := htup
  rw [htup] at HPK HRP
  clear htup
  go_wp2_with fail
  refine HPK.out.mono ?_
  rintro e w2 ⟨rfl, hb2⟩
  have HB2 := Lib.hid hb2
  clear hb2
  go_wp2_with fail
  refine (HRP.out w2 HB2.out).mono ?_
  rintro e w' ⟨rfl, hw⟩
  have hw2 := hw.symm
  clear hw
  subst hw2
  go_wp2_with fail
  refine (HRM.out w2 HB2.out).mono ?_
  rintro e w' ⟨rfl, hw⟩
  have hw2 := hw.symm
  clear hw
  subst hw2
  have e1 : (a == a) = true := by simp
  have e2 : (b == b) = true := by simp
  have e3 : (t == t) = true := by simp
  have e4 : ((x : Int) == (x : Int)) = true := by simp
  go_wp2_with fail
  refine (HMI.out w2 HB2.out).mono ?_
  rintro e w' ⟨rfl, hw⟩
  have hw2 := hw.symm
  clear hw
  subst hw2
  by_cases hx0 : x = 0
  · have d3 : ((x : Int) == 0) = true := by simp; omega
    by_cases hn0 : 0 < n
    · have d4 : decide ((0 : Int) < (n : Int)) = true := by simp; omega
      have HDT := Lib.hid (HDN.out w2 HB2.out)
      rw [decide_eq_true hn0, decide_eq_true hx0] at HDT
      clear hx0 HDN
      go_wp2_with fail
      refine HDT.out.mono ?_
      rintro e w' ⟨rfl, hw⟩
      have hw2 := hw.symm
      clear hw
      subst hw2
      go_wp2_with fail
      go_ret
      exact ⟨rfl, below_chain HB1.out HB2.out⟩
    · have d4 : decide ((0 : Int) < (n : Int)) = false := by simp; omega
      have HDT := Lib.hid (HDN.out w2 HB2.out)
      rw [decide_eq_false hn0, Bool.false_and] at HDT
      clear hx0 HDN
      go_wp2_with fail
      refine HDT.out.mono ?_
      rintro e w' ⟨rfl, hw⟩
      have hw2 := hw.symm
      clear hw
      subst hw2
      go_wp2_with fail
      go_ret
      exact ⟨rfl, below_chain HB1.out HB2.out⟩
  · have d3 : ((x : Int) == 0) = false := by simp; omega
    have HDT := Lib.hid (HDN.out w2 HB2.out)
    rw [decide_eq_false hx0, Bool.and_false] at HDT
    clear hx0 HDN
    go_wp2_with fail
    refine HDT.out.mono ?_
    rintro e w' ⟨rfl, hw⟩
    have hw2 := hw.symm
    clear hw
    subst hw2
    go_wp2_with fail
    go_ret
    exact ⟨rfl, below_chain HB1.out HB2.out⟩

set_option maxRecDepth 100000 in
theorem transferPicks_lifted (os : Os) (started : os.Started) (H : Type) (enc : TypeId × Value → H) :
    ReturnsInHanded {} Try.checked os 3 .any (Rows.transferPicksSpec.pre6 enc Try.prog Try.f3 Rows.transferPicksRow.domain false) (Rows.transferPicksSpec.post enc Try.prog Try.f3 false true false false) := by
  refine returnsInHanded_of_change (C := Try.checked) own started (by kernel_rfl) Try.func3
    (ChangeSpec.witness6 (enc := enc) (C := Try.checked) false ⟨#[], #[.slice none 0 0, .slice none 0 0, .int .u64 0], []⟩ 8 (by kernel_rfl) (by kernel_rfl) (by kernel_rfl) (by kernel_rfl)) ?_
  intro W base args ds gs before hval0 hW _ _
  have hval : ∀ (j : Nat) t v, Try.f3.params[j]? = some t → args[j]? = some v → Value.okWide Try.prog W .any base t v := hval0
  have hW' := hW
  obtain ⟨p, q, hA0, hV, rfl, _, _⟩ := hW
  have hA : DataW.TrodAll enc Try.prog W 0 (fun _ => true) true Try.f3.params.toList args.toList ds p := hA0
  rw [Try.params3] at hA hval
  obtain ⟨v0, vs0, d0, ds0, p0, q0, hargs, rfl, rfl, h0, r0⟩ := trodAll_cons hA
  obtain ⟨v1, vs1, d1, ds1, p1, q1, rfl, rfl, rfl, h1, r1⟩ := trodAll_cons r0
  obtain ⟨v2, vs2, d2, ds2, p2, q2, rfl, rfl, rfl, h2, r2⟩ := trodAll_cons r1
  obtain ⟨rfl, rfl, rfl⟩ := trodAll_nil r2
  obtain rfl : args = #[v0, v1, v2] := by cases args; simp_all
  obtain ⟨rfl, rfl⟩ := trodVars_none hV
  have k0 := h0
  have lt0 : ∀ x ∈ p0, x.block < W.heap.size := by obtain ⟨m, hm⟩ := k0; exact DataW.trod_lt m _ _ _ hm
  obtain ⟨A0, c0, l0, rfl, b0⟩ := open_O (hval 0 22 v0 rfl rfl) h0
  have k1 := h1
  have lt1 : ∀ x ∈ p1, x.block < W.heap.size := by obtain ⟨m, hm⟩ := k1; exact DataW.trod_lt m _ _ _ hm
  obtain ⟨A1, c1, ws1, l1, rfl, b1, n1, z1⟩ := open_Os (hval 1 23 v1 rfl rfl) h1
  have k2 := h2
  have lt2 : ∀ x ∈ p2, x.block < W.heap.size := by obtain ⟨m, hm⟩ := k2; exact DataW.trod_lt m _ _ _ hm
  obtain ⟨n2, rfl, f2⟩ := open_u64 (hval 2 24 v2 rfl rfl) h2
  clear hA0 hval0 hval
  refine (transferPicks_walk W A0 c0 l0 b0 A1 c1 ws1 l1 b1 n1 z1 n2 f2).mono fun e W' ⟨he, bel⟩ => ?_
  subst he
  exact ⟨_, rfl, _, _, _, [], _, [], hW', trodAll_mk1 (shut_bool Try.underlying4 _), (trodAll_cons_mk (Below.trod laidOut (by kernel_rfl) (of_decide_eq_true (by kernel_rfl)) k0 bel lt0) (trodAll_cons_mk (Below.trod laidOut (by kernel_rfl) (of_decide_eq_true (by kernel_rfl)) k1 bel lt1) (trodAll_cons_mk (Below.trod laidOut (by kernel_rfl) (of_decide_eq_true (by kernel_rfl)) k2 bel lt2) trodAll_mk0))), rfl, bel.frame _, fun h => by cases h⟩

theorem transferPicks_holds : Rows.TransferPicksSaid :=
  OpenClaim.holds_of_wide 3 Try.f3 rfl rfl rfl rfl rfl rfl rfl ⟨rfl, rfl, rfl, rfl, rfl⟩ rfl rfl rfl rfl rfl (by kernel_rfl) Try.func3 (by kernel_rfl)
    (of_decide_eq_true (by kernel_rfl)) (by unfold Func.isWrapper; first | (rw [if_pos (by decide +kernel)]; kernel_rfl) | (rw [if_neg (by decide +kernel)]; exact ⟨rfl, rfl⟩))
    (fun os started H enc _ => transferPicks_lifted os started H enc)
#print axioms transferPicks_holds
end Go.Proofs.Ytmpbimechgelfaa

/- CodeNeeds holds: what is given up by a need is told so, and nothing comes of none. Conditions: none. -/
import Derived.Test.YtbnlobfhcanbgaaCOpen
import Derived.Test.YtbnlobfhcanbgaaCAwake
import Derived.Test.YtbnlobfhcanbgaaPlain
import Derived.Test.YtbnlobfhcanbgaaNil
namespace Go.Proofs.Ytbnlobfhcanbgaa
open Go.ChangeShapes Go.WideShapes Go.ChangeAt Go.RowKit Go.Joins Go.Deep

theorem below_grown {B p : Nat} {w w' : World} (h : w.grownBy w' (some p)) (hp : B ≤ p) (hw : B ≤ w.heap.size) : Below B w w' :=
  ⟨h.os, h.tape, h.output, h.size, fun i hi => h.block i (by omega) (fun e => by injection e with e; omega)⟩
theorem fit_len {l : List Nat} (h : l.length ≤ 300) : Fit (l.length : Int) := by unfold Fit; omega
theorem textR_enc {l : List Nat} (hl : l.length ≤ 300) {most : Int} (h : (l.length : Int) ≤ most) (r : List Nat) : textR most (some (enc l.length ++ (l ++ r))) = (l, some r) := by
  rw [textR_yes (num_enc (fit_len hl) _) (by rw [unzz_zz]; omega) (by rw [unzz_zz]; exact h) (by rw [unzz_zz]; simp; omega), unzz_zz]
  simp
/-- What the reader reads that is asked for a number 7. -/
def q7 (is : Bool) : Int := if is then 7 else 0
def s7 (is : Bool) : Option (List Nat) := if is then some [] else none
theorem fit7 : Fit 7 := by unfold Fit; omega
theorem int7 (is : Bool) : intR 7 7 (needR is (some (enc 7))) = (q7 is, s7 is) := by
  cases is with
  | false => rfl
  | true =>
    have := intR_enc fit7 (Int.le_refl 7) (Int.le_refl 7) []
    rw [List.append_nil] at this
    exact this
set_option maxRecDepth 100000 in
set_option maxHeartbeats 4000000 in
theorem codeNeeds_walk (w : World) (A : Option Addr) (c : Nat) (l : List Nat) (h : InB w A c l) (is : Bool) : Calls Try.prog 9 #[.slice A l.length c, .bool is] w fun e w' => e = .returned (.bool true) ∧ Below w.heap.size w w' := by
  have HI := Lib.hid h
  have hcm : l.length ≤ maxLen := by have := h.cap; omega
  unfold maxLen at hcm
  clear h
  go_enter Try.func9, Try.ntmps9
  go_wp2_with fail
  refine (awake_any _).mono ?_
  rintro e w1 ⟨rfl, hb1⟩
  have HB1 := Lib.hid hb1
  have HI1 := Lib.hid (HI.out.next hb1)
  clear HI hb1
  by_cases h100 : l.length ≤ 100
  · go_wp2_with fail
    refine (wtext_any w1.heap.size A c l w1.heap.size (.slice none 0 0) [] _ Wr.new (HI1.out.bs.alloc (Nat.le_refl _) _) (fun e => (HI1.out.none_ e).2) (by simp) (by omega)).mono ?_
    rintro e w2 ⟨v2, rfl, k2, l2⟩
    rw [List.nil_append] at k2
    have HK2 := Lib.hid k2
    have HL2 := Lib.hid (((Below.refl w1.heap.size w1).alloc (Nat.le_refl _) (.cells #[.slice none 0 0] 48)).trans l2)
    clear k2 l2
    have hel : (enc l.length).length ≤ 10 := (enc_len (fit_len (l := l) (by omega))).2
    have hel7 : (enc 7).length ≤ 10 := (enc_len fit7).2
    go_wp2_with fail
    refine (wint_any w1.heap.size 7 w1.heap.size v2 (enc l.length ++ l) w2 fit7 HK2.out (by rw [List.length_append]; omega)).mono ?_
    rintro e w3 ⟨v3, rfl, k3, l3⟩
    obtain ⟨X, hX⟩ : ∃ X, X = enc l.length ++ l ++ enc 7 := ⟨_, rfl⟩
    rw [← hX] at k3
    have hXl : X.length ≤ 120 := by rw [hX, List.length_append, List.length_append]; omega
    have HX := Lib.hid hX
    have HXB := Lib.hid (show Byt X from by rw [hX]; exact ((enc_byt _).app HI1.out.byt).app (enc_byt 7))
    have HK3 := Lib.hid k3
    have HL3 := Lib.hid (HL2.out.trans l3)
    clear k3 l3 hX HL2 HK2
    go_wp2_with fail
    refine (wbytes_any w1.heap.size w1.heap.size v3 X w3 HK3.out (by omega)).mono ?_
    rintro e w4 ⟨A4, c4, rfl, b4, z4, o4, l4⟩
    obtain ⟨_, _, hv4, hcap4, hcm4, hz4⟩ := Own.shape o4
    obtain ⟨rfl, -, rfl⟩ := Value.slice.inj hv4
    have HS4 := Lib.hid b4
    have HZ4 := Lib.hid (show A4 = none → X.length = 0 ∧ c4 = 0 from hz4)
    have HL4 := Lib.hid (below_chain HL3.out l4)
    clear b4 z4 o4 l4 hv4 hz4 HL3 HK3
    go_wp2_with fail
    refine (new_any A4 c4 X w4).mono ?_
    rintro e w5 ⟨rfl, hw5⟩
    have HR5 := Lib.hid (show RS w5 w4.heap.size (some X) from ⟨_, c4, by rw [hw5]; exact ⟨alloc_new _ _ _ rfl, HS4.out.below ((Below.refl _ _).alloc (Nat.le_refl _) _), ⟨hcap4, hcm4⟩, HZ4.out, HXB.out⟩⟩)
    have HB5 := Lib.hid (show Below w4.heap.size w4 w5 from by rw [hw5]; exact (Below.refl _ _).alloc (Nat.le_refl _) _)
    clear hw5
    go_wp2_with fail
    refine (need_any w4.heap.size (some X) true w5 HR5.out).mono ?_
    rintro e w6 ⟨rfl, g6, r6⟩
    have HR6 := Lib.hid (show RS w6 w4.heap.size (some X) from r6)
    have HB6 := Lib.hid (HB5.out.trans (below_grown g6 (Nat.le_refl _) (Nat.le_of_lt HR5.out.lt)))
    clear r6 g6 HB5
    go_wp2_with fail
    refine (text_any w4.heap.size (some X) 100 w6 HR6.out (fun l' hl' => by cases hl'; omega) (by unfold Fit; omega)).mono ?_
    rintro e w7 ⟨A7, c7, rfl, g7, r7, o7, z7⟩
    have hT : textR 100 (some X) = (l, some (enc 7)) := by
      rw [HX.out, List.append_assoc]
      exact textR_enc (by omega) (by omega) _
    rw [hT] at r7 o7 ⊢
    have HR7 := Lib.hid r7
    have HB7 := Lib.hid (HB6.out.trans (below_grown g7 (Nat.le_refl _) (Nat.le_of_lt HR6.out.lt)))
    have HO7 := Lib.hid o7
    clear r7 g7 o7 z7 hT HB6
    go_wp2_with fail
    refine (need_any w4.heap.size (some (enc 7)) is w7 HR7.out).mono ?_
    rintro e w8 ⟨rfl, g8, r8⟩
    have HR8 := Lib.hid r8
    have HO8 := Lib.hid (Own.kept HO7.out g8 (.inr fun e => by have := (Own.block HO7.out _ e).1; have := HR6.out.lt; omega))
    have HB8 := Lib.hid (HB7.out.trans (below_grown g8 (Nat.le_refl _) (Nat.le_of_lt HR7.out.lt)))
    clear r8 g8 HB7 HO7
    go_wp2_with fail
    refine (int_any w4.heap.size (needR is (some (enc 7))) 7 7 w8 HR8.out (fun l' hl' => by cases is <;> simp [needR] at hl'; subst hl'; omega) fit7 fit7).mono ?_
    rintro e w9 ⟨rfl, g9, r9⟩
    rw [int7] at r9 ⊢
    have HR9 := Lib.hid r9
    have HO9 := Lib.hid (Own.kept HO8.out g9 (.inr fun e => by have := (Own.block HO8.out _ e).1; have := HR6.out.lt; omega))
    have HB9 := Lib.hid (HB8.out.trans (below_grown g9 (Nat.le_refl _) (Nat.le_of_lt HR8.out.lt)))
    clear r9 g9 HB8 HO8
    go_wp2_with fail
    refine (done_any w4.heap.size (s7 is) w9 HR9.out).mono ?_
    rintro e w10 ⟨rfl, rfl⟩
    obtain ⟨S, hS⟩ : ∃ S, S = str l := ⟨_, rfl⟩
    have hcs := str_conv c7 (Ob.bs HO9.out)
    have hcb := str_conv c ((HI1.out.next (below_chain HL4.out HB9.out)).bs)
    rw [← hS] at hcs hcb
    have HB10 := Lib.hid (below_chain HB1.out (below_chain HL4.out HB9.out))
    clear hS HO9 HR9 HB9 HR8 HR7 HR6 HR5 HS4
    cases is with
    | true => 
      simp only [q7, s7, if_true, doneR]
      go_wp2_with fail
      clear hcs hcb
      refine (need_nil false w10).mono ?_
      rintro e w11 ⟨rfl, l11⟩
      have HB11 := Lib.hid (below_chain HB10.out l11)
      clear l11
      go_wp2_with fail
      refine (wint_nil 5 w11).mono ?_
      rintro e w12 ⟨rfl, rfl⟩
      go_wp2_with fail
      refine (wtext_nil A l.length c w12).mono ?_
      rintro e w13 ⟨rfl, rfl⟩
      go_wp2_with fail
      refine (whash_nil (fun _ => 0) w13).mono ?_
      rintro e w14 ⟨rfl, l14⟩
      have HB14 := Lib.hid (below_chain HB11.out l14)
      clear l14
      go_wp2_with fail
      refine (int_nil 0 5 w14).mono ?_
      rintro e w15 ⟨rfl, l15⟩
      have HB15 := Lib.hid (below_chain HB14.out l15)
      clear l15
      go_wp2_with fail
      refine (text_nil 5 w15).mono ?_
      rintro e w16 ⟨rfl, l16⟩
      have HB16 := Lib.hid (below_chain HB15.out l16)
      clear l16
      go_wp2_with fail
      refine (hash_nil w16).mono ?_
      rintro e w17 ⟨rfl, l17⟩
      have HB17 := Lib.hid (below_chain HB16.out l17)
      clear l17
      have hez := eq_zero w17
      go_wp2_with fail
      refine (done_nil w17).mono ?_
      rintro e w18 ⟨rfl, rfl⟩
      go_wp2_with fail
      refine (wbytes_nil w18).mono ?_
      rintro e w19 ⟨rfl, rfl⟩
      go_wp2_with fail
      go_ret
      exact ⟨rfl, HB17.out⟩
    | false => 
      simp only [q7, s7, if_false, doneR, Bool.false_eq_true]
      go_wp2_with fail
      clear hcs hcb
      refine (need_nil false w10).mono ?_
      rintro e w11 ⟨rfl, l11⟩
      have HB11 := Lib.hid (below_chain HB10.out l11)
      clear l11
      go_wp2_with fail
      refine (wint_nil 5 w11).mono ?_
      rintro e w12 ⟨rfl, rfl⟩
      go_wp2_with fail
      refine (wtext_nil A l.length c w12).mono ?_
      rintro e w13 ⟨rfl, rfl⟩
      go_wp2_with fail
      refine (whash_nil (fun _ => 0) w13).mono ?_
      rintro e w14 ⟨rfl, l14⟩
      have HB14 := Lib.hid (below_chain HB11.out l14)
      clear l14
      go_wp2_with fail
      refine (int_nil 0 5 w14).mono ?_
      rintro e w15 ⟨rfl, l15⟩
      have HB15 := Lib.hid (below_chain HB14.out l15)
      clear l15
      go_wp2_with fail
      refine (text_nil 5 w15).mono ?_
      rintro e w16 ⟨rfl, l16⟩
      have HB16 := Lib.hid (below_chain HB15.out l16)
      clear l16
      go_wp2_with fail
      refine (hash_nil w16).mono ?_
      rintro e w17 ⟨rfl, l17⟩
      have HB17 := Lib.hid (below_chain HB16.out l17)
      clear l17
      have hez := eq_zero w17
      go_wp2_with fail
      refine (done_nil w17).mono ?_
      rintro e w18 ⟨rfl, rfl⟩
      go_wp2_with fail
      refine (wbytes_nil w18).mono ?_
      rintro e w19 ⟨rfl, rfl⟩
      go_wp2_with fail
      go_ret
      exact ⟨rfl, HB17.out⟩
  · go_wp2_with fail
    go_ret
    exact ⟨rfl, HB1.out⟩

set_option maxRecDepth 100000 in
theorem codeNeeds_lifted (os : Os) (started : os.Started) (H : Type) (enc : TypeId × Value → H) :
    ReturnsInHanded {} Try.checked os 9 .any (Rows.codeNeedsSpec.pre6 enc Try.prog Try.f9 Rows.codeNeedsRow.domain false) (Rows.codeNeedsSpec.post enc Try.prog Try.f9 false true false false) := by
  refine returnsInHanded_of_change (C := Try.checked) own started (by kernel_rfl) Try.func9
    (ChangeSpec.witness6 (enc := enc) (C := Try.checked) false ⟨#[], #[.slice none 0 0, .bool false], []⟩ 8 (by kernel_rfl) (by kernel_rfl) (by kernel_rfl) (by kernel_rfl)) ?_
  intro W base args ds gs before hval0 hW _ _
  have hval : ∀ (j : Nat) t v, Try.f9.params[j]? = some t → args[j]? = some v → Value.okWide Try.prog W .any base t v := hval0
  have hW' := hW
  obtain ⟨p, q, hA0, hV, rfl, _, _⟩ := hW
  have hA : DataW.TrodAll enc Try.prog W 0 (fun _ => true) true Try.f9.params.toList args.toList ds p := hA0
  rw [Try.params9] at hA hval
  obtain ⟨v0, vs0, d0, ds0, p0, q0, hargs, rfl, rfl, h0, r0⟩ := trodAll_cons hA
  obtain ⟨v1, vs1, d1, ds1, p1, q1, rfl, rfl, rfl, h1, r1⟩ := trodAll_cons r0
  obtain ⟨rfl, rfl, rfl⟩ := trodAll_nil r1
  obtain rfl : args = #[v0, v1] := by cases args; simp_all
  obtain ⟨rfl, rfl⟩ := trodVars_none hV
  have k0 := h0
  have lt0 : ∀ x ∈ p0, x.block < W.heap.size := by obtain ⟨m, hm⟩ := k0; exact DataW.trod_lt m _ _ _ hm
  obtain ⟨A0, c0, l0, rfl, b0⟩ := open_B (hval 0 25 v0 rfl rfl) h0
  have k1 := h1
  have lt1 : ∀ x ∈ p1, x.block < W.heap.size := by obtain ⟨m, hm⟩ := k1; exact DataW.trod_lt m _ _ _ hm
  obtain ⟨b1, rfl⟩ := okWide_bool Try.underlying4 (hval 1 4 v1 rfl rfl)
  clear hA0 hval0 hval
  refine (codeNeeds_walk W A0 c0 l0 b0 b1).mono fun e W' ⟨he, bel⟩ => ?_
  subst he
  exact ⟨_, rfl, _, _, _, [], _, [], hW', trodAll_mk1 (shut_bool Try.underlying4 _), (trodAll_cons_mk (Below.trod laidOut (by kernel_rfl) (of_decide_eq_true (by kernel_rfl)) k0 bel lt0) (trodAll_cons_mk (Below.trod laidOut (by kernel_rfl) (of_decide_eq_true (by kernel_rfl)) k1 bel lt1) trodAll_mk0)), rfl, bel.frame _, fun h => by cases h⟩

theorem codeNeeds_holds : Rows.CodeNeedsSaid :=
  OpenClaim.holds_of_wide 9 Try.f9 rfl rfl rfl rfl rfl rfl rfl ⟨rfl, rfl, rfl, rfl, rfl⟩ rfl rfl rfl rfl rfl (by kernel_rfl) Try.func9 (by kernel_rfl)
    (of_decide_eq_true (by kernel_rfl)) (by unfold Func.isWrapper; first | (rw [if_pos (by decide +kernel)]; kernel_rfl) | (rw [if_neg (by decide +kernel)]; exact ⟨rfl, rfl⟩))
    (fun os started H enc _ => codeNeeds_lifted os started H enc)
#print axioms codeNeeds_holds
end Go.Proofs.Ytbnlobfhcanbgaa

/- CodeReads holds: what is read of any bytes, whatever is asked for, and whether all was read, is what the document says. Conditions: none. -/
import Derived.Test.YtbnlobfhcanbgaaCFew
import Derived.Test.YtbnlobfhcanbgaaCAwake
import Derived.Test.YtbnlobfhcanbgaaWanted
namespace Go.Proofs.Ytbnlobfhcanbgaa
open Go.ChangeShapes Go.WideShapes Go.ChangeAt Go.RowKit Go.Joins Go.Deep

theorem reads_key {out R : List Pt} (h : out.map Pt.face = R) : out.map key = R.map key := by
  rw [← h, List.map_map]
  exact List.map_congr_left fun x _ => (show key x.face = key x from rfl).symm
theorem pown_bs {w : World} {base : Nat} {v : Value} {out : List Pt} (h : Pown w base v out) : ∀ x ∈ out, Bs w w.heap.size x.A x.b := fun x hx => Ob.bs (h.mem x hx).own
theorem doneR_twenty {s : Option (List Nat)} (h : s ≠ some []) : doneR s = 20 := by
  cases s with
  | none => rfl
  | some l =>
    cases l with
    | nil => exact absurd rfl h
    | cons x l => rfl
set_option maxRecDepth 100000 in
set_option maxHeartbeats 4000000 in
theorem codeReads_walk (w : World) (A : Option Addr) (c : Nat) (bs : List Nat) (hb : InB w A c bs) (A2 : Option Addr) (c2 : Nat) (l : List Pt) (h : InPs w A2 c2 l) : Calls Try.prog 5 #[.slice A bs.length c, .slice A2 l.length c2] w fun e w' => e = .returned (.bool true) ∧ Below w.heap.size w w' := by
  have HI := Lib.hid h
  have HB := Lib.hid hb
  have hcm : bs.length ≤ maxLen := by have := hb.cap; omega
  unfold maxLen at hcm
  clear h hb
  go_enter Try.func5, Try.ntmps5
  go_wp2_with fail
  refine (awake_any _).mono ?_
  rintro e w1 ⟨rfl, hb1⟩
  have HB1 := Lib.hid hb1
  have HI1 := Lib.hid (HI.out.next hb1)
  have HN1 := Lib.hid (HB.out.next hb1)
  clear HI hb1 HB
  by_cases h1000 : bs.length ≤ 1000
  · go_wp2_with fail
    refine (few_any A2 c2 l w1 HI1.out).mono ?_
    rintro e w2 ⟨rfl, rfl⟩
    cases hfew : fewB l with
    | false =>
      go_wp2_with fail
      go_ret
      exact ⟨rfl, HB1.out⟩
    | true =>
      have hlen := (fewB_yes hfew).1
      have HP7 := Lib.hid (show ∀ x ∈ l, x.b.length ≤ 1000 from fun x hx => by have := (fewB_yes hfew).2 x hx; omega)
      have HP := Lib.hid (HI1.out.pts HP7.out)
      clear hfew
      go_wp2_with fail
      refine (read_any A c bs A2 c2 l w2 HN1.out.bs HN1.out.cap HN1.out.none_ HN1.out.byt (by omega) HP.out (by omega)).mono ?_
      rintro e w3 ⟨A3, c3, out3, rfl, f3, p3, l3⟩
      have HK3 := Lib.hid (reads_key f3)
      have HP3 := Lib.hid p3
      have HI3 := Lib.hid (HI1.out.next l3)
      have HN3 := Lib.hid (HN1.out.next l3)
      have HB3 := Lib.hid (below_chain HB1.out l3)
      clear f3 p3 l3 HP
      go_wp2_with fail
      refine (wanted_any A c bs A2 c2 l w3 HN3.out h1000 HI3.out hlen).mono ?_
      rintro e w4 ⟨A4, c4, out4, rfl, t4⟩
      have HT4 := Lib.hid t4
      have HB4 := Lib.hid (below_chain HB3.out t4.below)
      have HP4 := Lib.hid (HP3.out.below t4.below)
      have hlo : out3.length ≤ 100 := by
        have h1 := map_key_len HK3.out
        have h2 := map_key_len t4.key
        have h3 := t4.len
        omega
      have hz4 := t4.below.size
      clear t4
      go_wp2_with fail
      refine (same_yes A3 c3 out3 A4 c4 out4 w4 ⟨Own.rd HP4.out.own, pown_bs HP4.out⟩ ⟨Own.rd HT4.out.own, fun x hx => (HT4.out.bs x hx).more hz4⟩ hlo (HK3.out.trans HT4.out.key.symm)).mono ?_
      rintro e w5 ⟨rfl, l5⟩
      have HB5 := Lib.hid (below_chain HB4.out l5)
      clear l5
      by_cases hs : (readR l (some bs)).2 = some []
      · rw [hs]
        simp only [doneR, decide_true]
        clear hs
        go_wp2_with fail
        go_ret
        exact ⟨rfl, HB5.out⟩
      · rw [doneR_twenty hs, decide_eq_false hs]
        clear hs
        go_wp2_with fail
        go_ret
        exact ⟨rfl, HB5.out⟩
  · go_wp2_with fail
    go_ret
    exact ⟨rfl, HB1.out⟩

set_option maxRecDepth 100000 in
theorem codeReads_lifted (os : Os) (started : os.Started) (H : Type) (enc : TypeId × Value → H) :
    ReturnsInHanded {} Try.checked os 5 .any (Rows.codeReadsSpec.pre6 enc Try.prog Try.f5 Rows.codeReadsRow.domain false) (Rows.codeReadsSpec.post enc Try.prog Try.f5 false true false false) := by
  refine returnsInHanded_of_change (C := Try.checked) own started (by kernel_rfl) Try.func5
    (ChangeSpec.witness6 (enc := enc) (C := Try.checked) false ⟨#[], #[.slice none 0 0, .slice none 0 0], []⟩ 8 (by kernel_rfl) (by kernel_rfl) (by kernel_rfl) (by kernel_rfl)) ?_
  intro W base args ds gs before hval0 hW _ _
  have hval : ∀ (j : Nat) t v, Try.f5.params[j]? = some t → args[j]? = some v → Value.okWide Try.prog W .any base t v := hval0
  have hW' := hW
  obtain ⟨p, q, hA0, hV, rfl, _, _⟩ := hW
  have hA : DataW.TrodAll enc Try.prog W 0 (fun _ => true) true Try.f5.params.toList args.toList ds p := hA0
  rw [Try.params5] at hA hval
  obtain ⟨v0, vs0, d0, ds0, p0, q0, hargs, rfl, rfl, h0, r0⟩ := trodAll_cons hA
  obtain ⟨v1, vs1, d1, ds1, p1, q1, rfl, rfl, rfl, h1, r1⟩ := trodAll_cons r0
  obtain ⟨rfl, rfl, rfl⟩ := trodAll_nil r1
  obtain rfl : args = #[v0, v1] := by cases args; simp_all
  obtain ⟨rfl, rfl⟩ := trodVars_none hV
  have k0 := h0
  have lt0 : ∀ x ∈ p0, x.block < W.heap.size := by obtain ⟨m, hm⟩ := k0; exact DataW.trod_lt m _ _ _ hm
  obtain ⟨A0, c0, l0, rfl, b0⟩ := open_B (hval 0 25 v0 rfl rfl) h0
  have k1 := h1
  have lt1 : ∀ x ∈ p1, x.block < W.heap.size := by obtain ⟨m, hm⟩ := k1; exact DataW.trod_lt m _ _ _ hm
  obtain ⟨A1, c1, l1, rfl, b1⟩ := open_Ps (hval 1 23 v1 rfl rfl) h1
  clear hA0 hval0 hval
  refine (codeReads_walk W A0 c0 l0 b0 A1 c1 l1 b1).mono fun e W' ⟨he, bel⟩ => ?_
  subst he
  exact ⟨_, rfl, _, _, _, [], _, [], hW', trodAll_mk1 (shut_bool Try.underlying4 _), (trodAll_cons_mk (Below.trod laidOut (by kernel_rfl) (of_decide_eq_true (by kernel_rfl)) k0 bel lt0) (trodAll_cons_mk (Below.trod laidOut (by kernel_rfl) (of_decide_eq_true (by kernel_rfl)) k1 bel lt1) trodAll_mk0)), rfl, bel.frame _, fun h => by cases h⟩

theorem codeReads_holds : Rows.CodeReadsSaid :=
  OpenClaim.holds_of_wide 5 Try.f5 rfl rfl rfl rfl rfl rfl rfl ⟨rfl, rfl, rfl, rfl, rfl⟩ rfl rfl rfl rfl rfl (by kernel_rfl) Try.func5 (by kernel_rfl)
    (of_decide_eq_true (by kernel_rfl)) (by unfold Func.isWrapper; first | (rw [if_pos (by decide +kernel)]; kernel_rfl) | (rw [if_neg (by decide +kernel)]; exact ⟨rfl, rfl⟩))
    (fun os started H enc _ => codeReads_lifted os started H enc)
#print axioms codeReads_holds
end Go.Proofs.Ytbnlobfhcanbgaa

/- CodeTexts holds: bytes are read if there may be as many, and given up if there may be fewer, and the answer is memory of its own. Conditions: none. -/
import Derived.Test.YtbnlobfhcanbgaaCOpen
import Derived.Test.YtbnlobfhcanbgaaCAwake
import Derived.Test.YtbnlobfhcanbgaaPlain
import Derived.Deep.RegionHeld
namespace Go.Proofs.Ytbnlobfhcanbgaa
open Go.ChangeShapes Go.WideShapes Go.ChangeAt Go.RowKit Go.Joins Go.Deep

theorem below_grown {B p : Nat} {w w' : World} (h : w.grownBy w' (some p)) (hp : B ≤ p) (hw : B ≤ w.heap.size) : Below B w w' :=
  ⟨h.os, h.tape, h.output, h.size, fun i hi => h.block i (by omega) (fun e => by injection e with e; omega)⟩
/-- A part of bytes, as CodeTexts writes it. -/
def txt (A : Option Addr) (c : Nat) (l : List Nat) : Pt := { Pt.nil with kind := 2, A := A, c := c, b := l }
theorem txt_pts {w : World} {A : Option Addr} {c : Nat} {l : List Nat} (h : InB w A c l) (hl : l.length ≤ 1000) (cs : Array Value) (hcs : cs = (([txt A c l].map ptc).flatten).toArray) :
    Pts (w.alloc (.cells cs 28)) (w.alloc (.cells cs 28)).heap.size (some ⟨w.heap.size, 0, none⟩) 1 [txt A c l] := by
  refine ⟨(pts_new hcs).more (by simp), (by intro h; cases h), ?_⟩
  intro x hx
  simp only [List.mem_cons, List.not_mem_nil, or_false] at hx
  subst hx
  refine ⟨(h.bs.alloc (Nat.le_refl _) _).more (by simp), h.none_, h.byt, hl, ⟨?_, ?_, ?_⟩, fun _ => by simp [txt, Pt.nil]⟩
  all_goals (simp only [txt, Pt.nil]; unfold Fit; omega)
theorem txt_wrs (A : Option Addr) (c : Nat) (l : List Nat) : wrs [txt A c l] = enc l.length ++ l := by simp [wrs, wr1, txt]
theorem fit_len {l : List Nat} (h : l.length ≤ 300) : Fit (l.length : Int) := by unfold Fit; omega
theorem textR_enc {l : List Nat} (hl : l.length ≤ 300) {most : Int} (h : (l.length : Int) ≤ most) (r : List Nat) : textR most (some (enc l.length ++ (l ++ r))) = (l, some r) := by
  rw [textR_yes (num_enc (fit_len hl) _) (by rw [unzz_zz]; omega) (by rw [unzz_zz]; exact h) (by rw [unzz_zz]; simp; omega), unzz_zz]
  simp
theorem textR_few {l : List Nat} (hl : l.length ≤ 300) {most : Int} (h : most < (l.length : Int)) (r : List Nat) : textR most (some (enc l.length ++ r)) = ([], none) := by
  refine textR_no fun u r' hn hh => ?_
  rw [num_enc (fit_len hl)] at hn
  obtain ⟨rfl, rfl⟩ := Prod.mk.inj (Option.some.inj hn)
  rw [unzz_zz] at hh
  omega
set_option maxRecDepth 100000 in
set_option maxHeartbeats 4000000 in
theorem codeTexts_walk (w : World) (A : Option Addr) (c : Nat) (l : List Nat) (h : InB w A c l) (most : Int) (hmost : Fit most) : Calls Try.prog 8 #[.slice A l.length c, .int .i64 most] w fun e w' => e = .returned (.bool true) ∧ Below w.heap.size w w' := by
  have HI := Lib.hid h
  have hcm : l.length ≤ maxLen := by have := h.cap; omega
  unfold maxLen at hcm
  clear h
  go_enter Try.func8, Try.ntmps8
  go_wp2_with fail
  refine (awake_any _).mono ?_
  rintro e w1 ⟨rfl, hb1⟩
  have HB1 := Lib.hid hb1
  have HI1 := Lib.hid (HI.out.next hb1)
  clear HI hb1
  by_cases h300 : l.length ≤ 300
  · go_wp2_with fail
    have HR := Lib.hid (written_any (some ⟨w1.heap.size, 0, none⟩) 1 [txt A c l] (w1.alloc (.cells (([txt A c l].map ptc).flatten).toArray 28)) (txt_pts HI1.out (by omega) _ rfl) (by simp))
    refine (Hid.out HR).mono ?_
    rintro e w2 ⟨A2, c2, rfl, b2, z2, o2, l2⟩
    rw [txt_wrs] at b2 o2
    have hwl : (wrs [txt A c l]).length = (enc l.length ++ l).length := by rw [txt_wrs]
    rw [hwl]
    obtain ⟨wl, hwl2⟩ : ∃ wl, wl = enc l.length ++ l := ⟨_, rfl⟩
    rw [← hwl2] at b2 o2 ⊢
    have HB2 := Lib.hid (below_chain HB1.out (below_step l2))
    have HI2 := Lib.hid (HI1.out.next (below_step l2))
    have HS2 := Lib.hid b2
    have HWL := Lib.hid hwl2
    have hwlen : wl.length ≤ 310 := by
      rw [hwl2, List.length_append]
      have := (enc_len (fit_len h300)).2
      omega
    have hwlb : Byt wl := by rw [hwl2]; exact (enc_byt _).app HI1.out.byt
    obtain ⟨_, _, hv2, hcap2, hcm2, hz2⟩ := Own.shape o2
    obtain ⟨rfl, -, rfl⟩ := Value.slice.inj hv2
    have HZ2 := Lib.hid (show A2 = none → wl.length = 0 ∧ c2 = 0 from hz2)
    clear HR l2 HB1 HI1 b2 hwl hwl2 hv2 hz2 z2 o2
    go_wp2_with fail
    refine (new_any A2 c2 wl w2).mono ?_
    rintro e w3 ⟨rfl, hw3⟩
    have HR3 := Lib.hid (show RS w3 w2.heap.size (some wl) from ⟨A2, c2, by rw [hw3]; exact ⟨alloc_new _ _ _ rfl, HS2.out.below ((Below.refl _ _).alloc (Nat.le_refl _) _), ⟨hcap2, hcm2⟩, HZ2.out, hwlb⟩⟩)
    have HB3 := Lib.hid (show Below w2.heap.size w2 w3 from by rw [hw3]; exact (Below.refl _ _).alloc (Nat.le_refl _) _)
    clear hw3
    go_wp2_with fail
    refine (text_any w2.heap.size (some wl) most w3 HR3.out (fun l' hl' => by cases hl'; omega) hmost).mono ?_
    rintro e w4 ⟨A4, c4, rfl, g4, r4, o4, z4⟩
    have hsz3 := HR3.out.lt
    have HB4 := Lib.hid (below_chain HB3.out (show Below w3.heap.size w3 w3 from Below.refl _ _) |>.trans (below_grown g4 (Nat.le_refl _) (Nat.le_of_lt hsz3)))
    by_cases hm : most < (l.length : Int)
    · have hT : textR most (some wl) = ([], none) := by rw [HWL.out]; exact textR_few h300 hm l
      rw [hT] at r4 o4 ⊢
      have HR4 := Lib.hid r4
      clear r4 o4 z4 g4 hT
      go_wp2_with fail
      refine (done_any w2.heap.size none w4 HR4.out).mono ?_
      rintro e w5 ⟨rfl, rfl⟩
      simp only [doneR]
      go_wp2_with fail
      go_ret
      exact ⟨rfl, below_chain HB2.out HB4.out⟩
    · have hT : textR most (some wl) = (l, some []) := by
        have := textR_enc (l := l) h300 (most := most) (by omega) []
        rw [List.append_nil] at this
        rw [HWL.out]; exact this
      rw [hT] at r4 o4 ⊢
      have HR4 := Lib.hid r4
      have HO4 := Lib.hid o4
      clear r4 o4 z4 g4 hT
      go_wp2_with fail
      refine (done_any w2.heap.size (some []) w4 HR4.out).mono ?_
      rintro e w5 ⟨rfl, rfl⟩
      simp only [doneR]
      obtain ⟨S, hS⟩ : ∃ S, S = str l := ⟨_, rfl⟩
      have hcs := str_conv c4 (Ob.bs HO4.out)
      have hcb := str_conv c (HI2.out.next HB4.out).bs
      rw [← hS] at hcs hcb
      go_wp2_with fail
      clear hcs hcb
      go_loopw [10] (fun i wr => ∃ k : Nat, i = .int .i64 (k : Int) ∧ k ≤ l.length ∧ (∃ f, Own wr w3.heap.size 5 1 (.slice A4 l.length c4) l.length f ∧ ∀ j, j < l.length → ∃ x : Int, f j = .int .u8 x) ∧ Below w2.heap.size w2 wr) (fun i _ => (l.length - intOf i).toNat)
      case atStart => exact ⟨0, rfl, Nat.zero_le _, ⟨_, HO4.out, fun j hj => ⟨_, rfl⟩⟩, HB4.out⟩
      case round =>
        obtain ⟨k, rfl, hk, ⟨f, ho, hf⟩, hbr⟩ := hrel
        by_cases hkl : k < l.length
        · obtain ⟨g, cap, hv, hg, -⟩ := Own.form ho (by omega)
          obtain ⟨rfl, -, rfl⟩ := Value.slice.inj hv
          obtain ⟨x, hx⟩ := hf k hkl
          have hc0 := Own.cell ho k (by omega)
          have hf0 := Own.free ho k
          rw [hx] at hc0
          have HO := Lib.hid ho
          have HF := Lib.hid hf
          have HBR := Lib.hid hbr
          clear ho hf hbr
          go_wp2_with fail
          go_roundw
          case rel =>
            refine ⟨k + 1, by go_num, by omega, ⟨_, (Own.set HO.out k _).1, fun j hj => ?_⟩, HBR.out.setCell (p := ⟨g, k, none⟩) (by show w2.heap.size ≤ g; omega) _⟩
            by_cases hjk : j = k
            · exact ⟨_, if_pos hjk⟩
            · obtain ⟨y, hy⟩ := HF.out j hj
              exact ⟨y, (if_neg hjk).trans hy⟩
          case measure => simp [intOf]; omega
        · have HBR := Lib.hid hbr
          clear ho hf
          have HSr := Lib.hid (HS2.out.next hbr)
          have hcb := str_conv c (HI2.out.next hbr).bs
          rw [← hS] at hcb
          go_wp2_with fail
          refine (new_any A2 c2 wl wr).mono ?_
          rintro e w6 ⟨rfl, hw6⟩
          have HR6 := Lib.hid (show RS w6 wr.heap.size (some wl) from ⟨A2, c2, by rw [hw6]; exact ⟨alloc_new _ _ _ rfl, HSr.out.below ((Below.refl _ _).alloc (Nat.le_refl _) _), ⟨hcap2, hcm2⟩, HZ2.out, hwlb⟩⟩)
          have HB6 := Lib.hid (show Below w2.heap.size w2 w6 from by rw [hw6]; exact hbr.alloc hbr.size _)
          clear hw6 hcb hbr
          have hcb : (convert 25 9 (.slice A l.length c)).run Try.prog w6.drew = .ok (.string S) w6.drew := by rw [hS]; exact str_conv c (Rd.drew (HI2.out.next HB6.out).bs)
          have hT : textR (l.length : Int) (some wl) = (l, some []) := by
            have := textR_enc (l := l) h300 (most := l.length) (by omega) []
            rw [List.append_nil] at this
            rw [HWL.out]; exact this
          have hsz6 := HR6.out.lt
          have HWr := Lib.hid (show Calls Try.prog 20 #[.pointer (some ⟨wr.heap.size, 0, none⟩), .int .i64 l.length] w6.drew (fun e w7 => ∃ A7 c7, e = .returned (.slice A7 l.length c7) ∧ (convert 25 9 (.slice A7 l.length c7)).run Try.prog w7 = .ok (.string S) w7 ∧ (convert 25 9 (.slice A l.length c)).run Try.prog w7 = .ok (.string S) w7 ∧ Hid (Below w2.heap.size w2 w7)) from by
            refine (text_any wr.heap.size (some wl) l.length w6.drew (HR6.out.below (Below.refl _ _).drew) (fun l' hl' => by cases hl'; omega) (fit_len h300)).mono ?_
            rintro e w7 ⟨A7, c7, rfl, g7, r7, o7, z7⟩
            rw [hT] at o7 ⊢
            have hb7 : Below w2.heap.size w2 w7 := HB6.out.drew.trans (below_grown g7 HBR.out.size HB6.out.size)
            exact ⟨A7, c7, rfl, by rw [hS]; exact str_conv c7 (Ob.bs o7), by rw [hS]; exact str_conv c (HI2.out.next hb7).bs, Lib.hid hb7⟩)
          clear hT
          go_wp2_with fail
          refine wp_region_held_drew (S := (fun w' => (convert 25 9 (.slice A l.length c)).run Try.prog w' = .ok (.string S) w' ∧ Hid (Below w2.heap.size w2 w'))) (by kernel_rfl) ?_ (fun hHeld => ?_)
          · (first | exact ⟨hcb, Lib.hid HB6.out.drew⟩ | exact ⟨hc4, HB7⟩ | assumption)
          refine wpAnyH_take (i := 0) (oi := { dst := some 67, op := Op.move (Operand.tmp 5), type := 4, pos := "law.go:291", after := #[], guard := none }) (v := ?_) rfl (by kernel_rfl) (by kernel_rfl) (by kernel_rfl) (fun _ _ _ h => h) (Or.inl ⟨by rfl, ?_⟩) (by assumption) ?_
          rotate_left 1
          · intro ws hSw; (try dsimp only at hSw); go_simp; all_goals with_reducible rfl
          simp only [Act.put, List.setIfInBounds_toArray, List.set_cons_zero, List.set_cons_succ]
          refine wpAnyH_take (i := 1) (oi := { dst := some 68, op := Op.move (Operand.tmp 67), type := 4, pos := "law.go:291", after := #[{ on := 0, ground := Ground.data }], guard := none }) (v := ?_) rfl (by kernel_rfl) (by kernel_rfl) (by kernel_rfl) (fun _ _ _ h => h) (Or.inl ⟨by rfl, ?_⟩) (by assumption) ?_
          rotate_left 1
          · intro ws hSw; (try dsimp only at hSw); go_simp; all_goals with_reducible rfl
          simp only [Act.put, List.setIfInBounds_toArray, List.set_cons_zero, List.set_cons_succ]
          refine wpAnyH_take (i := 2) (oi := { dst := some 69, op := Op.move (Operand.tmp 11), type := 41, pos := "law.go:291", after := #[{ on := 1, ground := Ground.guard }], guard := some (1, true) }) (v := ?_) rfl (by kernel_rfl) (by kernel_rfl) (by kernel_rfl) (fun _ _ _ h => h) (Or.inl ⟨by rfl, ?_⟩) (by assumption) ?_
          rotate_left 1
          · intro ws hSw; (try dsimp only at hSw); go_simp; all_goals with_reducible rfl
          simp only [Act.put, List.setIfInBounds_toArray, List.set_cons_zero, List.set_cons_succ]
          refine wpAnyH_take (i := 3) (oi := { dst := some 70, op := Op.move (Operand.tmp 0), type := 25, pos := "law.go:291", after := #[{ on := 1, ground := Ground.guard }], guard := some (1, true) }) (v := ?_) rfl (by kernel_rfl) (by kernel_rfl) (by kernel_rfl) (fun _ _ _ h => h) (Or.inl ⟨by rfl, ?_⟩) (by assumption) ?_
          rotate_left 1
          · intro ws hSw; (try dsimp only at hSw); go_simp; all_goals with_reducible rfl
          simp only [Act.put, List.setIfInBounds_toArray, List.set_cons_zero, List.set_cons_succ]
          refine wpAnyH_take (i := 4) (oi := { dst := some 71, op := Op.call { callee := Callee.builtin Builtin.len, args := #[Operand.tmp 70], argTypes := #[25] }, type := 3, pos := "law.go:291", after := #[{ on := 3, ground := Ground.data }, { on := 1, ground := Ground.guard }], guard := some (1, true) }) (v := ?_) rfl (by kernel_rfl) (by kernel_rfl) (by kernel_rfl) (fun _ _ _ h => h) (Or.inl ⟨by rfl, ?_⟩) (by assumption) ?_
          rotate_left 1
          · intro ws hSw; (try dsimp only at hSw); go_simp; all_goals with_reducible rfl
          simp only [Act.put, List.setIfInBounds_toArray, List.set_cons_zero, List.set_cons_succ]
          refine wpAnyH_take (i := 7) (oi := { dst := some 74, op := Op.move (Operand.tmp 0), type := 25, pos := "law.go:291", after := #[{ on := 1, ground := Ground.guard }], guard := some (1, true) }) (v := ?_) rfl (by kernel_rfl) (by kernel_rfl) (by kernel_rfl) (fun _ _ _ h => h) (Or.inl ⟨by rfl, ?_⟩) (by assumption) ?_
          rotate_left 1
          · intro ws hSw; (try dsimp only at hSw); go_simp; all_goals with_reducible rfl
          simp only [Act.put, List.setIfInBounds_toArray, List.set_cons_zero, List.set_cons_succ]
          refine wpAnyH_take (i := 8) (oi := { dst := some 75, op := Op.convert 25 9 (Operand.tmp 74), type := 9, pos := "law.go:291", after := #[{ on := 7, ground := Ground.data }, { on := 1, ground := Ground.guard }], guard := some (1, true) }) (v := ?_) rfl (by kernel_rfl) (by kernel_rfl) (by kernel_rfl) (fun _ _ _ h => h) (Or.inl ⟨by rfl, ?_⟩) (by assumption) ?_
          rotate_left 1
          · intro ws hSw; (try dsimp only at hSw); go_simp; all_goals with_reducible rfl
          simp only [Act.put, List.setIfInBounds_toArray, List.set_cons_zero, List.set_cons_succ]
          refine wpAnyH_ready (rs := [5]) (by kernel_rfl) (by simp) ?_
          refine AllReadyH.cons (o := { dst := some 72, op := Op.call { callee := Callee.value (Operand.func 20), args := #[Operand.tmp 69, Operand.tmp 71], argTypes := #[41, 3] }, type := 25, pos := "law.go:291", after := #[{ on := 2, ground := Ground.data }, { on := 4, ground := Ground.data }, { on := 1, ground := Ground.chain }, { on := 1, ground := Ground.guard }], guard := some (1, true) }) rfl (fun K hK => ?_) AllReadyH.nil
          go_simp
          (go_at_call 20; refine (Hid.out HWr).mono ?_; rintro e w7 ⟨A7, c7, rfl, hc3, hc4, HB7⟩)
          refine hK.out _ _ ?_ (fun hHeld => ?_)
          · (first | exact ⟨hcb, Lib.hid HB6.out.drew⟩ | exact ⟨hc4, HB7⟩ | assumption)
          clear hK K
          refine wpAnyH_ready (rs := [6]) (by kernel_rfl) (by simp) ?_
          refine AllReadyH.cons (o := { dst := some 73, op := Op.convert 25 9 (Operand.tmp 72), type := 9, pos := "law.go:291", after := #[{ on := 5, ground := Ground.data }, { on := 1, ground := Ground.guard }], guard := some (1, true) }) rfl (fun K hK => ?_) AllReadyH.nil
          go_simp
          refine hK.out _ _ (by assumption) (fun hHeld => ?_)
          clear hK K
          refine wpAnyH_take (i := 9) (oi := { dst := some 76, op := Op.binOp BinOp.eql 9 (Operand.tmp 73) (Operand.tmp 75) 9, type := 4, pos := "law.go:291", after := #[{ on := 6, ground := Ground.data }, { on := 8, ground := Ground.data }, { on := 1, ground := Ground.guard }], guard := some (1, true) }) (v := ?_) rfl (by kernel_rfl) (by kernel_rfl) (by kernel_rfl) (fun _ _ _ h => h) (Or.inl ⟨by rfl, ?_⟩) (by assumption) ?_
          rotate_left 1
          · intro ws hSw; (try dsimp only at hSw); go_simp; all_goals with_reducible rfl
          simp only [Act.put, List.setIfInBounds_toArray, List.set_cons_zero, List.set_cons_succ]
          refine wpAnyH_take (i := 10) (oi := { dst := some 77, op := Op.pick (Operand.tmp 68) (Operand.tmp 76) (Operand.const (Value.bool false)), type := 4, pos := "law.go:291", after := #[{ on := 1, ground := Ground.data }, { on := 9, ground := Ground.data }], guard := none }) (v := ?_) rfl (by kernel_rfl) (by kernel_rfl) (by kernel_rfl) (fun _ _ _ h => h) (Or.inl ⟨by rfl, ?_⟩) (by assumption) ?_
          rotate_left 1
          · intro ws hSw; (try dsimp only at hSw); go_simp; all_goals with_reducible rfl
          simp only [Act.put, List.setIfInBounds_toArray, List.set_cons_zero, List.set_cons_succ]
          refine wpAnyH_take (i := 11) (oi := { dst := some 4, op := Op.assign (Operand.tmp 77), type := 4, pos := "law.go:291", after := #[{ on := 10, ground := Ground.data }, { on := 5, ground := Ground.chain }, { on := 0, ground := Ground.phase }, { on := 1, ground := Ground.phase }, { on := 2, ground := Ground.phase }, { on := 3, ground := Ground.phase }, { on := 4, ground := Ground.phase }, { on := 5, ground := Ground.phase }, { on := 6, ground := Ground.phase }, { on := 7, ground := Ground.phase }, { on := 8, ground := Ground.phase }, { on := 9, ground := Ground.phase }, { on := 10, ground := Ground.phase }], guard := none }) (v := ?_) rfl (by kernel_rfl) (by kernel_rfl) (by kernel_rfl) (fun _ _ _ h => h) (Or.inl ⟨by rfl, ?_⟩) (by assumption) ?_
          rotate_left 1
          · intro ws hSw; (try dsimp only at hSw); go_simp; all_goals with_reducible rfl
          simp only [Act.put, List.setIfInBounds_toArray, List.set_cons_zero, List.set_cons_succ]
          refine wpAnyH_done (by kernel_rfl) ?_ _
          go_wp2_with fail
          go_ret
          exact ⟨rfl, below_chain HB2.out HB7.out⟩
  · go_wp2_with fail
    go_ret
    exact ⟨rfl, HB1.out⟩

set_option maxRecDepth 100000 in
theorem codeTexts_lifted (os : Os) (started : os.Started) (H : Type) (enc : TypeId × Value → H) :
    ReturnsInHanded {} Try.checked os 8 .any (Rows.codeTextsSpec.pre6 enc Try.prog Try.f8 Rows.codeTextsRow.domain false) (Rows.codeTextsSpec.post enc Try.prog Try.f8 false true false false) := by
  refine returnsInHanded_of_change (C := Try.checked) own started (by kernel_rfl) Try.func8
    (ChangeSpec.witness6 (enc := enc) (C := Try.checked) false ⟨#[], #[.slice none 0 0, .int .i64 0], []⟩ 8 (by kernel_rfl) (by kernel_rfl) (by kernel_rfl) (by kernel_rfl)) ?_
  intro W base args ds gs before hval0 hW _ _
  have hval : ∀ (j : Nat) t v, Try.f8.params[j]? = some t → args[j]? = some v → Value.okWide Try.prog W .any base t v := hval0
  have hW' := hW
  obtain ⟨p, q, hA0, hV, rfl, _, _⟩ := hW
  have hA : DataW.TrodAll enc Try.prog W 0 (fun _ => true) true Try.f8.params.toList args.toList ds p := hA0
  rw [Try.params8] at hA hval
  obtain ⟨v0, vs0, d0, ds0, p0, q0, hargs, rfl, rfl, h0, r0⟩ := trodAll_cons hA
  obtain ⟨v1, vs1, d1, ds1, p1, q1, rfl, rfl, rfl, h1, r1⟩ := trodAll_cons r0
  obtain ⟨rfl, rfl, rfl⟩ := trodAll_nil r1
  obtain rfl : args = #[v0, v1] := by cases args; simp_all
  obtain ⟨rfl, rfl⟩ := trodVars_none hV
  have k0 := h0
  have lt0 : ∀ x ∈ p0, x.block < W.heap.size := by obtain ⟨m, hm⟩ := k0; exact DataW.trod_lt m _ _ _ hm
  obtain ⟨A0, c0, l0, rfl, b0⟩ := open_B (hval 0 25 v0 rfl rfl) h0
  have k1 := h1
  have lt1 : ∀ x ∈ p1, x.block < W.heap.size := by obtain ⟨m, hm⟩ := k1; exact DataW.trod_lt m _ _ _ hm
  obtain ⟨n1, rfl, f1⟩ := open_i64 Try.underlying3 (hval 1 3 v1 rfl rfl) h1
  clear hA0 hval0 hval
  refine (codeTexts_walk W A0 c0 l0 b0 n1 f1).mono fun e W' ⟨he, bel⟩ => ?_
  subst he
  exact ⟨_, rfl, _, _, _, [], _, [], hW', trodAll_mk1 (shut_bool Try.underlying4 _), (trodAll_cons_mk (Below.trod laidOut (by kernel_rfl) (of_decide_eq_true (by kernel_rfl)) k0 bel lt0) (trodAll_cons_mk (Below.trod laidOut (by kernel_rfl) (of_decide_eq_true (by kernel_rfl)) k1 bel lt1) trodAll_mk0)), rfl, bel.frame _, fun h => by cases h⟩

theorem codeTexts_holds : Rows.CodeTextsSaid :=
  OpenClaim.holds_of_wide 8 Try.f8 rfl rfl rfl rfl rfl rfl rfl ⟨rfl, rfl, rfl, rfl, rfl⟩ rfl rfl rfl rfl rfl (by kernel_rfl) Try.func8 (by kernel_rfl)
    (of_decide_eq_true (by kernel_rfl)) (by unfold Func.isWrapper; first | (rw [if_pos (by decide +kernel)]; kernel_rfl) | (rw [if_neg (by decide +kernel)]; exact ⟨rfl, rfl⟩))
    (fun os started H enc _ => codeTexts_lifted os started H enc)
#print axioms codeTexts_holds
end Go.Proofs.Ytbnlobfhcanbgaa

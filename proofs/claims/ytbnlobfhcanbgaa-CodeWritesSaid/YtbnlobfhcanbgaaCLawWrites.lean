/- CodeWrites holds: any numbers, bytes and hashes are written as the document says. Conditions: none. -/
import Derived.Test.YtbnlobfhcanbgaaCFew
import Derived.Test.YtbnlobfhcanbgaaCAwake
import Derived.Test.YtbnlobfhcanbgaaRefInt
import Derived.Test.YtbnlobfhcanbgaaStr
import Derived.Deep.RegionHeld
namespace Go.Proofs.Ytbnlobfhcanbgaa
open Go.ChangeShapes Go.WideShapes Go.ChangeAt Go.RowKit Go.Joins Go.Deep

/-- The cells of a hash, as an append reads them. -/
theorem hash_rd {w : World} {B b o : Nat} {h : Nat → Nat} (hb : b < B) (hr : w.rangeAt b o (hc h).toList) : Rd w B 1 (some ⟨b, o, none⟩) 32 (bf (hl h)) :=
  fun _ => ⟨b, o, rfl, hb, fun j hj => by
    have hj2 : j < 32 := by omega
    refine hr j _ ?_
    unfold hc bf hl
    simp [hj2]⟩
set_option maxRecDepth 100000 in
set_option maxHeartbeats 4000000 in
theorem codeWrites_walk (w : World) (A : Option Addr) (c : Nat) (l : List Pt) (h : InPs w A c l) : Calls Try.prog 4 #[.slice A l.length c] w fun e w' => e = .returned (.bool true) ∧ Below w.heap.size w w' := by
  obtain ⟨i0, hi0, hz0, hz1, hz2⟩ := info_parts info_u8
  have HI := Lib.hid h
  have hcm : l.length ≤ maxLen := by have := h.cap; omega
  unfold maxLen at hcm
  clear h
  go_enter Try.func4, Try.ntmps4
  go_wp2_with fail
  refine (awake_any _).mono ?_
  rintro e w1 ⟨rfl, hb1⟩
  have HB1 := Lib.hid hb1
  have HI1 := Lib.hid (HI.out.next hb1)
  clear HI hb1
  go_wp2_with fail
  refine (few_any A c l w1 HI1.out).mono ?_
  rintro e w2 ⟨rfl, rfl⟩
  cases hfew : fewB l with
  | false =>
    go_wp2_with fail
    go_ret
    exact ⟨rfl, HB1.out⟩
  | true =>
    have hlen := (fewB_yes hfew).1
    have HP7 := Lib.hid (show ∀ x ∈ l, x.b.length ≤ 1000 from fun x hx => by have := (fewB_yes hfew).2 x hx; omega)
    have HP := Lib.hid (HI1.out.pts HP7.out)
    clear hfew
    go_wp2_with fail
    go_loopw [4, 5] (fun v i wr => ∃ k : Nat, i = .int .i64 (k : Int) ∧ k ≤ l.length ∧ Ob wr w2.heap.size v (wrs (l.take k)) ∧ Below w2.heap.size w2 wr)
      (fun _ i _ => (l.length - intOf i).toNat)
    case atStart => exact ⟨0, rfl, Nat.zero_le _, Ob.nil, Below.refl _ _⟩
    case round =>
      obtain ⟨k, rfl, hk, ho, hbr⟩ := hrel
      have hszr := hbr.size
      by_cases hkl : k < l.length
      · obtain ⟨x, hx⟩ : ∃ x, l[k]? = some x := ⟨_, List.getElem?_eq_getElem hkl⟩
        obtain ⟨b, off, rfl, hb, hat⟩ := (HP.out.below hbr).at_ hx
        have hok := (HP.out.below hbr).ok x (List.mem_of_getElem? hx)
        have h0 := hat.f0
        have h1 := hat.f1
        have h4 := hat.f4
        have HS := Lib.hid (wrs_snoc l k x hx)
        have HL := Lib.hid (wrs_take_len l k HP.out.ok (by omega))
        have HO := Lib.hid ho
        have HX := Lib.hid hx
        have HOK := Lib.hid hok
        have HA := Lib.hid hat
        have HBR := Lib.hid hbr
        clear hx hok hat ho hbr
        by_cases hk1 : x.kind = 1
        · have hb1 : (x.kind == 1) = true := by simp [hk1]
          have HK := Lib.hid (show wr1 x = enc x.n from by unfold wr1; rw [if_pos hk1])
          clear hk1
          go_wp2_with fail
          refine (refint_any x.n wr HOK.out.fit.1).mono ?_
          rintro e w3 ⟨A3, c3, rfl, b3, z3, o3, l3⟩
          have hel := (enc_len HOK.out.fit.1).2
          have HO3 := Lib.hid (Own.below HO.out l3)
          have HB3 := Lib.hid b3
          have HZ3 := Lib.hid z3
          have HL3 := Lib.hid (HBR.out.trans (l3.mono hszr))
          have hs3 := l3.size
          clear b3 z3 o3 l3
          go_wp2_with (at_builtin; refine wpl_app _ rfl (.tmp 24) (.tmp 30) 25 rfl w2.heap.size 5 i0 _ 1 1 Try.underlying25 hi0 hz0 hz1 hz2 rfl (by omega) _ (wrs (l.take k)).length (bf (wrs (l.take k))) rfl HO3.out w3.heap.size A3 (enc x.n).length c3 (bf (enc x.n)) rfl HB3.out HZ3.out (fun j _ => bf_one _ j) (by have := HL.out; unfold maxLen; omega) (by have := HL.out; omega) (by omega) ?_; intro v4 w4 o4 g4 a4)
          have ho4 : Ob w4 w2.heap.size v4 (wrs (l.take k) ++ enc x.n) := Ob.app o4
          have hb4 := HL3.out.grown g4 (by omega) (fun q e => (Own.block HO3.out q e).1)
          go_roundw
          case rel => exact ⟨k + 1, by go_num, by omega, by rw [HS.out, HK.out]; exact ho4, hb4⟩
          case measure => simp [intOf]; omega
        · by_cases hk2 : x.kind = 2
          · have hb1 : (x.kind == 1) = false := by simp [hk2]
            have hb2 : (x.kind == 2) = true := by simp [hk2]
            have HK := Lib.hid (show wr1 x = enc x.b.length ++ x.b from by unfold wr1; rw [if_neg hk1, if_pos hk2])
            clear hk1 hk2
            go_wp2_with fail
            refine (reftext_any x.A x.c x.b wr (HOK.out.bs.more hszr) (fun h => (HOK.out.none_ h).2) HOK.out.len).mono ?_
            rintro e w3 ⟨A3, c3, rfl, b3, z3, o3, l3⟩
            have hel : (enc x.b.length ++ x.b).length ≤ 1010 := by
              rw [List.length_append]
              have := HOK.out.len
              have := (enc_len (show Fit (x.b.length : Int) from by unfold Fit; omega)).2
              omega
            have HO3 := Lib.hid (Own.below HO.out l3)
            have HB3 := Lib.hid b3
            have HZ3 := Lib.hid z3
            have HL3 := Lib.hid (HBR.out.trans (l3.mono hszr))
            have hs3 := l3.size
            clear b3 z3 o3 l3
            obtain ⟨m, hm⟩ : ∃ m, m = enc x.b.length ++ x.b := ⟨_, rfl⟩
            have HM := Lib.hid hm
            rw [← hm] at hel HB3 ⊢
            clear hm
            go_wp2_with (at_builtin; refine wpl_app _ rfl (.tmp 34) (.tmp 40) 25 rfl w2.heap.size 5 i0 _ 1 1 Try.underlying25 hi0 hz0 hz1 hz2 rfl (by omega) _ (wrs (l.take k)).length (bf (wrs (l.take k))) rfl HO3.out w3.heap.size A3 m.length c3 (bf m) rfl HB3.out HZ3.out (fun j _ => bf_one _ j) (by have := HL.out; unfold maxLen; omega) (by have := HL.out; omega) (by omega) ?_; intro v4 w4 o4 g4 a4)
            have ho4 : Ob w4 w2.heap.size v4 (wrs (l.take k) ++ m) := Ob.app o4
            have hb4 := HL3.out.grown g4 (by omega) (fun q e => (Own.block HO3.out q e).1)
            go_roundw
            case rel => exact ⟨k + 1, by go_num, by omega, by rw [HS.out, HK.out, ← HM.out]; exact ho4, hb4⟩
            case measure => simp [intOf]; omega
          · by_cases hk3 : x.kind = 3
            · have hb1 : (x.kind == 1) = false := by simp [hk3]
              have hb2 : (x.kind == 2) = false := by simp [hk3]
              have hb3 : (x.kind == 3) = true := by simp [hk3]
              have HK := Lib.hid (show wr1 x = hl x.h from by unfold wr1; rw [if_neg hk1, if_neg hk2, if_pos hk3])
              clear hk1 hk2 hk3
              go_wp2_with (at_builtin; refine wpl_app _ rfl (.tmp 44) (.tmp 49) 25 rfl w2.heap.size 5 i0 _ 1 1 Try.underlying25 hi0 hz0 hz1 hz2 rfl (by omega) _ (wrs (l.take k)).length (bf (wrs (l.take k))) rfl HO.out w2.heap.size (some ⟨b, off + k * 37 + 5, none⟩) 32 32 (bf (hl x.h)) rfl (hash_rd hb HA.out.f5) (fun h => by cases h) (fun j _ => bf_one _ j) (by have := HL.out; unfold maxLen; omega) (by have := HL.out; omega) (by omega) ?_; intro v4 w4 o4 g4 a4)
              have ho4 : Ob w4 w2.heap.size v4 (wrs (l.take k) ++ hl x.h) := Ob.app (by rw [hl_len]; exact o4)
              have hb4 := HBR.out.grown g4 (by omega) (fun q e => (Own.block HO.out q e).1)
              go_roundw
              case rel => exact ⟨k + 1, by go_num, by omega, by rw [HS.out, HK.out]; exact ho4, hb4⟩
              case measure => simp [intOf]; omega
            · have hb1 : (x.kind == 1) = false := by simp [hk1]
              have hb2 : (x.kind == 2) = false := by simp [hk2]
              have hb3 : (x.kind == 3) = false := by simp [hk3]
              have HK := Lib.hid (show wr1 x = [] from by unfold wr1; rw [if_neg hk1, if_neg hk2, if_neg hk3])
              clear hk1 hk2 hk3
              go_wp2_with fail
              go_roundw
              case rel => exact ⟨k + 1, by go_num, by omega, by rw [HS.out, HK.out, List.append_nil]; exact HO.out, HBR.out⟩
              case measure => simp [intOf]; omega
      · obtain rfl : k = l.length := by omega
        rw [List.take_length] at ho
        obtain ⟨A3, c3, rfl, -, -, -⟩ := Own.shape ho
        obtain ⟨X, hX⟩ : ∃ X, X = wrs l := ⟨_, rfl⟩
        rw [← hX] at ho
        have HX := Lib.hid hX
        obtain ⟨S, hS⟩ : ∃ S, S = str X := ⟨_, rfl⟩
        have hcb : (convert 25 9 (.slice A3 X.length c3)).run Try.prog wr.drew = .ok (.string S) wr.drew := by rw [hS]; exact str_conv c3 (Rd.drew (Ob.bs ho))
        have HO := Lib.hid ho
        have HBR := Lib.hid hbr
        have HPr := Lib.hid ((HI1.out.next hbr).pts HP7.out)
        have HWr := Lib.hid (show Calls Try.prog 15 #[.slice A l.length c] wr.drew (fun e w3 => ∃ A4 c4, e = .returned (.slice A4 X.length c4) ∧ (convert 25 9 (.slice A4 X.length c4)).run Try.prog w3 = .ok (.string S) w3 ∧ (convert 25 9 (.slice A3 X.length c3)).run Try.prog w3 = .ok (.string S) w3 ∧ Hid (Below w2.heap.size w2 w3)) from by
          refine (written_any A c l wr.drew (HPr.out.below (Below.refl _ _).drew) (by omega)).mono ?_
          rintro e w3 ⟨A4, c4, rfl, b3, z3, o3, l3⟩
          rw [← HX.out] at b3 ⊢
          have l4 : Below wr.heap.size wr w3 := ((Below.refl wr.heap.size wr).drew).trans l3
          exact ⟨A4, c4, rfl, by rw [hS]; exact str_conv c4 b3, by rw [hS]; exact str_conv c3 ((Ob.bs HO.out).next l4), Lib.hid (below_chain HBR.out l4)⟩)
        rw [← hX]
        clear ho hbr hX hk hkl
        go_wp2_with fail
        refine wp_region_held_drew (S := (fun w' => (convert 25 9 (.slice A3 X.length c3)).run Try.prog w' = .ok (.string S) w' ∧ Hid (Below w2.heap.size w2 w'))) (by kernel_rfl) ?_ (fun hHeld => ?_)
        · (first | exact ⟨hcb, Lib.hid HBR.out.drew⟩ | exact ⟨hc4, HB4⟩ | assumption)
        refine wpAnyH_take (i := 0) (oi := { dst := some 51, op := Op.move (Operand.tmp 3), type := 4, pos := "law.go:120", after := #[], guard := none }) (v := ?_) rfl (by kernel_rfl) (by kernel_rfl) (by kernel_rfl) (fun _ _ _ h => h) (Or.inl ⟨by rfl, ?_⟩) (by assumption) ?_
        rotate_left 1
        · intro ws hSw; (try dsimp only at hSw); go_simp; all_goals with_reducible rfl
        simp only [Act.put, List.setIfInBounds_toArray, List.set_cons_zero, List.set_cons_succ]
        refine wpAnyH_take (i := 1) (oi := { dst := some 52, op := Op.move (Operand.tmp 51), type := 4, pos := "law.go:120", after := #[{ on := 0, ground := Ground.data }], guard := none }) (v := ?_) rfl (by kernel_rfl) (by kernel_rfl) (by kernel_rfl) (fun _ _ _ h => h) (Or.inl ⟨by rfl, ?_⟩) (by assumption) ?_
        rotate_left 1
        · intro ws hSw; (try dsimp only at hSw); go_simp; all_goals with_reducible rfl
        simp only [Act.put, List.setIfInBounds_toArray, List.set_cons_zero, List.set_cons_succ]
        refine wpAnyH_take (i := 2) (oi := { dst := some 53, op := Op.move (Operand.tmp 0), type := 23, pos := "law.go:120", after := #[{ on := 1, ground := Ground.guard }], guard := some (1, true) }) (v := ?_) rfl (by kernel_rfl) (by kernel_rfl) (by kernel_rfl) (fun _ _ _ h => h) (Or.inl ⟨by rfl, ?_⟩) (by assumption) ?_
        rotate_left 1
        · intro ws hSw; (try dsimp only at hSw); go_simp; all_goals with_reducible rfl
        simp only [Act.put, List.setIfInBounds_toArray, List.set_cons_zero, List.set_cons_succ]
        refine wpAnyH_take (i := 5) (oi := { dst := some 56, op := Op.move (Operand.tmp 4), type := 25, pos := "law.go:120", after := #[{ on := 1, ground := Ground.guard }], guard := some (1, true) }) (v := ?_) rfl (by kernel_rfl) (by kernel_rfl) (by kernel_rfl) (fun _ _ _ h => h) (Or.inl ⟨by rfl, ?_⟩) (by assumption) ?_
        rotate_left 1
        · intro ws hSw; (try dsimp only at hSw); go_simp; all_goals with_reducible rfl
        simp only [Act.put, List.setIfInBounds_toArray, List.set_cons_zero, List.set_cons_succ]
        refine wpAnyH_take (i := 6) (oi := { dst := some 57, op := Op.convert 25 9 (Operand.tmp 56), type := 9, pos := "law.go:120", after := #[{ on := 5, ground := Ground.data }, { on := 1, ground := Ground.guard }], guard := some (1, true) }) (v := ?_) rfl (by kernel_rfl) (by kernel_rfl) (by kernel_rfl) (fun _ _ _ h => h) (Or.inl ⟨by rfl, ?_⟩) (by assumption) ?_
        rotate_left 1
        · intro ws hSw; (try dsimp only at hSw); go_simp; all_goals with_reducible rfl
        simp only [Act.put, List.setIfInBounds_toArray, List.set_cons_zero, List.set_cons_succ]
        refine wpAnyH_ready (rs := [3]) (by kernel_rfl) (by simp) ?_
        refine AllReadyH.cons (o := { dst := some 54, op := Op.call { callee := Callee.value (Operand.func 15), args := #[Operand.tmp 53], argTypes := #[23] }, type := 25, pos := "law.go:120", after := #[{ on := 2, ground := Ground.data }, { on := 1, ground := Ground.chain }, { on := 1, ground := Ground.guard }], guard := some (1, true) }) rfl (fun K hK => ?_) AllReadyH.nil
        go_simp
        (go_at_call 15; refine (Hid.out HWr).mono ?_; rintro e w4 ⟨A4, c4, rfl, hc3, hc4, HB4⟩)
        refine hK.out _ _ ?_ (fun hHeld => ?_)
        · (first | exact ⟨hcb, Lib.hid HBR.out.drew⟩ | exact ⟨hc4, HB4⟩ | assumption)
        clear hK K
        refine wpAnyH_ready (rs := [4]) (by kernel_rfl) (by simp) ?_
        refine AllReadyH.cons (o := { dst := some 55, op := Op.convert 25 9 (Operand.tmp 54), type := 9, pos := "law.go:120", after := #[{ on := 3, ground := Ground.data }, { on := 1, ground := Ground.guard }], guard := some (1, true) }) rfl (fun K hK => ?_) AllReadyH.nil
        go_simp
        refine hK.out _ _ (by assumption) (fun hHeld => ?_)
        clear hK K
        refine wpAnyH_take (i := 7) (oi := { dst := some 58, op := Op.binOp BinOp.eql 9 (Operand.tmp 55) (Operand.tmp 57) 9, type := 4, pos := "law.go:120", after := #[{ on := 4, ground := Ground.data }, { on := 6, ground := Ground.data }, { on := 1, ground := Ground.guard }], guard := some (1, true) }) (v := ?_) rfl (by kernel_rfl) (by kernel_rfl) (by kernel_rfl) (fun _ _ _ h => h) (Or.inl ⟨by rfl, ?_⟩) (by assumption) ?_
        rotate_left 1
        · intro ws hSw; (try dsimp only at hSw); go_simp; all_goals with_reducible rfl
        simp only [Act.put, List.setIfInBounds_toArray, List.set_cons_zero, List.set_cons_succ]
        refine wpAnyH_take (i := 8) (oi := { dst := some 59, op := Op.pick (Operand.tmp 52) (Operand.tmp 58) (Operand.const (Value.bool false)), type := 4, pos := "law.go:120", after := #[{ on := 1, ground := Ground.data }, { on := 7, ground := Ground.data }], guard := none }) (v := ?_) rfl (by kernel_rfl) (by kernel_rfl) (by kernel_rfl) (fun _ _ _ h => h) (Or.inl ⟨by rfl, ?_⟩) (by assumption) ?_
        rotate_left 1
        · intro ws hSw; (try dsimp only at hSw); go_simp; all_goals with_reducible rfl
        simp only [Act.put, List.setIfInBounds_toArray, List.set_cons_zero, List.set_cons_succ]
        refine wpAnyH_take (i := 9) (oi := { dst := some 2, op := Op.assign (Operand.tmp 59), type := 4, pos := "law.go:120", after := #[{ on := 8, ground := Ground.data }, { on := 3, ground := Ground.chain }, { on := 0, ground := Ground.phase }, { on := 1, ground := Ground.phase }, { on := 2, ground := Ground.phase }, { on := 3, ground := Ground.phase }, { on := 4, ground := Ground.phase }, { on := 5, ground := Ground.phase }, { on := 6, ground := Ground.phase }, { on := 7, ground := Ground.phase }, { on := 8, ground := Ground.phase }], guard := none }) (v := ?_) rfl (by kernel_rfl) (by kernel_rfl) (by kernel_rfl) (fun _ _ _ h => h) (Or.inl ⟨by rfl, ?_⟩) (by assumption) ?_
        rotate_left 1
        · intro ws hSw; (try dsimp only at hSw); go_simp; all_goals with_reducible rfl
        simp only [Act.put, List.setIfInBounds_toArray, List.set_cons_zero, List.set_cons_succ]
        refine wpAnyH_done (by kernel_rfl) ?_ _
        go_wp2_with fail
        go_ret
        exact ⟨rfl, below_chain HB1.out HB4.out⟩

set_option maxRecDepth 100000 in
theorem codeWrites_lifted (os : Os) (started : os.Started) (H : Type) (enc : TypeId × Value → H) :
    ReturnsInHanded {} Try.checked os 4 .any (Rows.codeWritesSpec.pre6 enc Try.prog Try.f4 Rows.codeWritesRow.domain false) (Rows.codeWritesSpec.post enc Try.prog Try.f4 false true false false) := by
  refine returnsInHanded_of_change (C := Try.checked) own started (by kernel_rfl) Try.func4
    (ChangeSpec.witness6 (enc := enc) (C := Try.checked) false ⟨#[], #[.slice none 0 0], []⟩ 8 (by kernel_rfl) (by kernel_rfl) (by kernel_rfl) (by kernel_rfl)) ?_
  intro W base args ds gs before hval0 hW _ _
  have hval : ∀ (j : Nat) t v, Try.f4.params[j]? = some t → args[j]? = some v → Value.okWide Try.prog W .any base t v := hval0
  have hW' := hW
  obtain ⟨p, q, hA0, hV, rfl, _, _⟩ := hW
  have hA : DataW.TrodAll enc Try.prog W 0 (fun _ => true) true Try.f4.params.toList args.toList ds p := hA0
  rw [Try.params4] at hA hval
  obtain ⟨v0, vs0, d0, ds0, p0, q0, hargs, rfl, rfl, h0, r0⟩ := trodAll_cons hA
  obtain ⟨rfl, rfl, rfl⟩ := trodAll_nil r0
  obtain rfl : args = #[v0] := by cases args; simp_all
  obtain ⟨rfl, rfl⟩ := trodVars_none hV
  have k0 := h0
  have lt0 : ∀ x ∈ p0, x.block < W.heap.size := by obtain ⟨m, hm⟩ := k0; exact DataW.trod_lt m _ _ _ hm
  obtain ⟨A0, c0, l0, rfl, b0⟩ := open_Ps (hval 0 23 v0 rfl rfl) h0
  clear hA0 hval0 hval
  refine (codeWrites_walk W A0 c0 l0 b0).mono fun e W' ⟨he, bel⟩ => ?_
  subst he
  exact ⟨_, rfl, _, _, _, [], _, [], hW', trodAll_mk1 (shut_bool Try.underlying4 _), (trodAll_cons_mk (Below.trod laidOut (by kernel_rfl) (of_decide_eq_true (by kernel_rfl)) k0 bel lt0) trodAll_mk0), rfl, bel.frame _, fun h => by cases h⟩

theorem codeWrites_holds : Rows.CodeWritesSaid :=
  OpenClaim.holds_of_wide 4 Try.f4 rfl rfl rfl rfl rfl rfl rfl ⟨rfl, rfl, rfl, rfl, rfl⟩ rfl rfl rfl rfl rfl (by kernel_rfl) Try.func4 (by kernel_rfl)
    (of_decide_eq_true (by kernel_rfl)) (by unfold Func.isWrapper; first | (rw [if_pos (by decide +kernel)]; kernel_rfl) | (rw [if_neg (by decide +kernel)]; exact ⟨rfl, rfl⟩))
    (fun os started H enc _ => codeWrites_lifted os started H enc)
#print axioms codeWrites_holds
end Go.Proofs.Ytbnlobfhcanbgaa

/- CodeOnce holds: bytes that are one number are its. Conditions: none. -/
import Derived.Test.YtbnlobfhcanbgaaCOpen
import Derived.Test.YtbnlobfhcanbgaaCAwake
import Derived.Test.YtbnlobfhcanbgaaPlain
import Derived.Deep.RegionHeld
namespace Go.Proofs.Ytbnlobfhcanbgaa
open Go.ChangeShapes Go.WideShapes Go.ChangeAt Go.RowKit Go.Joins Go.Deep

/-- What CodeOnce asks for: any number. -/
def askAll : Pt := { Pt.nil with kind := 1, least := -9223372036854775808, most := 9223372036854775807 }
theorem askAll_pts (w : World) (cs : Array Value) (hcs : cs = (([askAll].map ptc).flatten).toArray) :
    Pts (w.alloc (.cells cs 28)) (w.alloc (.cells cs 28)).heap.size (some ⟨w.heap.size, 0, none⟩) 1 [askAll] := by
  refine ⟨(pts_new hcs).more (by simp), (by intro h; cases h), ?_⟩
  intro x hx
  simp only [List.mem_cons, List.not_mem_nil, or_false] at hx
  subst hx
  exact ptok_num (by unfold Fit; decide) (by unfold Fit; decide) (by unfold Fit; decide)
/-- What is read of bytes: one number that is all of them, or something is left or lost. -/
theorem once_read (l : List Nat) (hb : Byt l) : (∃ n, Fit n ∧ l = enc n ∧ readR [askAll] (some l) = ([{ Pt.nil with kind := 1, n := n }], some [])) ∨ (doneR (readR [askAll] (some l)).2 = 20 ∧ (readR [askAll] (some l)).1.length = 1) := by
  have e : readR [askAll] (some l) = ([{ Pt.nil with kind := 1, n := (intR (-9223372036854775808) 9223372036854775807 (some l)).1 }], (intR (-9223372036854775808) 9223372036854775807 (some l)).2) := by simp [readR, takeR, askAll, Pt.nil]
  rw [e]
  cases hn : num 0 true l with
  | none => right; simp [intR, hn, doneR]
  | some ur =>
    obtain ⟨u, r⟩ := ur
    have hf := unzz_fit (num_lt hn)
    rw [intR_yes hn hf.1 hf.2]
    cases r with
    | nil => left; exact ⟨unzz u, hf, by have := enc_num hb hn; simpa using this, rfl⟩
    | cons x r => right; exact ⟨rfl, rfl⟩
theorem face_num {y : Pt} {k n : Int} (h : y.face = { Pt.nil with kind := k, n := n }) : y.kind = k ∧ y.n = n ∧ y.least = 0 ∧ y.most = 0 ∧ y.b = [] ∧ y.h = fun _ => 0 := by
  obtain ⟨a, b, c, d, e, f, g, i⟩ := y
  simp only [Pt.face, Pt.nil, Pt.mk.injEq] at h
  exact ⟨h.1, h.2.1, h.2.2.1, h.2.2.2.1, h.2.2.2.2.2.2.1, h.2.2.2.2.2.2.2⟩
theorem once_pts {w : World} {base c : Nat} {A : Option Addr} {y : Pt} {n : Int} (hp : Pown w base (.slice A 1 c) [y]) (hn : Fit n) (hy : y.face = { Pt.nil with kind := 1, n := n }) : Pts w w.heap.size A c [y] := by
  obtain ⟨hk, hn', hl, hm, hb, hh⟩ := face_num hy
  refine ⟨Own.rd hp.own, ?_, ?_⟩
  · obtain ⟨A', c', hv, -, -, hz⟩ := Own.shape hp.own
    obtain ⟨rfl, -, rfl⟩ := Value.slice.inj hv
    exact fun h => (hz h).2
  · intro x hx
    obtain rfl : x = y := by simpa using hx
    refine ⟨by rw [hb]; exact Bs.nil, fun h => ⟨by rw [hb]; rfl, (hp.mem x hx).none_ h⟩, by rw [hb]; unfold Byt; simp, by rw [hb]; simp, ⟨by rw [hn']; exact hn, by rw [hl]; unfold Fit; omega, by rw [hm]; unfold Fit; omega⟩, fun j => by rw [hh]; show 0 < 256; omega⟩
set_option maxRecDepth 100000 in
set_option maxHeartbeats 4000000 in
theorem codeOnce_walk (w : World) (A : Option Addr) (c : Nat) (l : List Nat) (h : InB w A c l) : Calls Try.prog 7 #[.slice A l.length c] w fun e w' => e = .returned (.bool true) ∧ Below w.heap.size w w' := by
  have HI := Lib.hid h
  have hcm : l.length ≤ maxLen := by have := h.cap; omega
  unfold maxLen at hcm
  clear h
  go_enter Try.func7, Try.ntmps7
  go_wp2_with fail
  refine (awake_any _).mono ?_
  rintro e w1 ⟨rfl, hb1⟩
  have HB1 := Lib.hid hb1
  have HI1 := Lib.hid (HI.out.next hb1)
  clear HI hb1
  by_cases h20 : l.length ≤ 20
  · go_wp2_with fail
    have HR := Lib.hid (read_any A c l (some ⟨w1.heap.size, 0, none⟩) 1 [askAll] (w1.alloc (.cells (([askAll].map ptc).flatten).toArray 28)) ((HI1.out.bs.alloc (Nat.le_refl _) _).more (by simp)) HI1.out.cap HI1.out.none_ HI1.out.byt (by omega) (askAll_pts _ _ rfl) (by decide))
    refine (Hid.out HR).mono ?_
    rintro e w2 ⟨A2, c2, out2, rfl, f2, p2, l2⟩
    have hbl := below_chain HB1.out (below_step l2)
    have HB2 := Lib.hid hbl
    have hs1 : w1.heap.size + 1 = (w1.alloc (.cells (([askAll].map ptc).flatten).toArray 28)).heap.size := by simp
    have HI2 := Lib.hid (HI1.out.next (below_step l2))
    clear HR l2 HB1 HI1 hbl
    rcases once_read l HI2.out.byt with ⟨n, hn, rfl, hr⟩ | ⟨hd, hlen⟩
    · rw [hr] at f2
      simp only [hr, doneR]
      obtain ⟨y, rfl⟩ : ∃ y, out2 = [y] := by
        have := congrArg List.length f2
        rw [List.length_map] at this
        exact List.length_eq_one_iff.1 this
      have hy : y.face = { Pt.nil with kind := 1, n := n } := by simpa using f2
      have HP := Lib.hid (once_pts p2 hn hy)
      have hw : wrs [y] = enc n := by
        obtain ⟨hk, hn', -⟩ := face_num hy
        simp [wrs, wr1, hk, hn']
      have HW := Lib.hid hw
      clear hr f2 p2 hy hw
      obtain ⟨S, hS⟩ : ∃ S, S = str (enc n) := ⟨_, rfl⟩
      have hcv : ∀ q, (convert 25 9 (.slice A (enc n).length c)).run Try.prog (w2.drewN q) = .ok (.string S) (w2.drewN q) := fun q => by rw [hS]; exact str_conv c (Rd.drewN HI2.out.bs q)
      have hcv1 : (convert 25 9 (.slice A (enc n).length c)).run Try.prog (w2.drew) = .ok (.string S) (w2.drew) := hcv 1
      have HWr := Lib.hid (show Calls Try.prog 15 #[.slice A2 1 c2] w2.drew (fun e w3 => ∃ A3 c3, e = .returned (.slice A3 (enc n).length c3) ∧ (convert 25 9 (.slice A3 (enc n).length c3)).run Try.prog w3 = .ok (.string S) w3 ∧ (convert 25 9 (.slice A (enc n).length c)).run Try.prog w3 = .ok (.string S) w3 ∧ Hid (Below w.heap.size w w3)) from by
        refine (written_any A2 c2 [y] w2.drew (HP.out.below (Below.refl _ _).drew) (by simp)).mono ?_
        rintro e w3 ⟨A3, c3, rfl, b3, z3, o3, l3⟩
        rw [HW.out] at b3
        rw [HW.out]
        have l4 : Below w2.heap.size w2 w3 := ((Below.refl w2.heap.size w2).drew).trans l3
        exact ⟨A3, c3, rfl, by rw [hS]; exact str_conv c3 b3, by rw [hS]; exact str_conv c (HI2.out.next l4).bs, Lib.hid (below_chain HB2.out l4)⟩)
      go_wp2_with fail
      refine wp_region_held_drew (S := (fun w' => (convert 25 9 (.slice A (enc n).length c)).run Try.prog w' = .ok (.string S) w' ∧ Hid (Below w.heap.size w w'))) (by kernel_rfl) ?_ (fun hHeld => ?_)
      · (first | exact ⟨hcv1, Lib.hid HB2.out.drew⟩ | exact ⟨hc4, HB3⟩ | assumption)
      refine wpAnyH_take (i := 0) (oi := { dst := some 25, op := Op.move (Operand.tmp 3), type := 4, pos := "law.go:222", after := #[], guard := none }) (v := ?_) rfl (by kernel_rfl) (by kernel_rfl) (by kernel_rfl) (fun _ _ _ h => h) (Or.inl ⟨by rfl, ?_⟩) (by assumption) ?_
      rotate_left 1
      · intro ws hSw; (try dsimp only at hSw); go_simp; all_goals with_reducible rfl
      simp only [Act.put, List.setIfInBounds_toArray, List.set_cons_zero, List.set_cons_succ]
      refine wpAnyH_take (i := 1) (oi := { dst := some 26, op := Op.move (Operand.tmp 25), type := 4, pos := "law.go:222", after := #[{ on := 0, ground := Ground.data }], guard := none }) (v := ?_) rfl (by kernel_rfl) (by kernel_rfl) (by kernel_rfl) (fun _ _ _ h => h) (Or.inl ⟨by rfl, ?_⟩) (by assumption) ?_
      rotate_left 1
      · intro ws hSw; (try dsimp only at hSw); go_simp; all_goals with_reducible rfl
      simp only [Act.put, List.setIfInBounds_toArray, List.set_cons_zero, List.set_cons_succ]
      refine wpAnyH_take (i := 2) (oi := { dst := some 27, op := Op.move (Operand.tmp 4), type := 23, pos := "law.go:222", after := #[{ on := 1, ground := Ground.guard }], guard := some (1, true) }) (v := ?_) rfl (by kernel_rfl) (by kernel_rfl) (by kernel_rfl) (fun _ _ _ h => h) (Or.inl ⟨by rfl, ?_⟩) (by assumption) ?_
      rotate_left 1
      · intro ws hSw; (try dsimp only at hSw); go_simp; all_goals with_reducible rfl
      simp only [Act.put, List.setIfInBounds_toArray, List.set_cons_zero, List.set_cons_succ]
      refine wpAnyH_take (i := 3) (oi := { dst := some 28, op := Op.call { callee := Callee.builtin Builtin.len, args := #[Operand.tmp 27], argTypes := #[23] }, type := 3, pos := "law.go:222", after := #[{ on := 2, ground := Ground.data }, { on := 1, ground := Ground.guard }], guard := some (1, true) }) (v := ?_) rfl (by kernel_rfl) (by kernel_rfl) (by kernel_rfl) (fun _ _ _ h => h) (Or.inl ⟨by rfl, ?_⟩) (by assumption) ?_
      rotate_left 1
      · intro ws hSw; (try dsimp only at hSw); go_simp; all_goals with_reducible rfl
      simp only [Act.put, List.setIfInBounds_toArray, List.set_cons_zero, List.set_cons_succ]
      refine wpAnyH_take (i := 4) (oi := { dst := some 29, op := Op.binOp BinOp.eql 3 (Operand.tmp 28) (Operand.const (Value.int IntKind.i64 1)) 3, type := 4, pos := "law.go:222", after := #[{ on := 3, ground := Ground.data }, { on := 1, ground := Ground.guard }], guard := some (1, true) }) (v := ?_) rfl (by kernel_rfl) (by kernel_rfl) (by kernel_rfl) (fun _ _ _ h => h) (Or.inl ⟨by rfl, ?_⟩) (by assumption) ?_
      rotate_left 1
      · intro ws hSw; (try dsimp only at hSw); go_simp; all_goals with_reducible rfl
      simp only [Act.put, List.setIfInBounds_toArray, List.set_cons_zero, List.set_cons_succ]
      refine wpAnyH_take (i := 5) (oi := { dst := some 30, op := Op.pick (Operand.tmp 26) (Operand.tmp 29) (Operand.const (Value.bool false)), type := 4, pos := "law.go:222", after := #[{ on := 1, ground := Ground.data }, { on := 4, ground := Ground.data }], guard := none }) (v := ?_) rfl (by kernel_rfl) (by kernel_rfl) (by kernel_rfl) (fun _ _ _ h => h) (Or.inl ⟨by rfl, ?_⟩) (by assumption) ?_
      rotate_left 1
      · intro ws hSw; (try dsimp only at hSw); go_simp; all_goals with_reducible rfl
      simp only [Act.put, List.setIfInBounds_toArray, List.set_cons_zero, List.set_cons_succ]
      refine wpAnyH_take (i := 6) (oi := { dst := some 31, op := Op.move (Operand.tmp 30), type := 4, pos := "law.go:222", after := #[{ on := 5, ground := Ground.data }, { on := 1, ground := Ground.chain }], guard := none }) (v := ?_) rfl (by kernel_rfl) (by kernel_rfl) (by kernel_rfl) (fun _ _ _ h => h) (Or.inl ⟨by rfl, ?_⟩) (by assumption) ?_
      rotate_left 1
      · intro ws hSw; (try dsimp only at hSw); go_simp; all_goals with_reducible rfl
      simp only [Act.put, List.setIfInBounds_toArray, List.set_cons_zero, List.set_cons_succ]
      refine wpAnyH_take (i := 7) (oi := { dst := some 32, op := Op.move (Operand.tmp 4), type := 23, pos := "law.go:222", after := #[{ on := 6, ground := Ground.guard }], guard := some (6, true) }) (v := ?_) rfl (by kernel_rfl) (by kernel_rfl) (by kernel_rfl) (fun _ _ _ h => h) (Or.inl ⟨by rfl, ?_⟩) (by assumption) ?_
      rotate_left 1
      · intro ws hSw; (try dsimp only at hSw); go_simp; all_goals with_reducible rfl
      simp only [Act.put, List.setIfInBounds_toArray, List.set_cons_zero, List.set_cons_succ]
      refine wpAnyH_take (i := 10) (oi := { dst := some 35, op := Op.move (Operand.tmp 0), type := 25, pos := "law.go:222", after := #[{ on := 6, ground := Ground.guard }], guard := some (6, true) }) (v := ?_) rfl (by kernel_rfl) (by kernel_rfl) (by kernel_rfl) (fun _ _ _ h => h) (Or.inl ⟨by rfl, ?_⟩) (by assumption) ?_
      rotate_left 1
      · intro ws hSw; (try dsimp only at hSw); go_simp; all_goals with_reducible rfl
      simp only [Act.put, List.setIfInBounds_toArray, List.set_cons_zero, List.set_cons_succ]
      refine wpAnyH_take (i := 11) (oi := { dst := some 36, op := Op.convert 25 9 (Operand.tmp 35), type := 9, pos := "law.go:222", after := #[{ on := 10, ground := Ground.data }, { on := 6, ground := Ground.guard }], guard := some (6, true) }) (v := ?_) rfl (by kernel_rfl) (by kernel_rfl) (by kernel_rfl) (fun _ _ _ h => h) (Or.inl ⟨by rfl, ?_⟩) (by assumption) ?_
      rotate_left 1
      · intro ws hSw; (try dsimp only at hSw); go_simp; all_goals with_reducible rfl
      simp only [Act.put, List.setIfInBounds_toArray, List.set_cons_zero, List.set_cons_succ]
      refine wpAnyH_ready (rs := [8]) (by kernel_rfl) (by simp) ?_
      refine AllReadyH.cons (o := { dst := some 33, op := Op.call { callee := Callee.value (Operand.func 15), args := #[Operand.tmp 32], argTypes := #[23] }, type := 25, pos := "law.go:222", after := #[{ on := 7, ground := Ground.data }, { on := 6, ground := Ground.chain }, { on := 6, ground := Ground.guard }], guard := some (6, true) }) rfl (fun K hK => ?_) AllReadyH.nil
      go_simp
      (go_at_call 15; refine (Hid.out HWr).mono ?_; rintro e w3 ⟨A3, c3, rfl, hc3, hc4, HB3⟩)
      refine hK.out _ _ ?_ (fun hHeld => ?_)
      · (first | exact ⟨hcv1, Lib.hid HB2.out.drew⟩ | exact ⟨hc4, HB3⟩ | assumption)
      clear hK K
      refine wpAnyH_ready (rs := [9]) (by kernel_rfl) (by simp) ?_
      refine AllReadyH.cons (o := { dst := some 34, op := Op.convert 25 9 (Operand.tmp 33), type := 9, pos := "law.go:222", after := #[{ on := 8, ground := Ground.data }, { on := 6, ground := Ground.guard }], guard := some (6, true) }) rfl (fun K hK => ?_) AllReadyH.nil
      go_simp
      refine hK.out _ _ (by assumption) (fun hHeld => ?_)
      clear hK K
      refine wpAnyH_take (i := 12) (oi := { dst := some 37, op := Op.binOp BinOp.eql 9 (Operand.tmp 34) (Operand.tmp 36) 9, type := 4, pos := "law.go:222", after := #[{ on := 9, ground := Ground.data }, { on := 11, ground := Ground.data }, { on := 6, ground := Ground.guard }], guard := some (6, true) }) (v := ?_) rfl (by kernel_rfl) (by kernel_rfl) (by kernel_rfl) (fun _ _ _ h => h) (Or.inl ⟨by rfl, ?_⟩) (by assumption) ?_
      rotate_left 1
      · intro ws hSw; (try dsimp only at hSw); go_simp; all_goals with_reducible rfl
      simp only [Act.put, List.setIfInBounds_toArray, List.set_cons_zero, List.set_cons_succ]
      refine wpAnyH_take (i := 13) (oi := { dst := some 38, op := Op.pick (Operand.tmp 31) (Operand.tmp 37) (Operand.const (Value.bool false)), type := 4, pos := "law.go:222", after := #[{ on := 6, ground := Ground.data }, { on := 12, ground := Ground.data }], guard := none }) (v := ?_) rfl (by kernel_rfl) (by kernel_rfl) (by kernel_rfl) (fun _ _ _ h => h) (Or.inl ⟨by rfl, ?_⟩) (by assumption) ?_
      rotate_left 1
      · intro ws hSw; (try dsimp only at hSw); go_simp; all_goals with_reducible rfl
      simp only [Act.put, List.setIfInBounds_toArray, List.set_cons_zero, List.set_cons_succ]
      refine wpAnyH_take (i := 14) (oi := { dst := some 2, op := Op.assign (Operand.tmp 38), type := 4, pos := "law.go:222", after := #[{ on := 13, ground := Ground.data }, { on := 8, ground := Ground.chain }, { on := 0, ground := Ground.phase }, { on := 1, ground := Ground.phase }, { on := 2, ground := Ground.phase }, { on := 3, ground := Ground.phase }, { on := 4, ground := Ground.phase }, { on := 5, ground := Ground.phase }, { on := 6, ground := Ground.phase }, { on := 7, ground := Ground.phase }, { on := 8, ground := Ground.phase }, { on := 9, ground := Ground.phase }, { on := 10, ground := Ground.phase }, { on := 11, ground := Ground.phase }, { on := 12, ground := Ground.phase }, { on := 13, ground := Ground.phase }], guard := none }) (v := ?_) rfl (by kernel_rfl) (by kernel_rfl) (by kernel_rfl) (fun _ _ _ h => h) (Or.inl ⟨by rfl, ?_⟩) (by assumption) ?_
      rotate_left 1
      · intro ws hSw; (try dsimp only at hSw); go_simp; all_goals with_reducible rfl
      simp only [Act.put, List.setIfInBounds_toArray, List.set_cons_zero, List.set_cons_succ]
      refine wpAnyH_done (by kernel_rfl) ?_ _
      go_wp2_with fail
      go_ret
      exact ⟨rfl, HB3.out⟩
    · have hd2 : out2.length = 1 := by have := congrArg List.length f2; rw [hlen] at this; simpa using this
      rw [hd, hd2]
      clear hd hlen f2 p2
      go_wp2_with fail
      go_ret
      exact ⟨rfl, HB2.out⟩
  · go_wp2_with fail
    go_ret
    exact ⟨rfl, HB1.out⟩

set_option maxRecDepth 100000 in
theorem codeOnce_lifted (os : Os) (started : os.Started) (H : Type) (enc : TypeId × Value → H) :
    ReturnsInHanded {} Try.checked os 7 .any (Rows.codeOnceSpec.pre6 enc Try.prog Try.f7 Rows.codeOnceRow.domain false) (Rows.codeOnceSpec.post enc Try.prog Try.f7 false true false false) := by
  refine returnsInHanded_of_change (C := Try.checked) own started (by kernel_rfl) Try.func7
    (ChangeSpec.witness6 (enc := enc) (C := Try.checked) false ⟨#[], #[.slice none 0 0], []⟩ 8 (by kernel_rfl) (by kernel_rfl) (by kernel_rfl) (by kernel_rfl)) ?_
  intro W base args ds gs before hval0 hW _ _
  have hval : ∀ (j : Nat) t v, Try.f7.params[j]? = some t → args[j]? = some v → Value.okWide Try.prog W .any base t v := hval0
  have hW' := hW
  obtain ⟨p, q, hA0, hV, rfl, _, _⟩ := hW
  have hA : DataW.TrodAll enc Try.prog W 0 (fun _ => true) true Try.f7.params.toList args.toList ds p := hA0
  rw [Try.params7] at hA hval
  obtain ⟨v0, vs0, d0, ds0, p0, q0, hargs, rfl, rfl, h0, r0⟩ := trodAll_cons hA
  obtain ⟨rfl, rfl, rfl⟩ := trodAll_nil r0
  obtain rfl : args = #[v0] := by cases args; simp_all
  obtain ⟨rfl, rfl⟩ := trodVars_none hV
  have k0 := h0
  have lt0 : ∀ x ∈ p0, x.block < W.heap.size := by obtain ⟨m, hm⟩ := k0; exact DataW.trod_lt m _ _ _ hm
  obtain ⟨A0, c0, l0, rfl, b0⟩ := open_B (hval 0 25 v0 rfl rfl) h0
  clear hA0 hval0 hval
  refine (codeOnce_walk W A0 c0 l0 b0).mono fun e W' ⟨he, bel⟩ => ?_
  subst he
  exact ⟨_, rfl, _, _, _, [], _, [], hW', trodAll_mk1 (shut_bool Try.underlying4 _), (trodAll_cons_mk (Below.trod laidOut (by kernel_rfl) (of_decide_eq_true (by kernel_rfl)) k0 bel lt0) trodAll_mk0), rfl, bel.frame _, fun h => by cases h⟩

theorem codeOnce_holds : Rows.CodeOnceSaid :=
  OpenClaim.holds_of_wide 7 Try.f7 rfl rfl rfl rfl rfl rfl rfl ⟨rfl, rfl, rfl, rfl, rfl⟩ rfl rfl rfl rfl rfl (by kernel_rfl) Try.func7 (by kernel_rfl)
    (of_decide_eq_true (by kernel_rfl)) (by unfold Func.isWrapper; first | (rw [if_pos (by decide +kernel)]; kernel_rfl) | (rw [if_neg (by decide +kernel)]; exact ⟨rfl, rfl⟩))
    (fun os started H enc _ => codeOnce_lifted os started H enc)
#print axioms codeOnce_holds
end Go.Proofs.Ytbnlobfhcanbgaa

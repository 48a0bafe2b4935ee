/- MemberOwn holds: lists that are joined stay as they were, whatever becomes of the answer. Conditions: none. -/
import Derived.Test.YtecehbodemiijaaAllRd
namespace Go.Proofs.Ytecehbodemiijaa
open Go.ChangeShapes Go.WideShapes Go.ChangeAt Go.RowKit Go.Joins Go.Deep

def AllOwn (N : Nat) (l : Nat → M) (w : World) (e : Ending) (w' : World) : Prop :=
  ∃ v, e = .returned v ∧ Own w' w.heap.size 24 2 v N (mc l) ∧ Below w.heap.size w w'
theorem all_own {A B : Option Addr} {n c m d N : Nat} {l k : Nat → M} {w : World} (hN : N = max n m) (hA : Rd w w.heap.size 2 A n (mc l)) (hB : Rd w w.heap.size 2 B m (mc k)) (hcA : A = none → c = 0) (hcB : B = none → d = 0) (hn : n ≤ 1000000) (hm : m ≤ 1000000) :
    Calls Try.prog 22 #[.slice A n c, .slice B m d] w (AllOwn N (al n m l k) w) := (all_any A B n c m d l k w hA hB hcA hcB hn hm).mono fun _ _ h => by rw [hN]; exact h
theorem app_made {w : World} {base e : Nat} {v : Value} {n : Nat} {l : Nat → M} (h : Own w base e 2 v (0 + n) (fun j => if j < 0 * 2 then mc l j else mc l (j - 0 * 2))) : Own w base e 2 v n (mc l) := by
  rw [Nat.zero_add] at h
  exact h.congr fun j _ => by rw [if_neg (by omega), show j - 0 * 2 = j from by omega]

set_option maxRecDepth 100000 in
set_option maxHeartbeats 4000000 in
theorem memberOwn_walk (w : World) (A : Option Addr) (n c : Nat) (l : Nat → M) (rA : Rd w w.heap.size 2 A n (mc l)) (zA : A = none → c = 0) (_bA : n ≤ 9223372036854775807) (_fA : ∀ i, i < n → (l i).fits)
    (B : Option Addr) (m d : Nat) (k : Nat → M) (rB : Rd w w.heap.size 2 B m (mc k)) (zB : B = none → d = 0) (_bB : m ≤ 9223372036854775807) (_fB : ∀ i, i < m → (k i).fits) :
    Calls Try.prog 9 #[.slice A n c, .slice B m d] w fun e w' => e = .returned (.bool true) ∧ Below w.heap.size w w' := by
  have ZA := Lib.hid zA
  have ZB := Lib.hid zB
  clear zA zB _fA _fB
  obtain ⟨i0, hi0, hz0, hz1, hz2⟩ := info_parts info_mem
  by_cases h1 : 50 < n
  · go_enter Try.func9, Try.ntmps9
    go_wp2_with (go_at_call 10; refine (awake_any _).mono ?_; rintro e w1 ⟨rfl, hb1⟩)
    go_ret
    exact ⟨rfl, hb1⟩
  by_cases h2 : 50 < m
  · go_enter Try.func9, Try.ntmps9
    go_wp2_with (go_at_call 10; refine (awake_any _).mono ?_; rintro e w1 ⟨rfl, hb1⟩)
    go_ret
    exact ⟨rfl, hb1⟩
  obtain ⟨N, hN⟩ : ∃ N, N = max n m := ⟨_, rfl⟩
  have lN : N ≤ 1000 := by omega
  have HN := Lib.hid hN
  clear hN
  go_enter Try.func9, Try.ntmps9
  go_wp2_with (first
    | (go_at_call 10; refine (awake_any _).mono ?_; rintro e w1 ⟨rfl, hb1⟩)
    | (at_builtin; refine wpl_app _ rfl (.tmp 21) (.tmp 22) 30 rfl w1.heap.size 24 i0 _ 2 16 Try.underlying30 hi0 hz0 hz1 hz2 rfl (by omega) (.slice (some ⟨w1.heap.size, 0, none⟩) 0 0) 0 (mc l) rfl (Own.made _ _ _ (Nat.le_refl _) (Nat.zero_le _) rfl) w1.heap.size A n c (mc l) rfl ((rA.next hb1).alloc (Nat.le_refl _) _) ZA.out (fun j _ => mc_one l j) (by unfold maxLen; omega) (by omega) (by simp) ?_; intro vx w2 ox gx _; have bx : Below w1.heap.size w1 w2 := ((Below.refl _ _).alloc (Nat.le_refl _) _).grown gx (by simp) (by simp [Value.ownBlock]); have b2 := below_chain hb1 bx)
    | (at_builtin; refine wpl_app _ rfl (.tmp 24) (.tmp 25) 30 rfl w2.heap.size 24 i0 _ 2 16 Try.underlying30 hi0 hz0 hz1 hz2 rfl (by omega) (.slice (some ⟨w2.heap.size, 0, none⟩) 0 0) 0 (mc k) rfl (Own.made _ _ _ (Nat.le_refl _) (Nat.zero_le _) rfl) w2.heap.size B m d (mc k) rfl ((rB.next b2).alloc (Nat.le_refl _) _) ZB.out (fun j _ => mc_one k j) (by unfold maxLen; omega) (by omega) (by simp) ?_; intro vy w3 oy gy _; have by' : Below w2.heap.size w2 w3 := ((Below.refl _ _).alloc (Nat.le_refl _) _).grown gy (by simp) (by simp [Value.ownBlock]); have b3 := below_chain b2 by'))
  refine (all_own HN.out (rA.next b3) (rB.next b3) ZA.out ZB.out (by omega) (by omega)).mono ?_
  rintro e w4 ⟨vl, rfl, ol, hb4⟩
  have b4 := below_chain b3 hb4
  have ox := (app_made ox).mono (base' := w1.heap.size) (Nat.le_refl _)
  have oy := (app_made oy).mono (base' := w2.heap.size) (Nat.le_refl _)
  obtain ⟨Ax, cx, rfl, _, _, zx⟩ := ox.shape
  obtain ⟨Ay, cy, rfl, _, _, zy⟩ := oy.shape
  have rx := (ox.rd.below by').more by'.size
  have ry := oy.rd
  clear ox oy gx gy zx zy
  rcases Nat.eq_zero_or_pos N with hN0 | hN0
  · obtain ⟨Al, cl, rfl, _, _, zl⟩ := ol.shape
    have ZL := Lib.hid (fun h => (zl h).2)
    have rl := ol.rd
    clear zl ol
    subst hN0
    go_wp2_with (at_builtin; refine wpl_app _ rfl (.tmp 30) (.tmp 31) 30 rfl w4.heap.size 24 i0 _ 2 16 Try.underlying30 hi0 hz0 hz1 hz2 rfl (by omega) (.slice (some ⟨w4.heap.size, 0, none⟩) 0 0) 0 (mc (al n m l k)) rfl (Own.made _ _ _ (Nat.le_refl _) (Nat.zero_le _) rfl) w4.heap.size Al 0 cl (mc (al n m l k)) rfl (rl.alloc (Nat.le_refl _) _) ZL.out (fun j _ => mc_one _ j) (by unfold maxLen; omega) (by omega) (by simp) ?_; intro vg w5 og gg _)
    have bg : Below w4.heap.size w4 w5 := ((Below.refl _ _).alloc (Nat.le_refl _) _).grown gg (by simp) (by simp [Value.ownBlock])
    have b5 := below_chain b4 bg
    have og := app_made og
    obtain ⟨Ag, cg, rfl, _, _, zg⟩ := og.shape
    have rg := og.rd
    clear og gg zg
    refine wp_loop_rounds 1 ?_; rw [rounds_succ]
    go_wp2_with fail
    refine (same_yes (rA.next b5) ((rx.next hb4).next bg) (by omega) rfl (fun _ _ => rfl)).mono ?_
    rintro e v1 ⟨rfl, hc1⟩
    go_wp2_with fail
    refine (same_yes ((rB.next b5).next hc1) ((((ry.next hb4).next bg)).next hc1) (by omega) rfl (fun _ _ => rfl)).mono ?_
    rintro e v2 ⟨rfl, hc2⟩
    go_wp2_with fail
    refine (all_rd HN.out (((rA.next b5).next hc1).next hc2) (((rB.next b5).next hc1).next hc2) ZA.out ZB.out (by omega) (by omega)).mono ?_
    rintro e v3 ⟨A9, c9, rfl, r9, -, hc3⟩
    go_wp2_with fail
    refine (same_yes r9 (((rg.next hc1).next hc2).next hc3) (by omega) rfl (fun _ _ => rfl)).mono ?_
    rintro e v4 ⟨rfl, hc4⟩
    have bend := below_chain (below_chain (below_chain (below_chain b5 hc1) hc2) hc3) hc4
    have HNo := HN.out
    clear HN
    have HQ := Lib.hid HNo
    clear HNo
    go_wp2
    all_goals
      go_ret
      refine ⟨congrArg (fun x => Ending.returned (.bool x)) ?_, bend⟩
      have hq := HQ.out
      show (_ == _) = true
      rw [beq_iff_eq]
      omega
  · obtain ⟨g, cap, rfl, hg, hgl, hcap, hcm⟩ := ol.form hN0
    go_wp2_with (at_builtin; refine wpl_app _ rfl (.tmp 30) (.tmp 31) 30 rfl w4.heap.size 24 i0 _ 2 16 Try.underlying30 hi0 hz0 hz1 hz2 rfl (by omega) (.slice (some ⟨w4.heap.size, 0, none⟩) 0 0) 0 (mc (al n m l k)) rfl (Own.made _ _ _ (Nat.le_refl _) (Nat.zero_le _) rfl) w4.heap.size (some ⟨g, 0, none⟩) N cap (mc (al n m l k)) rfl (ol.rd.alloc (Nat.le_refl _) _) (fun h => by cases h) (fun j _ => mc_one _ j) (by unfold maxLen; omega) (by omega) (by simp) ?_; intro vg w5 og gg _)
    have bg : Below w4.heap.size w4 w5 := ((Below.refl _ _).alloc (Nat.le_refl _) _).grown gg (by simp) (by simp [Value.ownBlock])
    have b5 := below_chain b4 bg
    have og := app_made og
    obtain ⟨Ag, cg, rfl, _, _, zg⟩ := og.shape
    have ol5 := ol.below bg
    have b45 : Below w3.heap.size w3 w5 := below_chain hb4 bg
    clear gg zg ol
    go_loopw [10] (fun i wr => ∃ j : Nat, j ≤ N ∧ i = .int .i64 j ∧ (∃ f, Own wr w3.heap.size 24 2 (.slice (some ⟨g, 0, none⟩) N cap) N f) ∧ Below w3.heap.size w3 wr ∧ Own wr w4.heap.size 24 2 (.slice Ag N cg) N (mc (al n m l k))) (fun i _ => N - (intOf i).toNat)
    case atStart => exact ⟨0, Nat.zero_le _, rfl, ⟨_, ol5⟩, b45, og⟩
    case round =>
      obtain ⟨j, hj, rfl, ⟨f, olr⟩, br, ogr⟩ := hrel
      by_cases hlt : j < N
      · have o0 := olr.cell (j * 2) (by omega)
        have o1 := olr.cell (j * 2 + 1) (by omega)
        have f0 := olr.free (j * 2)
        have f1 := olr.free (j * 2 + 1)
        have hne : (Value.slice Ag N cg).ownBlock ≠ some g := fun e => by have := (ogr.block g e).1; omega
        go_wp2
        go_roundw
        case rel => exact ⟨j + 1, by omega, by go_num, ⟨_, ((olr.set (j * 2) _).1.set (j * 2 + 1) _).1⟩, (br.setCell (p := ⟨g, j * 2, none⟩) hg _).setCell (p := ⟨g, j * 2 + 1, none⟩) hg _, (ogr.far (p := ⟨g, j * 2, none⟩) hne _).far (p := ⟨g, j * 2 + 1, none⟩) hne _⟩
        case measure => simp [intOf]; omega
      · have HR := Lib.hid hlt
        have b6 : Below w.heap.size w wr := below_chain b3 br
        go_wp2_with fail
        refine (same_yes (rA.next b6) (rx.below br |>.more br.size) (by omega) rfl (fun _ _ => rfl)).mono ?_
        rintro e v1 ⟨rfl, hc1⟩
        go_wp2_with fail
        refine (same_yes ((rB.next b6).next hc1) (((ry.below br |>.more br.size)).next hc1) (by omega) rfl (fun _ _ => rfl)).mono ?_
        rintro e v2 ⟨rfl, hc2⟩
        go_wp2_with fail
        refine (all_rd HN.out (((rA.next b6).next hc1).next hc2) (((rB.next b6).next hc1).next hc2) ZA.out ZB.out (by omega) (by omega)).mono ?_
        rintro e v3 ⟨A9, c9, rfl, r9, -, hc3⟩
        go_wp2_with fail
        refine (same_yes r9 (((ogr.rd.next hc1).next hc2).next hc3) (by omega) rfl (fun _ _ => rfl)).mono ?_
        rintro e v4 ⟨rfl, hc4⟩
        have bend := below_chain (below_chain (below_chain (below_chain b6 hc1) hc2) hc3) hc4
        have HNo := HN.out
        clear HN
        have HQ := Lib.hid HNo
        clear HNo
        go_wp2
        all_goals
          go_ret
          refine ⟨congrArg (fun x => Ending.returned (.bool x)) ?_, bend⟩
          have hq := HQ.out
          show (_ == _) = true
          rw [beq_iff_eq]
          omega

set_option maxRecDepth 100000 in
theorem memberOwn_lifted (os : Os) (started : os.Started) (H : Type) (enc : TypeId × Value → H) :
    ReturnsInHanded {} Try.checked os 9 .any (Rows.memberOwnSpec.pre6 enc Try.prog Try.f9 Rows.memberOwnRow.domain false) (Rows.memberOwnSpec.post enc Try.prog Try.f9 false true false false) := by
  refine returnsInHanded_of_change (C := Try.checked) own started (by kernel_rfl) Try.func9
    (ChangeSpec.witness6 (enc := enc) (C := Try.checked) false ⟨#[], #[.slice none 0 0, .slice none 0 0], []⟩ 8 (by kernel_rfl) (by kernel_rfl) (by kernel_rfl) (by kernel_rfl)) ?_
  intro W base args ds gs before hval0 hW _ _
  have hval : ∀ (j : Nat) t v, Try.f9.params[j]? = some t → args[j]? = some v → Value.okWide Try.prog W .any base t v := hval0
  have hW' := hW
  obtain ⟨p, q, hA0, hV, rfl, _, _⟩ := hW
  have hA : DataW.TrodAll enc Try.prog W 0 (fun _ => true) true Try.f9.params.toList args.toList ds p := hA0
  rw [Try.params9] at hA hval
  obtain ⟨v0, vs0, d0, ds0, p0, q0, hargs, rfl, rfl, h0, r0⟩ := trodAll_cons hA
  obtain ⟨v1, vs1, d1, ds1, p1, q1, rfl, rfl, rfl, h1, r1⟩ := trodAll_cons r0
  obtain ⟨rfl, rfl, rfl⟩ := trodAll_nil r1
  obtain rfl : args = #[v0, v1] := by cases args; simp_all
  obtain ⟨rfl, rfl⟩ := trodVars_none hV
  have k0 := h0
  have lt0 : ∀ x ∈ p0, x.block < W.heap.size := by obtain ⟨m, hm⟩ := k0; exact DataW.trod_lt m _ _ _ hm
  obtain ⟨A0, n0, c0, l0, rfl, rd0, z0, b0, fl0⟩ := open_Ms (hval 0 30 v0 rfl rfl) h0
  have k1 := h1
  have lt1 : ∀ x ∈ p1, x.block < W.heap.size := by obtain ⟨m, hm⟩ := k1; exact DataW.trod_lt m _ _ _ hm
  obtain ⟨A1, n1, c1, l1, rfl, rd1, z1, b1, fl1⟩ := open_Ms (hval 1 30 v1 rfl rfl) h1
  clear hA0 hval0 hval
  refine (memberOwn_walk W A0 n0 c0 l0 rd0 z0 b0 fl0 A1 n1 c1 l1 rd1 z1 b1 fl1).mono fun e W' ⟨he, bel⟩ => ?_
  subst he
  exact ⟨_, rfl, _, _, _, [], _, [], hW', trodAll_mk1 (shut_bool Try.underlying4 _), (trodAll_cons_mk (Below.trod laidOut (by kernel_rfl) (of_decide_eq_true (by kernel_rfl)) k0 bel lt0) (trodAll_cons_mk (Below.trod laidOut (by kernel_rfl) (of_decide_eq_true (by kernel_rfl)) k1 bel lt1) trodAll_mk0)), rfl, bel.frame _, fun h => by cases h⟩

theorem memberOwn_holds : Rows.MemberOwnSaid :=
  OpenClaim.holds_of_wide 9 Try.f9 rfl rfl rfl rfl rfl rfl rfl ⟨rfl, rfl, rfl, rfl, rfl⟩ rfl rfl rfl rfl rfl (by kernel_rfl) Try.func9 (by kernel_rfl)
    (of_decide_eq_true (by kernel_rfl)) (by unfold Func.isWrapper; first | (rw [if_pos (by decide +kernel)]; kernel_rfl) | (rw [if_neg (by decide +kernel)]; exact ⟨rfl, rfl⟩))
    (fun os started H enc _ => memberOwn_lifted os started H enc)
#print axioms memberOwn_holds
end Go.Proofs.Ytecehbodemiijaa

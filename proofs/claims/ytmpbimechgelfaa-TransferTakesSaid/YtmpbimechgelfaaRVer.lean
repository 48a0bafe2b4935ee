/- The document's Verify. -/
import Derived.Test.YtmpbimechgelfaaRMan
import Derived.Test.YtmpbimechgelfaaMk
namespace Go.Proofs.Ytmpbimechgelfaa
open Go Go.RowKit

set_option maxRecDepth 100000 in
set_option maxHeartbeats 4000000 in
theorem rverify_any (s k : Int) (A : Option Addr) (c : Nat) (hs : List (Nat → Nat)) (f : Nat → Nat) (i : Int) (A2 : Option Addr) (c2 : Nat) (l : List Nat) (w : World) (hh : Hs w w.heap.size A hs) (h : Bs w w.heap.size A2 l) (hby : Byt l) (hnone : A2 = none → c2 = 0) :
    Calls Try.prog 55 #[.agg (mcv s k (.slice A hs.length c) f), .int .i64 i, .slice A2 l.length c2] w fun e w' => e = .returned (.int .i64 (verI s k hs i l)) ∧ Below w.heap.size w w' := by
  obtain ⟨z, hz⟩ : ∃ z, z = verI s k hs i l := ⟨_, rfl⟩
  rw [← hz]
  have HZ := Lib.hid hz
  clear hz
  obtain ⟨n, hn⟩ : ∃ n, n = hs.length := ⟨_, rfl⟩
  obtain ⟨m, hm⟩ : ∃ n, n = l.length := ⟨_, rfl⟩
  obtain ⟨M, hM⟩ : ∃ M, M = mcv s k (.slice A n c) f := ⟨_, rfl⟩
  obtain ⟨x, hx⟩ : ∃ x, x = fromI s k n i := ⟨_, rfl⟩
  obtain ⟨y, hy⟩ : ∃ y, y = toI s k n i := ⟨_, rfl⟩
  have HP := Lib.hid (fun w => rpart_any s k A n c f i w)
  rw [← hM, ← hx, ← hy] at HP
  rw [← hn, ← hm, ← hM]
  have HMs : Hid ((Try.prog.info? 35).map (·.size) = some M.size) := Lib.hid (by rw [hM]; exact size_mcv)
  obtain ⟨W0, hW0⟩ : ∃ W0, W0 = w.alloc (.cells M 35) := ⟨_, rfl⟩
  have hB0 : Below w.heap.size w W0 := by rw [hW0]; exact (by repeat (first | exact Below.refl _ _ | assumption | refine below_drewN ?_ _ | refine Below.drew ?_ | refine Below.alloc ?_ (by simp; try omega) _ | refine Below.setCell ?_ (by simp; try omega) _))
  have HHS := Lib.hid (hh.next hB0)
  have HBS := Lib.hid (h.next hB0)
  have HB0 := Lib.hid hB0
  have HMB := Lib.hid (show MB W0 w.heap.size s k (.slice A n c) f from by rw [hW0, hM]; exact heap_alloc_new w _)
  have HROW := Lib.hid (show W0.heap[w.heap.size]? = some (.cells M 35 (0, 0)) from by rw [hW0]; exact heap_alloc_new w _)
  have HW0 := Lib.hid hW0
  obtain ⟨g, hg⟩ : ∃ g, g = w.heap.size := ⟨_, rfl⟩
  rw [← hg] at HMB HROW
  have HG := Lib.hid hg
  have HX := Lib.hid hx
  have HY := Lib.hid hy
  have HN := Lib.hid hn
  have HM := Lib.hid hm
  have HBY := Lib.hid hby
  have HNO := Lib.hid hnone
  obtain ⟨b0, hb0⟩ : ∃ b, b = chkB s k n := ⟨_, rfl⟩
  have HCK := Lib.hid (fun w => rcheck_any s k A n c f w)
  rw [← hb0, ← hM] at HCK
  have HB0B := Lib.hid hb0
  clear hM hx hy hW0 hg hn hm hh h hB0 hby hnone hb0
  go_enter Try.func55, Try.ntmps55
  go_upto_region 1 with (fail)
  change Code.wp _ _ _ _ (w.alloc (.cells M 35))
  rw [← HW0.out, ← HG.out]
  refine wp_region_list ?_
  repeat (first
    | refine wpList_load_row (by rfl) 35 (.tmp 3) (by rfl) g (by rfl) 35 M (0, 0) _ HROW.out Try.underlying35 (by rfl) HMs.out ?_
    | go_values | go_skip | go_guarded | go_step | go_upon)
  refine (HCK.out W0).mono ?_
  rintro e w0 ⟨rfl, hb0⟩
  have HB1' := Lib.hid (below_chain HB0.out hb0)
  have HM0 := Lib.hid (HMB.out.next hb0)
  have HHS0 := Lib.hid (HHS.out.next hb0)
  have HBS0 := Lib.hid (HBS.out.next hb0)
  have HROW0 := Lib.hid (show w0.heap[g]? = some (.cells M 35 (0, 0)) from row_next HROW.out hb0)
  clear hb0 HB0 HMB HW0 HROW HHS HBS HCK
  have c2'' := HM0.out.c2
  cases hin : partB s k n i with
  | false =>
    have HE := Lib.hid (show z = 1 from by rw [HZ.out]; unfold verI; rw [← HN.out, hin])
    have hno : ¬ (b0 = true ∧ 0 ≤ i ∧ i < (n : Int)) := fun ⟨h1, h2, h3⟩ => by
      have : partB s k n i = true := by unfold partB; rw [← HB0B.out, h1, decide_eq_true h2, decide_eq_true h3]; rfl
      rw [hin] at this
      cases this
    clear hin
    cases b0 with
    | false =>
      clear hno
      unfold eno
      go_wp2_with fail
      go_ret
      exact ⟨by rw [HE.out]; rfl, HB1'.out⟩
    | true =>
      unfold eno
      by_cases h1 : i < 0
      · have d1 : decide (i < 0) = true := by simpa using h1
        clear hno
        go_wp2_with fail
        go_ret
        exact ⟨by rw [HE.out]; rfl, HB1'.out⟩
      · have d1 : decide (i < 0) = false := by simpa using h1
        have h2 : (n : Int) ≤ i := by
          by_cases h : (n : Int) ≤ i
          · exact h
          · exact absurd ⟨rfl, by omega, by omega⟩ hno
        have d2 : decide ((n : Int) ≤ i) = true := by simpa using h2
        clear hno
        go_wp2_with fail
        go_ret
        exact ⟨by rw [HE.out]; rfl, HB1'.out⟩
  | true =>
    obtain ⟨hck0, hi0', hin0⟩ := part_facts hin
    have hbt : b0 = true := by rw [HB0B.out]; exact hck0
    subst hbt
    have d1' : decide (i < 0) = false := decide_eq_false (by omega)
    have d2' : decide ((n : Int) ≤ i) = false := decide_eq_false (by omega)
    clear hck0 HB0B
    unfold eno
    go_upto_region 3 with (fail)
    refine wp_region_list ?_
    repeat (first
      | refine wpList_load_row (by rfl) 35 (.tmp 3) (by rfl) g (by rfl) 35 M (0, 0) _ HROW0.out Try.underlying35 (by rfl) HMs.out ?_
      | go_values | go_skip | go_guarded | go_step | go_upon)
    refine (HP.out w0).mono ?_
    rintro e w1 ⟨rfl, hb1⟩
    have HB1 := Lib.hid (below_chain HB1'.out hb1)
    have HM1 := Lib.hid (HM0.out.next hb1)
    have HHS1 := Lib.hid (HHS0.out.next hb1)
    have HBS1 := Lib.hid (HBS0.out.next hb1)
    clear hb1 HB1' HM0 HHS0 HBS0 HP HROW0 c2'' d1' d2' hi0' hin0
    have c2' := HM1.out.c2
    obtain ⟨q, rfl, hq, hn64, hy1, hy2, hx1, hx2, hxy⟩ := in_part hin
    rw [← HX.out, ← HY.out] at hxy
    rw [← HX.out] at hx1 hx2
    rw [← HY.out] at hy1 hy2
    have hy0 : (y == 0) = false := by simp; omega
    have HZ2 := Lib.hid (show z = (match decide ((m : Int) = y - x) && eqh (digH q l) (hs[q]?.getD fun _ => 0) with | true => 0 | false => 51) from by
      rw [HZ.out]; unfold verI; rw [← HN.out, hin, ← HY.out, ← HX.out, ← HM.out]; rfl)
    clear hin HX HY HZ
    obtain ⟨b, off, rfl, hb, hrow⟩ := HHS1.out.at_ (k := q) (by rw [← HN.out]; exact hq)
    have hqI : (q : Int) < (n : Int) := by omega
    have HWR := Lib.hid (show IntKind.i64.wrap (y - x) = y - x from IntWalk.i64_in _ (by omega))
    by_cases hlen : (m : Int) = y - x
    · have d1 : ((m : Int) != y - x) = false := by rw [hlen]; simp
      obtain ⟨C1, hC1⟩ : ∃ C, C = hc (digH q l) := ⟨_, rfl⟩
      obtain ⟨C2, hC2⟩ : ∃ C, C = hc (hs[q]?.getD fun _ => 0) := ⟨_, rfl⟩
      rw [← hC2] at hrow
      have HRW := Lib.hid (fun (W : World) (hb' : Below w1.heap.size w1 W) => show W.rangeAt b (off + q * 32) C2.toList from fun j v hv => (hb'.cell (p := ⟨b, off + q * 32 + j, none⟩) hb).trans (hrow j v hv))
      have HC2s := Lib.hid (show (Try.prog.info? 33).map (·.size) = some C2.size from by rw [hC2]; exact size_hc)
      have hg1 : g < w1.heap.size := HM1.out.lt
      have HSS := Lib.hid (fun (W : World) (hb' : Below w1.heap.size w1 W) => show W.cell? ⟨g, 2, none⟩ = some (.slice (some ⟨b, off, none⟩) n c) ∧ Hid (Below w1.heap.size w1 W) from ⟨(hb'.cell (p := ⟨g, 2, none⟩) hg1).trans c2', Lib.hid hb'⟩)
      have HDG := Lib.hid (fun (W : World) (hb' : Below w1.heap.size w1 W) => rdigest_any q A2 c2 l W (HBS1.out.next hb') HBY.out (by omega) (by rw [← HM.out]; omega) HNO.out)
      rw [← hC1, ← HM.out] at HDG
      cases hev : eqh (digH q l) (hs[q]?.getD fun _ => 0) with
      | true =>
        have HE := Lib.hid (show z = 0 from by rw [HZ2.out, hev, decide_eq_true hlen]; rfl)
        have heq : ∀ W, (Op.equalIn 10000 33 (.agg C1) (.agg C2)).run Try.prog W = .ok true W := fun W => by rw [hC1, hC2, eq_hash, hev]
        clear hev hC1 hC2 hlen hrow HZ2
        go_upto_region 4 with (fail)
        have hwr := HWR.out
        refine wp_region_held_drew (S := (fun w' => w'.cell? ⟨g, 2, none⟩ = some (.slice (some ⟨b, off, none⟩) n c) ∧ Hid (Below w1.heap.size w1 w'))) (by kernel_rfl) ?_ (fun hHeld => ?_)
        · (exact HSS.out _ (by first | exact (Below.refl _ _).drew | exact HBK.out))
        refine wpAnyH_take (i := 0) (oi := { dst := some 29, op := Op.move (Operand.tmp 2), type := 31, pos := "ref.go:71", after := #[], guard := none }) (v := ?_) rfl (by kernel_rfl) (by kernel_rfl) (by kernel_rfl) (fun _ _ _ h => h) (Or.inl ⟨by rfl, ?_⟩) (by assumption) ?_
        rotate_left 1
        · intro ws hSw; (try dsimp only at hSw); go_simp; all_goals with_reducible rfl
        simp only [Act.put, List.setIfInBounds_toArray, List.set_cons_zero, List.set_cons_succ]
        refine wpAnyH_take (i := 1) (oi := { dst := some 30, op := Op.call { callee := Callee.builtin Builtin.len, args := #[Operand.tmp 29], argTypes := #[31] }, type := 3, pos := "ref.go:71", after := #[{ on := 0, ground := Ground.data }], guard := none }) (v := ?_) rfl (by kernel_rfl) (by kernel_rfl) (by kernel_rfl) (fun _ _ _ h => h) (Or.inl ⟨by rfl, ?_⟩) (by assumption) ?_
        rotate_left 1
        · intro ws hSw; (try dsimp only at hSw); go_simp; all_goals with_reducible rfl
        simp only [Act.put, List.setIfInBounds_toArray, List.set_cons_zero, List.set_cons_succ]
        refine wpAnyH_take (i := 2) (oi := { dst := some 31, op := Op.move (Operand.tmp 8), type := 3, pos := "ref.go:71", after := #[], guard := none }) (v := ?_) rfl (by kernel_rfl) (by kernel_rfl) (by kernel_rfl) (fun _ _ _ h => h) (Or.inl ⟨by rfl, ?_⟩) (by assumption) ?_
        rotate_left 1
        · intro ws hSw; (try dsimp only at hSw); go_simp; all_goals with_reducible rfl
        simp only [Act.put, List.setIfInBounds_toArray, List.set_cons_zero, List.set_cons_succ]
        refine wpAnyH_take (i := 3) (oi := { dst := some 32, op := Op.move (Operand.tmp 7), type := 3, pos := "ref.go:71", after := #[], guard := none }) (v := ?_) rfl (by kernel_rfl) (by kernel_rfl) (by kernel_rfl) (fun _ _ _ h => h) (Or.inl ⟨by rfl, ?_⟩) (by assumption) ?_
        rotate_left 1
        · intro ws hSw; (try dsimp only at hSw); go_simp; all_goals with_reducible rfl
        simp only [Act.put, List.setIfInBounds_toArray, List.set_cons_zero, List.set_cons_succ]
        refine wpAnyH_take (i := 4) (oi := { dst := some 33, op := Op.binOp BinOp.sub 3 (Operand.tmp 31) (Operand.tmp 32) 3, type := 3, pos := "ref.go:71", after := #[{ on := 2, ground := Ground.data }, { on := 3, ground := Ground.data }], guard := none }) (v := ?_) rfl (by kernel_rfl) (by kernel_rfl) (by kernel_rfl) (fun _ _ _ h => h) (Or.inl ⟨by rfl, ?_⟩) (by assumption) ?_
        rotate_left 1
        · intro ws hSw; (try dsimp only at hSw); go_simp; all_goals with_reducible rfl
        simp only [Act.put, List.setIfInBounds_toArray, List.set_cons_zero, List.set_cons_succ]
        refine wpAnyH_take (i := 5) (oi := { dst := some 34, op := Op.binOp BinOp.neq 3 (Operand.tmp 30) (Operand.tmp 33) 3, type := 4, pos := "ref.go:71", after := #[{ on := 1, ground := Ground.data }, { on := 4, ground := Ground.data }], guard := none }) (v := ?_) rfl (by kernel_rfl) (by kernel_rfl) (by kernel_rfl) (fun _ _ _ h => h) (Or.inl ⟨by rfl, ?_⟩) (by assumption) ?_
        rotate_left 1
        · intro ws hSw; (try dsimp only at hSw); go_simp; all_goals with_reducible rfl
        simp only [Act.put, List.setIfInBounds_toArray, List.set_cons_zero, List.set_cons_succ]
        refine wpAnyH_take (i := 6) (oi := { dst := some 35, op := Op.move (Operand.tmp 34), type := 4, pos := "ref.go:71", after := #[{ on := 5, ground := Ground.data }], guard := none }) (v := ?_) rfl (by kernel_rfl) (by kernel_rfl) (by kernel_rfl) (fun _ _ _ h => h) (Or.inl ⟨by rfl, ?_⟩) (by assumption) ?_
        rotate_left 1
        · intro ws hSw; (try dsimp only at hSw); go_simp; all_goals with_reducible rfl
        simp only [Act.put, List.setIfInBounds_toArray, List.set_cons_zero, List.set_cons_succ]
        refine wpAnyH_take (i := 7) (oi := { dst := some 36, op := Op.move (Operand.tmp 1), type := 3, pos := "ref.go:71", after := #[{ on := 6, ground := Ground.guard }], guard := some (6, false) }) (v := ?_) rfl (by kernel_rfl) (by kernel_rfl) (by kernel_rfl) (fun _ _ _ h => h) (Or.inl ⟨by rfl, ?_⟩) (by assumption) ?_
        rotate_left 1
        · intro ws hSw; (try dsimp only at hSw); go_simp; all_goals with_reducible rfl
        simp only [Act.put, List.setIfInBounds_toArray, List.set_cons_zero, List.set_cons_succ]
        refine wpAnyH_take (i := 8) (oi := { dst := some 37, op := Op.move (Operand.tmp 2), type := 31, pos := "ref.go:71", after := #[{ on := 6, ground := Ground.guard }], guard := some (6, false) }) (v := ?_) rfl (by kernel_rfl) (by kernel_rfl) (by kernel_rfl) (fun _ _ _ h => h) (Or.inl ⟨by rfl, ?_⟩) (by assumption) ?_
        rotate_left 1
        · intro ws hSw; (try dsimp only at hSw); go_simp; all_goals with_reducible rfl
        simp only [Act.put, List.setIfInBounds_toArray, List.set_cons_zero, List.set_cons_succ]
        refine wpAnyH_take (i := 10) (oi := { dst := some 39, op := Op.fieldAddr 35 (Operand.tmp 3) 2, type := 0, pos := "ref.go:71", after := #[{ on := 6, ground := Ground.guard }], guard := some (6, false) }) (v := ?_) rfl (by kernel_rfl) (by kernel_rfl) (by kernel_rfl) (fun _ _ _ h => h) (Or.inl ⟨by rfl, ?_⟩) (by assumption) ?_
        rotate_left 1
        · intro ws hSw; (try dsimp only at hSw); go_simp; all_goals with_reducible rfl
        simp only [Act.put, List.setIfInBounds_toArray, List.set_cons_zero, List.set_cons_succ]
        refine wpAnyH_take (i := 11) (oi := { dst := some 40, op := Op.load 32 (Operand.tmp 39), type := 32, pos := "ref.go:71", after := #[{ on := 10, ground := Ground.data }, { on := 6, ground := Ground.guard }], guard := some (6, false) }) (v := ?_) rfl (by kernel_rfl) (by kernel_rfl) (by kernel_rfl) (fun _ _ _ h => h) (Or.inl ⟨by rfl, ?_⟩) (by assumption) ?_
        rotate_left 1
        · intro ws hSw; (try dsimp only at hSw); go_simp; all_goals with_reducible rfl
        simp only [Act.put, List.setIfInBounds_toArray, List.set_cons_zero, List.set_cons_succ]
        refine wpAnyH_take (i := 12) (oi := { dst := some 41, op := Op.move (Operand.tmp 1), type := 3, pos := "ref.go:71", after := #[{ on := 6, ground := Ground.guard }], guard := some (6, false) }) (v := ?_) rfl (by kernel_rfl) (by kernel_rfl) (by kernel_rfl) (fun _ _ _ h => h) (Or.inl ⟨by rfl, ?_⟩) (by assumption) ?_
        rotate_left 1
        · intro ws hSw; (try dsimp only at hSw); go_simp; all_goals with_reducible rfl
        simp only [Act.put, List.setIfInBounds_toArray, List.set_cons_zero, List.set_cons_succ]
        refine wpAnyH_take (i := 13) (oi := { dst := some 42, op := Op.indexAddr 32 (Operand.tmp 40) (Operand.tmp 41), type := 0, pos := "ref.go:71", after := #[{ on := 11, ground := Ground.data }, { on := 12, ground := Ground.data }, { on := 6, ground := Ground.guard }], guard := some (6, false) }) (v := ?_) rfl (by kernel_rfl) (by kernel_rfl) (by kernel_rfl) (fun _ _ _ h => h) (Or.inl ⟨by rfl, ?_⟩) (by assumption) ?_
        rotate_left 1
        · intro ws hSw; (try dsimp only at hSw); go_simp; all_goals with_reducible rfl
        simp only [Act.put, List.setIfInBounds_toArray, List.set_cons_zero, List.set_cons_succ]
        refine wpAnyH_take (i := 14) (oi := { dst := some 43, op := Op.load 33 (Operand.tmp 42), type := 33, pos := "ref.go:71", after := #[{ on := 13, ground := Ground.data }, { on := 6, ground := Ground.guard }], guard := some (6, false) }) (v := .agg C2) rfl (by kernel_rfl) (by kernel_rfl) (by kernel_rfl) (fun _ _ _ h => h) (by exact yieldsIf_load_mid (by rfl) 33 (.tmp 42) (by rfl) b (off + q * 32) (by rfl) C2.toList _ (fun w' hw' => HRW.out w' hw'.2.out) Try.underlying33 (by rfl) (by rw [Array.length_toList]; exact HC2s.out)) (by assumption) ?_
        simp only [Act.put, List.setIfInBounds_toArray, List.set_cons_zero, List.set_cons_succ]
        refine wpAnyH_ready (rs := [9]) (by kernel_rfl) (by simp) ?_
        refine AllReadyH.cons (o := { dst := some 38, op := Op.call { callee := Callee.value (Operand.func 67), args := #[Operand.tmp 36, Operand.tmp 37], argTypes := #[3, 31] }, type := 33, pos := "ref.go:71", after := #[{ on := 7, ground := Ground.data }, { on := 8, ground := Ground.data }, { on := 6, ground := Ground.chain }, { on := 6, ground := Ground.guard }], guard := some (6, false) }) rfl (fun K hK => ?_) AllReadyH.nil
        go_simp
        (go_at_call 67; refine (HDG.out _ ((Below.refl w1.heap.size w1).drew)).mono ?_; rintro e w5 ⟨rfl, hb5⟩; have HBK := Lib.hid (below_chain ((Below.refl w1.heap.size w1).drew) hb5); clear hb5)
        refine hK.out _ _ ?_ (fun hHeld => ?_)
        · (exact HSS.out _ (by first | exact (Below.refl _ _).drew | exact HBK.out))
        clear hK K
        refine wpAnyH_take (i := 15) (oi := { dst := some 44, op := Op.binOp BinOp.neq 33 (Operand.tmp 38) (Operand.tmp 43) 33, type := 4, pos := "ref.go:71", after := #[{ on := 9, ground := Ground.data }, { on := 14, ground := Ground.data }, { on := 6, ground := Ground.guard }], guard := some (6, false) }) (v := ?_) rfl (by kernel_rfl) (by kernel_rfl) (by kernel_rfl) (fun _ _ _ h => h) (Or.inl ⟨by rfl, ?_⟩) (by assumption) ?_
        rotate_left 1
        · intro ws hSw; (try dsimp only at hSw); go_simp; all_goals with_reducible rfl
        simp only [Act.put, List.setIfInBounds_toArray, List.set_cons_zero, List.set_cons_succ]
        refine wpAnyH_take (i := 16) (oi := { dst := some 45, op := Op.pick (Operand.tmp 35) (Operand.const (Value.bool true)) (Operand.tmp 44), type := 4, pos := "ref.go:71", after := #[{ on := 6, ground := Ground.data }, { on := 15, ground := Ground.data }], guard := none }) (v := ?_) rfl (by kernel_rfl) (by kernel_rfl) (by kernel_rfl) (fun _ _ _ h => h) (Or.inl ⟨by rfl, ?_⟩) (by assumption) ?_
        rotate_left 1
        · intro ws hSw; (try dsimp only at hSw); go_simp; all_goals with_reducible rfl
        simp only [Act.put, List.setIfInBounds_toArray, List.set_cons_zero, List.set_cons_succ]
        refine wpAnyH_done (by kernel_rfl) ?_ _
        clear hwr
        go_wp2_with fail
        go_ret
        exact ⟨by rw [HE.out]; rfl, below_chain HB1.out HBK.out⟩
      | false =>
        have HE := Lib.hid (show z = 51 from by rw [HZ2.out, hev, decide_eq_true hlen]; rfl)
        have heq : ∀ W, (Op.equalIn 10000 33 (.agg C1) (.agg C2)).run Try.prog W = .ok false W := fun W => by rw [hC1, hC2, eq_hash, hev]
        clear hev hC1 hC2 hlen hrow HZ2
        go_upto_region 4 with (fail)
        have hwr := HWR.out
        refine wp_region_held_drew (S := (fun w' => w'.cell? ⟨g, 2, none⟩ = some (.slice (some ⟨b, off, none⟩) n c) ∧ Hid (Below w1.heap.size w1 w'))) (by kernel_rfl) ?_ (fun hHeld => ?_)
        · (exact HSS.out _ (by first | exact (Below.refl _ _).drew | exact HBK.out))
        refine wpAnyH_take (i := 0) (oi := { dst := some 29, op := Op.move (Operand.tmp 2), type := 31, pos := "ref.go:71", after := #[], guard := none }) (v := ?_) rfl (by kernel_rfl) (by kernel_rfl) (by kernel_rfl) (fun _ _ _ h => h) (Or.inl ⟨by rfl, ?_⟩) (by assumption) ?_
        rotate_left 1
        · intro ws hSw; (try dsimp only at hSw); go_simp; all_goals with_reducible rfl
        simp only [Act.put, List.setIfInBounds_toArray, List.set_cons_zero, List.set_cons_succ]
        refine wpAnyH_take (i := 1) (oi := { dst := some 30, op := Op.call { callee := Callee.builtin Builtin.len, args := #[Operand.tmp 29], argTypes := #[31] }, type := 3, pos := "ref.go:71", after := #[{ on := 0, ground := Ground.data }], guard := none }) (v := ?_) rfl (by kernel_rfl) (by kernel_rfl) (by kernel_rfl) (fun _ _ _ h => h) (Or.inl ⟨by rfl, ?_⟩) (by assumption) ?_
        rotate_left 1
        · intro ws hSw; (try dsimp only at hSw); go_simp; all_goals with_reducible rfl
        simp only [Act.put, List.setIfInBounds_toArray, List.set_cons_zero, List.set_cons_succ]
        refine wpAnyH_take (i := 2) (oi := { dst := some 31, op := Op.move (Operand.tmp 8), type := 3, pos := "ref.go:71", after := #[], guard := none }) (v := ?_) rfl (by kernel_rfl) (by kernel_rfl) (by kernel_rfl) (fun _ _ _ h => h) (Or.inl ⟨by rfl, ?_⟩) (by assumption) ?_
        rotate_left 1
        · intro ws hSw; (try dsimp only at hSw); go_simp; all_goals with_reducible rfl
        simp only [Act.put, List.setIfInBounds_toArray, List.set_cons_zero, List.set_cons_succ]
        refine wpAnyH_take (i := 3) (oi := { dst := some 32, op := Op.move (Operand.tmp 7), type := 3, pos := "ref.go:71", after := #[], guard := none }) (v := ?_) rfl (by kernel_rfl) (by kernel_rfl) (by kernel_rfl) (fun _ _ _ h => h) (Or.inl ⟨by rfl, ?_⟩) (by assumption) ?_
        rotate_left 1
        · intro ws hSw; (try dsimp only at hSw); go_simp; all_goals with_reducible rfl
        simp only [Act.put, List.setIfInBounds_toArray, List.set_cons_zero, List.set_cons_succ]
        refine wpAnyH_take (i := 4) (oi := { dst := some 33, op := Op.binOp BinOp.sub 3 (Operand.tmp 31) (Operand.tmp 32) 3, type := 3, pos := "ref.go:71", after := #[{ on := 2, ground := Ground.data }, { on := 3, ground := Ground.data }], guard := none }) (v := ?_) rfl (by kernel_rfl) (by kernel_rfl) (by kernel_rfl) (fun _ _ _ h => h) (Or.inl ⟨by rfl, ?_⟩) (by assumption) ?_
        rotate_left 1
        · intro ws hSw; (try dsimp only at hSw); go_simp; all_goals with_reducible rfl
        simp only [Act.put, List.setIfInBounds_toArray, List.set_cons_zero, List.set_cons_succ]
        refine wpAnyH_take (i := 5) (oi := { dst := some 34, op := Op.binOp BinOp.neq 3 (Operand.tmp 30) (Operand.tmp 33) 3, type := 4, pos := "ref.go:71", after := #[{ on := 1, ground := Ground.data }, { on := 4, ground := Ground.data }], guard := none }) (v := ?_) rfl (by kernel_rfl) (by kernel_rfl) (by kernel_rfl) (fun _ _ _ h => h) (Or.inl ⟨by rfl, ?_⟩) (by assumption) ?_
        rotate_left 1
        · intro ws hSw; (try dsimp only at hSw); go_simp; all_goals with_reducible rfl
        simp only [Act.put, List.setIfInBounds_toArray, List.set_cons_zero, List.set_cons_succ]
        refine wpAnyH_take (i := 6) (oi := { dst := some 35, op := Op.move (Operand.tmp 34), type := 4, pos := "ref.go:71", after := #[{ on := 5, ground := Ground.data }], guard := none }) (v := ?_) rfl (by kernel_rfl) (by kernel_rfl) (by kernel_rfl) (fun _ _ _ h => h) (Or.inl ⟨by rfl, ?_⟩) (by assumption) ?_
        rotate_left 1
        · intro ws hSw; (try dsimp only at hSw); go_simp; all_goals with_reducible rfl
        simp only [Act.put, List.setIfInBounds_toArray, List.set_cons_zero, List.set_cons_succ]
        refine wpAnyH_take (i := 7) (oi := { dst := some 36, op := Op.move (Operand.tmp 1), type := 3, pos := "ref.go:71", after := #[{ on := 6, ground := Ground.guard }], guard := some (6, false) }) (v := ?_) rfl (by kernel_rfl) (by kernel_rfl) (by kernel_rfl) (fun _ _ _ h => h) (Or.inl ⟨by rfl, ?_⟩) (by assumption) ?_
        rotate_left 1
        · intro ws hSw; (try dsimp only at hSw); go_simp; all_goals with_reducible rfl
        simp only [Act.put, List.setIfInBounds_toArray, List.set_cons_zero, List.set_cons_succ]
        refine wpAnyH_take (i := 8) (oi := { dst := some 37, op := Op.move (Operand.tmp 2), type := 31, pos := "ref.go:71", after := #[{ on := 6, ground := Ground.guard }], guard := some (6, false) }) (v := ?_) rfl (by kernel_rfl) (by kernel_rfl) (by kernel_rfl) (fun _ _ _ h => h) (Or.inl ⟨by rfl, ?_⟩) (by assumption) ?_
        rotate_left 1
        · intro ws hSw; (try dsimp only at hSw); go_simp; all_goals with_reducible rfl
        simp only [Act.put, List.setIfInBounds_toArray, List.set_cons_zero, List.set_cons_succ]
        refine wpAnyH_take (i := 10) (oi := { dst := some 39, op := Op.fieldAddr 35 (Operand.tmp 3) 2, type := 0, pos := "ref.go:71", after := #[{ on := 6, ground := Ground.guard }], guard := some (6, false) }) (v := ?_) rfl (by kernel_rfl) (by kernel_rfl) (by kernel_rfl) (fun _ _ _ h => h) (Or.inl ⟨by rfl, ?_⟩) (by assumption) ?_
        rotate_left 1
        · intro ws hSw; (try dsimp only at hSw); go_simp; all_goals with_reducible rfl
        simp only [Act.put, List.setIfInBounds_toArray, List.set_cons_zero, List.set_cons_succ]
        refine wpAnyH_take (i := 11) (oi := { dst := some 40, op := Op.load 32 (Operand.tmp 39), type := 32, pos := "ref.go:71", after := #[{ on := 10, ground := Ground.data }, { on := 6, ground := Ground.guard }], guard := some (6, false) }) (v := ?_) rfl (by kernel_rfl) (by kernel_rfl) (by kernel_rfl) (fun _ _ _ h => h) (Or.inl ⟨by rfl, ?_⟩) (by assumption) ?_
        rotate_left 1
        · intro ws hSw; (try dsimp only at hSw); go_simp; all_goals with_reducible rfl
        simp only [Act.put, List.setIfInBounds_toArray, List.set_cons_zero, List.set_cons_succ]
        refine wpAnyH_take (i := 12) (oi := { dst := some 41, op := Op.move (Operand.tmp 1), type := 3, pos := "ref.go:71", after := #[{ on := 6, ground := Ground.guard }], guard := some (6, false) }) (v := ?_) rfl (by kernel_rfl) (by kernel_rfl) (by kernel_rfl) (fun _ _ _ h => h) (Or.inl ⟨by rfl, ?_⟩) (by assumption) ?_
        rotate_left 1
        · intro ws hSw; (try dsimp only at hSw); go_simp; all_goals with_reducible rfl
        simp only [Act.put, List.setIfInBounds_toArray, List.set_cons_zero, List.set_cons_succ]
        refine wpAnyH_take (i := 13) (oi := { dst := some 42, op := Op.indexAddr 32 (Operand.tmp 40) (Operand.tmp 41), type := 0, pos := "ref.go:71", after := #[{ on := 11, ground := Ground.data }, { on := 12, ground := Ground.data }, { on := 6, ground := Ground.guard }], guard := some (6, false) }) (v := ?_) rfl (by kernel_rfl) (by kernel_rfl) (by kernel_rfl) (fun _ _ _ h => h) (Or.inl ⟨by rfl, ?_⟩) (by assumption) ?_
        rotate_left 1
        · intro ws hSw; (try dsimp only at hSw); go_simp; all_goals with_reducible rfl
        simp only [Act.put, List.setIfInBounds_toArray, List.set_cons_zero, List.set_cons_succ]
        refine wpAnyH_take (i := 14) (oi := { dst := some 43, op := Op.load 33 (Operand.tmp 42), type := 33, pos := "ref.go:71", after := #[{ on := 13, ground := Ground.data }, { on := 6, ground := Ground.guard }], guard := some (6, false) }) (v := .agg C2) rfl (by kernel_rfl) (by kernel_rfl) (by kernel_rfl) (fun _ _ _ h => h) (by exact yieldsIf_load_mid (by rfl) 33 (.tmp 42) (by rfl) b (off + q * 32) (by rfl) C2.toList _ (fun w' hw' => HRW.out w' hw'.2.out) Try.underlying33 (by rfl) (by rw [Array.length_toList]; exact HC2s.out)) (by assumption) ?_
        simp only [Act.put, List.setIfInBounds_toArray, List.set_cons_zero, List.set_cons_succ]
        refine wpAnyH_ready (rs := [9]) (by kernel_rfl) (by simp) ?_
        refine AllReadyH.cons (o := { dst := some 38, op := Op.call { callee := Callee.value (Operand.func 67), args := #[Operand.tmp 36, Operand.tmp 37], argTypes := #[3, 31] }, type := 33, pos := "ref.go:71", after := #[{ on := 7, ground := Ground.data }, { on := 8, ground := Ground.data }, { on := 6, ground := Ground.chain }, { on := 6, ground := Ground.guard }], guard := some (6, false) }) rfl (fun K hK => ?_) AllReadyH.nil
        go_simp
        (go_at_call 67; refine (HDG.out _ ((Below.refl w1.heap.size w1).drew)).mono ?_; rintro e w5 ⟨rfl, hb5⟩; have HBK := Lib.hid (below_chain ((Below.refl w1.heap.size w1).drew) hb5); clear hb5)
        refine hK.out _ _ ?_ (fun hHeld => ?_)
        · (exact HSS.out _ (by first | exact (Below.refl _ _).drew | exact HBK.out))
        clear hK K
        refine wpAnyH_take (i := 15) (oi := { dst := some 44, op := Op.binOp BinOp.neq 33 (Operand.tmp 38) (Operand.tmp 43) 33, type := 4, pos := "ref.go:71", after := #[{ on := 9, ground := Ground.data }, { on := 14, ground := Ground.data }, { on := 6, ground := Ground.guard }], guard := some (6, false) }) (v := ?_) rfl (by kernel_rfl) (by kernel_rfl) (by kernel_rfl) (fun _ _ _ h => h) (Or.inl ⟨by rfl, ?_⟩) (by assumption) ?_
        rotate_left 1
        · intro ws hSw; (try dsimp only at hSw); go_simp; all_goals with_reducible rfl
        simp only [Act.put, List.setIfInBounds_toArray, List.set_cons_zero, List.set_cons_succ]
        refine wpAnyH_take (i := 16) (oi := { dst := some 45, op := Op.pick (Operand.tmp 35) (Operand.const (Value.bool true)) (Operand.tmp 44), type := 4, pos := "ref.go:71", after := #[{ on := 6, ground := Ground.data }, { on := 15, ground := Ground.data }], guard := none }) (v := ?_) rfl (by kernel_rfl) (by kernel_rfl) (by kernel_rfl) (fun _ _ _ h => h) (Or.inl ⟨by rfl, ?_⟩) (by assumption) ?_
        rotate_left 1
        · intro ws hSw; (try dsimp only at hSw); go_simp; all_goals with_reducible rfl
        simp only [Act.put, List.setIfInBounds_toArray, List.set_cons_zero, List.set_cons_succ]
        refine wpAnyH_done (by kernel_rfl) ?_ _
        clear hwr
        go_wp2_with fail
        go_ret
        exact ⟨by rw [HE.out]; rfl, below_chain HB1.out HBK.out⟩
    · have d1 : ((m : Int) != y - x) = true := by simpa using hlen
      have HE := Lib.hid (show z = 51 from by rw [HZ2.out, decide_eq_false hlen]; rfl)
      clear hlen HZ2
      go_upto_region 4 with (fail)
      have hwr := HWR.out
      refine wp_region_held_drew (S := (fun w' => Hid (Below w1.heap.size w1 w'))) (by kernel_rfl) ?_ (fun hHeld => ?_)
      · (exact Lib.hid (Below.refl w1.heap.size w1).drew)
      refine wpAnyH_take (i := 0) (oi := { dst := some 29, op := Op.move (Operand.tmp 2), type := 31, pos := "ref.go:71", after := #[], guard := none }) (v := ?_) rfl (by kernel_rfl) (by kernel_rfl) (by kernel_rfl) (fun _ _ _ h => h) (Or.inl ⟨by rfl, ?_⟩) (by assumption) ?_
      rotate_left 1
      · intro ws hSw; (try dsimp only at hSw); go_simp; all_goals with_reducible rfl
      simp only [Act.put, List.setIfInBounds_toArray, List.set_cons_zero, List.set_cons_succ]
      refine wpAnyH_take (i := 1) (oi := { dst := some 30, op := Op.call { callee := Callee.builtin Builtin.len, args := #[Operand.tmp 29], argTypes := #[31] }, type := 3, pos := "ref.go:71", after := #[{ on := 0, ground := Ground.data }], guard := none }) (v := ?_) rfl (by kernel_rfl) (by kernel_rfl) (by kernel_rfl) (fun _ _ _ h => h) (Or.inl ⟨by rfl, ?_⟩) (by assumption) ?_
      rotate_left 1
      · intro ws hSw; (try dsimp only at hSw); go_simp; all_goals with_reducible rfl
      simp only [Act.put, List.setIfInBounds_toArray, List.set_cons_zero, List.set_cons_succ]
      refine wpAnyH_take (i := 2) (oi := { dst := some 31, op := Op.move (Operand.tmp 8), type := 3, pos := "ref.go:71", after := #[], guard := none }) (v := ?_) rfl (by kernel_rfl) (by kernel_rfl) (by kernel_rfl) (fun _ _ _ h => h) (Or.inl ⟨by rfl, ?_⟩) (by assumption) ?_
      rotate_left 1
      · intro ws hSw; (try dsimp only at hSw); go_simp; all_goals with_reducible rfl
      simp only [Act.put, List.setIfInBounds_toArray, List.set_cons_zero, List.set_cons_succ]
      refine wpAnyH_take (i := 3) (oi := { dst := some 32, op := Op.move (Operand.tmp 7), type := 3, pos := "ref.go:71", after := #[], guard := none }) (v := ?_) rfl (by kernel_rfl) (by kernel_rfl) (by kernel_rfl) (fun _ _ _ h => h) (Or.inl ⟨by rfl, ?_⟩) (by assumption) ?_
      rotate_left 1
      · intro ws hSw; (try dsimp only at hSw); go_simp; all_goals with_reducible rfl
      simp only [Act.put, List.setIfInBounds_toArray, List.set_cons_zero, List.set_cons_succ]
      refine wpAnyH_take (i := 4) (oi := { dst := some 33, op := Op.binOp BinOp.sub 3 (Operand.tmp 31) (Operand.tmp 32) 3, type := 3, pos := "ref.go:71", after := #[{ on := 2, ground := Ground.data }, { on := 3, ground := Ground.data }], guard := none }) (v := ?_) rfl (by kernel_rfl) (by kernel_rfl) (by kernel_rfl) (fun _ _ _ h => h) (Or.inl ⟨by rfl, ?_⟩) (by assumption) ?_
      rotate_left 1
      · intro ws hSw; (try dsimp only at hSw); go_simp; all_goals with_reducible rfl
      simp only [Act.put, List.setIfInBounds_toArray, List.set_cons_zero, List.set_cons_succ]
      refine wpAnyH_take (i := 5) (oi := { dst := some 34, op := Op.binOp BinOp.neq 3 (Operand.tmp 30) (Operand.tmp 33) 3, type := 4, pos := "ref.go:71", after := #[{ on := 1, ground := Ground.data }, { on := 4, ground := Ground.data }], guard := none }) (v := ?_) rfl (by kernel_rfl) (by kernel_rfl) (by kernel_rfl) (fun _ _ _ h => h) (Or.inl ⟨by rfl, ?_⟩) (by assumption) ?_
      rotate_left 1
      · intro ws hSw; (try dsimp only at hSw); go_simp; all_goals with_reducible rfl
      simp only [Act.put, List.setIfInBounds_toArray, List.set_cons_zero, List.set_cons_succ]
      refine wpAnyH_take (i := 6) (oi := { dst := some 35, op := Op.move (Operand.tmp 34), type := 4, pos := "ref.go:71", after := #[{ on := 5, ground := Ground.data }], guard := none }) (v := ?_) rfl (by kernel_rfl) (by kernel_rfl) (by kernel_rfl) (fun _ _ _ h => h) (Or.inl ⟨by rfl, ?_⟩) (by assumption) ?_
      rotate_left 1
      · intro ws hSw; (try dsimp only at hSw); go_simp; all_goals with_reducible rfl
      simp only [Act.put, List.setIfInBounds_toArray, List.set_cons_zero, List.set_cons_succ]
      refine wpAnyH_take (i := 7) (oi := { dst := some 36, op := Op.move (Operand.tmp 1), type := 3, pos := "ref.go:71", after := #[{ on := 6, ground := Ground.guard }], guard := some (6, false) }) (v := undef) rfl (by kernel_rfl) (by kernel_rfl) (by kernel_rfl) (fun _ _ _ h => h) (Or.inr ⟨by rfl, rfl⟩) (by assumption) ?_
      simp only [Act.put, List.setIfInBounds_toArray, List.set_cons_zero, List.set_cons_succ]
      refine wpAnyH_take (i := 8) (oi := { dst := some 37, op := Op.move (Operand.tmp 2), type := 31, pos := "ref.go:71", after := #[{ on := 6, ground := Ground.guard }], guard := some (6, false) }) (v := undef) rfl (by kernel_rfl) (by kernel_rfl) (by kernel_rfl) (fun _ _ _ h => h) (Or.inr ⟨by rfl, rfl⟩) (by assumption) ?_
      simp only [Act.put, List.setIfInBounds_toArray, List.set_cons_zero, List.set_cons_succ]
      refine wpAnyH_take (i := 9) (oi := { dst := some 38, op := Op.call { callee := Callee.value (Operand.func 67), args := #[Operand.tmp 36, Operand.tmp 37], argTypes := #[3, 31] }, type := 33, pos := "ref.go:71", after := #[{ on := 7, ground := Ground.data }, { on := 8, ground := Ground.data }, { on := 6, ground := Ground.chain }, { on := 6, ground := Ground.guard }], guard := some (6, false) }) (v := undef) rfl (by kernel_rfl) (by kernel_rfl) (by kernel_rfl) (fun _ _ _ h => h) (Or.inr ⟨by rfl, rfl⟩) (by assumption) ?_
      simp only [Act.put, List.setIfInBounds_toArray, List.set_cons_zero, List.set_cons_succ]
      refine wpAnyH_take (i := 10) (oi := { dst := some 39, op := Op.fieldAddr 35 (Operand.tmp 3) 2, type := 0, pos := "ref.go:71", after := #[{ on := 6, ground := Ground.guard }], guard := some (6, false) }) (v := undef) rfl (by kernel_rfl) (by kernel_rfl) (by kernel_rfl) (fun _ _ _ h => h) (Or.inr ⟨by rfl, rfl⟩) (by assumption) ?_
      simp only [Act.put, List.setIfInBounds_toArray, List.set_cons_zero, List.set_cons_succ]
      refine wpAnyH_take (i := 11) (oi := { dst := some 40, op := Op.load 32 (Operand.tmp 39), type := 32, pos := "ref.go:71", after := #[{ on := 10, ground := Ground.data }, { on := 6, ground := Ground.guard }], guard := some (6, false) }) (v := undef) rfl (by kernel_rfl) (by kernel_rfl) (by kernel_rfl) (fun _ _ _ h => h) (Or.inr ⟨by rfl, rfl⟩) (by assumption) ?_
      simp only [Act.put, List.setIfInBounds_toArray, List.set_cons_zero, List.set_cons_succ]
      refine wpAnyH_take (i := 12) (oi := { dst := some 41, op := Op.move (Operand.tmp 1), type := 3, pos := "ref.go:71", after := #[{ on := 6, ground := Ground.guard }], guard := some (6, false) }) (v := undef) rfl (by kernel_rfl) (by kernel_rfl) (by kernel_rfl) (fun _ _ _ h => h) (Or.inr ⟨by rfl, rfl⟩) (by assumption) ?_
      simp only [Act.put, List.setIfInBounds_toArray, List.set_cons_zero, List.set_cons_succ]
      refine wpAnyH_take (i := 13) (oi := { dst := some 42, op := Op.indexAddr 32 (Operand.tmp 40) (Operand.tmp 41), type := 0, pos := "ref.go:71", after := #[{ on := 11, ground := Ground.data }, { on := 12, ground := Ground.data }, { on := 6, ground := Ground.guard }], guard := some (6, false) }) (v := undef) rfl (by kernel_rfl) (by kernel_rfl) (by kernel_rfl) (fun _ _ _ h => h) (Or.inr ⟨by rfl, rfl⟩) (by assumption) ?_
      simp only [Act.put, List.setIfInBounds_toArray, List.set_cons_zero, List.set_cons_succ]
      refine wpAnyH_take (i := 14) (oi := { dst := some 43, op := Op.load 33 (Operand.tmp 42), type := 33, pos := "ref.go:71", after := #[{ on := 13, ground := Ground.data }, { on := 6, ground := Ground.guard }], guard := some (6, false) }) (v := undef) rfl (by kernel_rfl) (by kernel_rfl) (by kernel_rfl) (fun _ _ _ h => h) (Or.inr ⟨by rfl, rfl⟩) (by assumption) ?_
      simp only [Act.put, List.setIfInBounds_toArray, List.set_cons_zero, List.set_cons_succ]
      refine wpAnyH_take (i := 15) (oi := { dst := some 44, op := Op.binOp BinOp.neq 33 (Operand.tmp 38) (Operand.tmp 43) 33, type := 4, pos := "ref.go:71", after := #[{ on := 9, ground := Ground.data }, { on := 14, ground := Ground.data }, { on := 6, ground := Ground.guard }], guard := some (6, false) }) (v := undef) rfl (by kernel_rfl) (by kernel_rfl) (by kernel_rfl) (fun _ _ _ h => h) (Or.inr ⟨by rfl, rfl⟩) (by assumption) ?_
      simp only [Act.put, List.setIfInBounds_toArray, List.set_cons_zero, List.set_cons_succ]
      refine wpAnyH_take (i := 16) (oi := { dst := some 45, op := Op.pick (Operand.tmp 35) (Operand.const (Value.bool true)) (Operand.tmp 44), type := 4, pos := "ref.go:71", after := #[{ on := 6, ground := Ground.data }, { on := 15, ground := Ground.data }], guard := none }) (v := ?_) rfl (by kernel_rfl) (by kernel_rfl) (by kernel_rfl) (fun _ _ _ h => h) (Or.inl ⟨by rfl, ?_⟩) (by assumption) ?_
      rotate_left 1
      · intro ws hSw; (try dsimp only at hSw); go_simp; all_goals with_reducible rfl
      simp only [Act.put, List.setIfInBounds_toArray, List.set_cons_zero, List.set_cons_succ]
      refine wpAnyH_done (by kernel_rfl) ?_ _
      clear hwr
      go_wp2_with fail
      go_ret
      exact ⟨by rw [HE.out]; rfl, HB1.out.drew⟩
end Go.Proofs.Ytmpbimechgelfaa

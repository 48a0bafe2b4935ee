/- manifest.Verify. -/
import Derived.Test.YtmpbimechgelfaaMan2
import Derived.Test.YtmpbimechgelfaaDig
namespace Go.Proofs.Ytmpbimechgelfaa
open Go Go.RowKit

/-- The number that Verify answers. -/
def verI (s k : Int) (hs : List (Nat → Nat)) (i : Int) (l : List Nat) : Int :=
  match partB s k hs.length i with
  | false => 1
  | true => match decide ((l.length : Int) = toI s k hs.length i - fromI s k hs.length i) && eqh (digH i.toNat l) (hs[i.toNat]?.getD fun _ => 0) with
    | true => 0
    | false => 51
theorem in_part {s k : Int} {n : Nat} {i : Int} (h : partB s k n i = true) : ∃ q : Nat, i = (q : Int) ∧ q < n ∧ n ≤ 64 ∧ 1 ≤ toI s k n i ∧ toI s k n i ≤ 65536 ∧ 0 ≤ fromI s k n i ∧ fromI s k n i ≤ 262144 ∧ toI s k n i - fromI s k n i ≤ 4096 := by
  obtain ⟨hck, hi0, hin⟩ := part_facts h
  obtain ⟨hs1, hs2, hk1, hk2, hn1, hn2, hn3⟩ := chk_facts hck
  obtain ⟨hm1, hm2⟩ := mul_bd hi0 (by omega) hk1 hk2
  have e : (i + 1) * k = i * k + k := by rw [Int.add_mul, Int.one_mul]
  unfold toI fromI
  rw [h]
  dsimp only
  rw [e]
  exact ⟨i.toNat, by omega, by omega, hn2, by omega, by omega, by omega, by omega, by omega⟩
set_option maxRecDepth 100000 in
set_option maxHeartbeats 4000000 in
theorem verify_any (s k : Int) (A : Option Addr) (c : Nat) (hs : List (Nat → Nat)) (f : Nat → Nat) (i : Int) (A2 : Option Addr) (c2 : Nat) (l : List Nat) (w : World) (hh : Hs w w.heap.size A hs) (h : Bs w w.heap.size A2 l) (hby : Byt l) :
    Calls Try.prog 23 #[.agg (mcv s k (.slice A hs.length c) f), .int .i64 i, .slice A2 l.length c2] w fun e w' => e = .returned (.int .i64 (verI s k hs i l)) ∧ Below w.heap.size w w' := by
  obtain ⟨z, hz⟩ : ∃ z, z = verI s k hs i l := ⟨_, rfl⟩
  rw [← hz]
  have HZ := Lib.hid hz
  clear hz
  obtain ⟨n, hn⟩ : ∃ n, n = hs.length := ⟨_, rfl⟩
  obtain ⟨m, hm⟩ : ∃ n, n = l.length := ⟨_, rfl⟩
  obtain ⟨M, hM⟩ : ∃ M, M = mcv s k (.slice A n c) f := ⟨_, rfl⟩
  obtain ⟨x, hx⟩ : ∃ x, x = fromI s k n i := ⟨_, rfl⟩
  obtain ⟨y, hy⟩ : ∃ y, y = toI s k n i := ⟨_, rfl⟩
  have HP := Lib.hid (fun w => part_any s k A n c f i w)
  rw [← hM, ← hx, ← hy] at HP
  rw [← hn, ← hm, ← hM]
  have HMs : Hid ((Try.prog.info? 35).map (·.size) = some M.size) := Lib.hid (by rw [hM]; exact size_mcv)
  obtain ⟨W0, hW0⟩ : ∃ W0, W0 = w.alloc (.cells M 35) := ⟨_, rfl⟩
  have hB0 : Below w.heap.size w W0 := by rw [hW0]; exact (by repeat (first | exact Below.refl _ _ | assumption | refine below_drewN ?_ _ | refine Below.drew ?_ | refine Below.alloc ?_ (by simp; try omega) _ | refine Below.setCell ?_ (by simp; try omega) _))
  have HHS := Lib.hid (hh.next hB0)
  have HBS := Lib.hid (h.next hB0)
  have HB0 := Lib.hid hB0
  have HMB := Lib.hid (show MB W0 w.heap.size s k (.slice A n c) f from by rw [hW0, hM]; exact heap_alloc_new w _)
  have HROW := Lib.hid (show W0.heap[w.heap.size]? = some (.cells M 35 (0, 0)) from by rw [hW0]; exact heap_alloc_new w _)
  have HW0 := Lib.hid hW0
  obtain ⟨g, hg⟩ : ∃ g, g = w.heap.size := ⟨_, rfl⟩
  rw [← hg] at HMB HROW
  have HG := Lib.hid hg
  have HX := Lib.hid hx
  have HY := Lib.hid hy
  have HN := Lib.hid hn
  have HM := Lib.hid hm
  have HBY := Lib.hid hby
  clear hM hx hy hW0 hg hn hm hh h hB0 hby
  go_enter Try.func23, Try.ntmps23
  go_upto_region 1 with (fail)
  change Code.wp _ _ _ _ (w.alloc (.cells M 35))
  rw [← HW0.out, ← HG.out]
  refine wp_region_list ?_
  repeat (first
    | refine wpList_load_row (by rfl) 35 (.tmp 3) (by rfl) g (by rfl) 35 M (0, 0) _ HROW.out Try.underlying35 (by rfl) HMs.out ?_
    | go_values | go_skip | go_guarded | go_step | go_upon)
  refine (HP.out W0).mono ?_
  rintro e w1 ⟨rfl, hb1⟩
  have HB1 := Lib.hid (below_chain HB0.out hb1)
  have HM1 := Lib.hid (HMB.out.next hb1)
  have HHS1 := Lib.hid (HHS.out.next hb1)
  have HBS1 := Lib.hid (HBS.out.next hb1)
  clear hb1 HB0 HMB HW0 HROW HP HHS HBS
  have c2' := HM1.out.c2
  cases hin : partB s k n i with
  | false =>
    have HE := Lib.hid (show z = 1 from by rw [HZ.out]; unfold verI; rw [← HN.out, hin])
    have hy0 : y = 0 := by rw [HY.out]; unfold toI; rw [hin]
    subst hy0
    clear hin
    go_wp2_with fail
    go_ret
    exact ⟨by rw [HE.out]; rfl, HB1.out⟩
  | true =>
    obtain ⟨q, rfl, hq, hn64, hy1, hy2, hx1, hx2, hxy⟩ := in_part hin
    rw [← HX.out, ← HY.out] at hxy
    rw [← HX.out] at hx1 hx2
    rw [← HY.out] at hy1 hy2
    have hy0 : (y == 0) = false := by simp; omega
    have HZ2 := Lib.hid (show z = (match decide ((m : Int) = y - x) && eqh (digH q l) (hs[q]?.getD fun _ => 0) with | true => 0 | false => 51) from by
      rw [HZ.out]; unfold verI; rw [← HN.out, hin, ← HY.out, ← HX.out, ← HM.out]; rfl)
    clear hin HX HY HZ
    obtain ⟨b, off, rfl, hb, hrow⟩ := HHS1.out.at_ (k := q) (by rw [← HN.out]; exact hq)
    have hqI : (q : Int) < (n : Int) := by omega
    have HWR := Lib.hid (show IntKind.i64.wrap (y - x) = y - x from IntWalk.i64_in _ (by omega))
    by_cases hlen : (m : Int) = y - x
    · have d1 : ((m : Int) != y - x) = false := by rw [hlen]; simp
      obtain ⟨C1, hC1⟩ : ∃ C, C = hc (digH q l) := ⟨_, rfl⟩
      obtain ⟨C2, hC2⟩ : ∃ C, C = hc (hs[q]?.getD fun _ => 0) := ⟨_, rfl⟩
      rw [← hC2] at hrow
      have HRW := Lib.hid (fun (W : World) (hb' : Below w1.heap.size w1 W) => show W.rangeAt b (off + q * 32) C2.toList from fun j v hv => (hb'.cell (p := ⟨b, off + q * 32 + j, none⟩) hb).trans (hrow j v hv))
      have HC2s := Lib.hid (show (Try.prog.info? 33).map (·.size) = some C2.size from by rw [hC2]; exact size_hc)
      have hg1 : g < w1.heap.size := HM1.out.lt
      have HSS := Lib.hid (fun (W : World) (hb' : Below w1.heap.size w1 W) => show W.cell? ⟨g, 2, none⟩ = some (.slice (some ⟨b, off, none⟩) n c) ∧ Hid (Below w1.heap.size w1 W) from ⟨(hb'.cell (p := ⟨g, 2, none⟩) hg1).trans c2', Lib.hid hb'⟩)
      have HDG := Lib.hid (fun (W : World) (hb' : Below w1.heap.size w1 W) => digest_any q A2 c2 l W (HBS1.out.next hb') HBY.out (by omega) (by rw [← HM.out]; omega))
      rw [← hC1, ← HM.out] at HDG
      cases hev : eqh (digH q l) (hs[q]?.getD fun _ => 0) with
      | true =>
        have HE := Lib.hid (show z = 0 from by rw [HZ2.out, hev, decide_eq_true hlen]; rfl)
        have heq : ∀ W, (Op.equalIn 10000 33 (.agg C1) (.agg C2)).run Try.prog W = .ok true W := fun W => by rw [hC1, hC2, eq_hash, hev]
        clear hev hC1 hC2 hlen hrow HZ2
        go_upto_region 4 with (fail)
        have hwr := HWR.out
        refine wp_region_held_drew (S := (fun w' => w'.cell? ⟨g, 2, none⟩ = some (.slice (some ⟨b, off, none⟩) n c) ∧ Hid (Below w1.heap.size w1 w'))) (by kernel_rfl) ?_ (fun hHeld => ?_)
        · (exact HSS.out _ (by first | exact (Below.refl _ _).drew | exact HBK.out))
        refine wpAnyH_take (i := 0) (oi := { dst := some 19, op := Op.move (Operand.tmp 2), type := 31, pos := "manifest.go:61", after := #[], guard := none }) (v := ?_) rfl (by kernel_rfl) (by kernel_rfl) (by kernel_rfl) (fun _ _ _ h => h) (Or.inl ⟨by rfl, ?_⟩) (by assumption) ?_
        rotate_left 1
        · intro ws hSw; (try dsimp only at hSw); go_simp; all_goals with_reducible rfl
        simp only [Act.put, List.setIfInBounds_toArray, List.set_cons_zero, List.set_cons_succ]
        refine wpAnyH_take (i := 1) (oi := { dst := some 20, op := Op.call { callee := Callee.builtin Builtin.len, args := #[Operand.tmp 19], argTypes := #[31] }, type := 3, pos := "manifest.go:61", after := #[{ on := 0, ground := Ground.data }], guard := none }) (v := ?_) rfl (by kernel_rfl) (by kernel_rfl) (by kernel_rfl) (fun _ _ _ h => h) (Or.inl ⟨by rfl, ?_⟩) (by assumption) ?_
        rotate_left 1
        · intro ws hSw; (try dsimp only at hSw); go_simp; all_goals with_reducible rfl
        simp only [Act.put, List.setIfInBounds_toArray, List.set_cons_zero, List.set_cons_succ]
        refine wpAnyH_take (i := 2) (oi := { dst := some 21, op := Op.move (Operand.tmp 8), type := 3, pos := "manifest.go:61", after := #[], guard := none }) (v := ?_) rfl (by kernel_rfl) (by kernel_rfl) (by kernel_rfl) (fun _ _ _ h => h) (Or.inl ⟨by rfl, ?_⟩) (by assumption) ?_
        rotate_left 1
        · intro ws hSw; (try dsimp only at hSw); go_simp; all_goals with_reducible rfl
        simp only [Act.put, List.setIfInBounds_toArray, List.set_cons_zero, List.set_cons_succ]
        refine wpAnyH_take (i := 3) (oi := { dst := some 22, op := Op.move (Operand.tmp 7), type := 3, pos := "manifest.go:61", after := #[], guard := none }) (v := ?_) rfl (by kernel_rfl) (by kernel_rfl) (by kernel_rfl) (fun _ _ _ h => h) (Or.inl ⟨by rfl, ?_⟩) (by assumption) ?_
        rotate_left 1
        · intro ws hSw; (try dsimp only at hSw); go_simp; all_goals with_reducible rfl
        simp only [Act.put, List.setIfInBounds_toArray, List.set_cons_zero, List.set_cons_succ]
        refine wpAnyH_take (i := 4) (oi := { dst := some 23, op := Op.binOp BinOp.sub 3 (Operand.tmp 21) (Operand.tmp 22) 3, type := 3, pos := "manifest.go:61", after := #[{ on := 2, ground := Ground.data }, { on := 3, ground := Ground.data }], guard := none }) (v := ?_) rfl (by kernel_rfl) (by kernel_rfl) (by kernel_rfl) (fun _ _ _ h => h) (Or.inl ⟨by rfl, ?_⟩) (by assumption) ?_
        rotate_left 1
        · intro ws hSw; (try dsimp only at hSw); go_simp; all_goals with_reducible rfl
        simp only [Act.put, List.setIfInBounds_toArray, List.set_cons_zero, List.set_cons_succ]
        refine wpAnyH_take (i := 5) (oi := { dst := some 24, op := Op.binOp BinOp.neq 3 (Operand.tmp 20) (Operand.tmp 23) 3, type := 4, pos := "manifest.go:61", after := #[{ on := 1, ground := Ground.data }, { on := 4, ground := Ground.data }], guard := none }) (v := ?_) rfl (by kernel_rfl) (by kernel_rfl) (by kernel_rfl) (fun _ _ _ h => h) (Or.inl ⟨by rfl, ?_⟩) (by assumption) ?_
        rotate_left 1
        · intro ws hSw; (try dsimp only at hSw); go_simp; all_goals with_reducible rfl
        simp only [Act.put, List.setIfInBounds_toArray, List.set_cons_zero, List.set_cons_succ]
        refine wpAnyH_take (i := 6) (oi := { dst := some 25, op := Op.move (Operand.tmp 24), type := 4, pos := "manifest.go:61", after := #[{ on := 5, ground := Ground.data }], guard := none }) (v := ?_) rfl (by kernel_rfl) (by kernel_rfl) (by kernel_rfl) (fun _ _ _ h => h) (Or.inl ⟨by rfl, ?_⟩) (by assumption) ?_
        rotate_left 1
        · intro ws hSw; (try dsimp only at hSw); go_simp; all_goals with_reducible rfl
        simp only [Act.put, List.setIfInBounds_toArray, List.set_cons_zero, List.set_cons_succ]
        refine wpAnyH_take (i := 7) (oi := { dst := some 26, op := Op.move (Operand.tmp 1), type := 3, pos := "manifest.go:61", after := #[{ on := 6, ground := Ground.guard }], guard := some (6, false) }) (v := ?_) rfl (by kernel_rfl) (by kernel_rfl) (by kernel_rfl) (fun _ _ _ h => h) (Or.inl ⟨by rfl, ?_⟩) (by assumption) ?_
        rotate_left 1
        · intro ws hSw; (try dsimp only at hSw); go_simp; all_goals with_reducible rfl
        simp only [Act.put, List.setIfInBounds_toArray, List.set_cons_zero, List.set_cons_succ]
        refine wpAnyH_take (i := 8) (oi := { dst := some 27, op := Op.move (Operand.tmp 2), type := 31, pos := "manifest.go:61", after := #[{ on := 6, ground := Ground.guard }], guard := some (6, false) }) (v := ?_) rfl (by kernel_rfl) (by kernel_rfl) (by kernel_rfl) (fun _ _ _ h => h) (Or.inl ⟨by rfl, ?_⟩) (by assumption) ?_
        rotate_left 1
        · intro ws hSw; (try dsimp only at hSw); go_simp; all_goals with_reducible rfl
        simp only [Act.put, List.setIfInBounds_toArray, List.set_cons_zero, List.set_cons_succ]
        refine wpAnyH_take (i := 10) (oi := { dst := some 29, op := Op.fieldAddr 35 (Operand.tmp 3) 2, type := 0, pos := "manifest.go:61", after := #[{ on := 6, ground := Ground.guard }], guard := some (6, false) }) (v := ?_) rfl (by kernel_rfl) (by kernel_rfl) (by kernel_rfl) (fun _ _ _ h => h) (Or.inl ⟨by rfl, ?_⟩) (by assumption) ?_
        rotate_left 1
        · intro ws hSw; (try dsimp only at hSw); go_simp; all_goals with_reducible rfl
        simp only [Act.put, List.setIfInBounds_toArray, List.set_cons_zero, List.set_cons_succ]
        refine wpAnyH_take (i := 11) (oi := { dst := some 30, op := Op.load 32 (Operand.tmp 29), type := 32, pos := "manifest.go:61", after := #[{ on := 10, ground := Ground.data }, { on := 6, ground := Ground.guard }], guard := some (6, false) }) (v := ?_) rfl (by kernel_rfl) (by kernel_rfl) (by kernel_rfl) (fun _ _ _ h => h) (Or.inl ⟨by rfl, ?_⟩) (by assumption) ?_
        rotate_left 1
        · intro ws hSw; (try dsimp only at hSw); go_simp; all_goals with_reducible rfl
        simp only [Act.put, List.setIfInBounds_toArray, List.set_cons_zero, List.set_cons_succ]
        refine wpAnyH_take (i := 12) (oi := { dst := some 31, op := Op.move (Operand.tmp 1), type := 3, pos := "manifest.go:61", after := #[{ on := 6, ground := Ground.guard }], guard := some (6, false) }) (v := ?_) rfl (by kernel_rfl) (by kernel_rfl) (by kernel_rfl) (fun _ _ _ h => h) (Or.inl ⟨by rfl, ?_⟩) (by assumption) ?_
        rotate_left 1
        · intro ws hSw; (try dsimp only at hSw); go_simp; all_goals with_reducible rfl
        simp only [Act.put, List.setIfInBounds_toArray, List.set_cons_zero, List.set_cons_succ]
        refine wpAnyH_take (i := 13) (oi := { dst := some 32, op := Op.indexAddr 32 (Operand.tmp 30) (Operand.tmp 31), type := 0, pos := "manifest.go:61", after := #[{ on := 11, ground := Ground.data }, { on := 12, ground := Ground.data }, { on := 6, ground := Ground.guard }], guard := some (6, false) }) (v := ?_) rfl (by kernel_rfl) (by kernel_rfl) (by kernel_rfl) (fun _ _ _ h => h) (Or.inl ⟨by rfl, ?_⟩) (by assumption) ?_
        rotate_left 1
        · intro ws hSw; (try dsimp only at hSw); go_simp; all_goals with_reducible rfl
        simp only [Act.put, List.setIfInBounds_toArray, List.set_cons_zero, List.set_cons_succ]
        refine wpAnyH_take (i := 14) (oi := { dst := some 33, op := Op.load 33 (Operand.tmp 32), type := 33, pos := "manifest.go:61", after := #[{ on := 13, ground := Ground.data }, { on := 6, ground := Ground.guard }], guard := some (6, false) }) (v := .agg C2) rfl (by kernel_rfl) (by kernel_rfl) (by kernel_rfl) (fun _ _ _ h => h) (by exact yieldsIf_load_mid (by rfl) 33 (.tmp 32) (by rfl) b (off + q * 32) (by rfl) C2.toList _ (fun w' hw' => HRW.out w' hw'.2.out) Try.underlying33 (by rfl) (by rw [Array.length_toList]; exact HC2s.out)) (by assumption) ?_
        simp only [Act.put, List.setIfInBounds_toArray, List.set_cons_zero, List.set_cons_succ]
        refine wpAnyH_ready (rs := [9]) (by kernel_rfl) (by simp) ?_
        refine AllReadyH.cons (o := { dst := some 28, op := Op.call { callee := Callee.value (Operand.func 46), args := #[Operand.tmp 26, Operand.tmp 27], argTypes := #[3, 31] }, type := 33, pos := "manifest.go:61", after := #[{ on := 7, ground := Ground.data }, { on := 8, ground := Ground.data }, { on := 6, ground := Ground.chain }, { on := 6, ground := Ground.guard }], guard := some (6, false) }) rfl (fun K hK => ?_) AllReadyH.nil
        go_simp
        (go_at_call 46; refine (HDG.out _ ((Below.refl w1.heap.size w1).drew)).mono ?_; rintro e w5 ⟨rfl, hb5⟩; have HBK := Lib.hid (below_chain ((Below.refl w1.heap.size w1).drew) hb5); clear hb5)
        refine hK.out _ _ ?_ (fun hHeld => ?_)
        · (exact HSS.out _ (by first | exact (Below.refl _ _).drew | exact HBK.out))
        clear hK K
        refine wpAnyH_take (i := 15) (oi := { dst := some 34, op := Op.binOp BinOp.neq 33 (Operand.tmp 28) (Operand.tmp 33) 33, type := 4, pos := "manifest.go:61", after := #[{ on := 9, ground := Ground.data }, { on := 14, ground := Ground.data }, { on := 6, ground := Ground.guard }], guard := some (6, false) }) (v := ?_) rfl (by kernel_rfl) (by kernel_rfl) (by kernel_rfl) (fun _ _ _ h => h) (Or.inl ⟨by rfl, ?_⟩) (by assumption) ?_
        rotate_left 1
        · intro ws hSw; (try dsimp only at hSw); go_simp; all_goals with_reducible rfl
        simp only [Act.put, List.setIfInBounds_toArray, List.set_cons_zero, List.set_cons_succ]
        refine wpAnyH_take (i := 16) (oi := { dst := some 35, op := Op.pick (Operand.tmp 25) (Operand.const (Value.bool true)) (Operand.tmp 34), type := 4, pos := "manifest.go:61", after := #[{ on := 6, ground := Ground.data }, { on := 15, ground := Ground.data }], guard := none }) (v := ?_) rfl (by kernel_rfl) (by kernel_rfl) (by kernel_rfl) (fun _ _ _ h => h) (Or.inl ⟨by rfl, ?_⟩) (by assumption) ?_
        rotate_left 1
        · intro ws hSw; (try dsimp only at hSw); go_simp; all_goals with_reducible rfl
        simp only [Act.put, List.setIfInBounds_toArray, List.set_cons_zero, List.set_cons_succ]
        refine wpAnyH_take (i := 17) (oi := { dst := some 18, op := Op.assign (Operand.tmp 35), type := 4, pos := "manifest.go:61", after := #[{ on := 16, ground := Ground.data }, { on := 9, ground := Ground.chain }], guard := none }) (v := ?_) rfl (by kernel_rfl) (by kernel_rfl) (by kernel_rfl) (fun _ _ _ h => h) (Or.inl ⟨by rfl, ?_⟩) (by assumption) ?_
        rotate_left 1
        · intro ws hSw; (try dsimp only at hSw); go_simp; all_goals with_reducible rfl
        simp only [Act.put, List.setIfInBounds_toArray, List.set_cons_zero, List.set_cons_succ]
        refine wpAnyH_done (by kernel_rfl) ?_ _
        clear hwr
        go_wp2_with fail
        go_ret
        exact ⟨by rw [HE.out]; rfl, below_chain HB1.out HBK.out⟩
      | false =>
        have HE := Lib.hid (show z = 51 from by rw [HZ2.out, hev, decide_eq_true hlen]; rfl)
        have heq : ∀ W, (Op.equalIn 10000 33 (.agg C1) (.agg C2)).run Try.prog W = .ok false W := fun W => by rw [hC1, hC2, eq_hash, hev]
        clear hev hC1 hC2 hlen hrow HZ2
        go_upto_region 4 with (fail)
        have hwr := HWR.out
        refine wp_region_held_drew (S := (fun w' => w'.cell? ⟨g, 2, none⟩ = some (.slice (some ⟨b, off, none⟩) n c) ∧ Hid (Below w1.heap.size w1 w'))) (by kernel_rfl) ?_ (fun hHeld => ?_)
        · (exact HSS.out _ (by first | exact (Below.refl _ _).drew | exact HBK.out))
        refine wpAnyH_take (i := 0) (oi := { dst := some 19, op := Op.move (Operand.tmp 2), type := 31, pos := "manifest.go:61", after := #[], guard := none }) (v := ?_) rfl (by kernel_rfl) (by kernel_rfl) (by kernel_rfl) (fun _ _ _ h => h) (Or.inl ⟨by rfl, ?_⟩) (by assumption) ?_
        rotate_left 1
        · intro ws hSw; (try dsimp only at hSw); go_simp; all_goals with_reducible rfl
        simp only [Act.put, List.setIfInBounds_toArray, List.set_cons_zero, List.set_cons_succ]
        refine wpAnyH_take (i := 1) (oi := { dst := some 20, op := Op.call { callee := Callee.builtin Builtin.len, args := #[Operand.tmp 19], argTypes := #[31] }, type := 3, pos := "manifest.go:61", after := #[{ on := 0, ground := Ground.data }], guard := none }) (v := ?_) rfl (by kernel_rfl) (by kernel_rfl) (by kernel_rfl) (fun _ _ _ h => h) (Or.inl ⟨by rfl, ?_⟩) (by assumption) ?_
        rotate_left 1
        · intro ws hSw; (try dsimp only at hSw); go_simp; all_goals with_reducible rfl
        simp only [Act.put, List.setIfInBounds_toArray, List.set_cons_zero, List.set_cons_succ]
        refine wpAnyH_take (i := 2) (oi := { dst := some 21, op := Op.move (Operand.tmp 8), type := 3, pos := "manifest.go:61", after := #[], guard := none }) (v := ?_) rfl (by kernel_rfl) (by kernel_rfl) (by kernel_rfl) (fun _ _ _ h => h) (Or.inl ⟨by rfl, ?_⟩) (by assumption) ?_
        rotate_left 1
        · intro ws hSw; (try dsimp only at hSw); go_simp; all_goals with_reducible rfl
        simp only [Act.put, List.setIfInBounds_toArray, List.set_cons_zero, List.set_cons_succ]
        refine wpAnyH_take (i := 3) (oi := { dst := some 22, op := Op.move (Operand.tmp 7), type := 3, pos := "manifest.go:61", after := #[], guard := none }) (v := ?_) rfl (by kernel_rfl) (by kernel_rfl) (by kernel_rfl) (fun _ _ _ h => h) (Or.inl ⟨by rfl, ?_⟩) (by assumption) ?_
        rotate_left 1
        · intro ws hSw; (try dsimp only at hSw); go_simp; all_goals with_reducible rfl
        simp only [Act.put, List.setIfInBounds_toArray, List.set_cons_zero, List.set_cons_succ]
        refine wpAnyH_take (i := 4) (oi := { dst := some 23, op := Op.binOp BinOp.sub 3 (Operand.tmp 21) (Operand.tmp 22) 3, type := 3, pos := "manifest.go:61", after := #[{ on := 2, ground := Ground.data }, { on := 3, ground := Ground.data }], guard := none }) (v := ?_) rfl (by kernel_rfl) (by kernel_rfl) (by kernel_rfl) (fun _ _ _ h => h) (Or.inl ⟨by rfl, ?_⟩) (by assumption) ?_
        rotate_left 1
        · intro ws hSw; (try dsimp only at hSw); go_simp; all_goals with_reducible rfl
        simp only [Act.put, List.setIfInBounds_toArray, List.set_cons_zero, List.set_cons_succ]
        refine wpAnyH_take (i := 5) (oi := { dst := some 24, op := Op.binOp BinOp.neq 3 (Operand.tmp 20) (Operand.tmp 23) 3, type := 4, pos := "manifest.go:61", after := #[{ on := 1, ground := Ground.data }, { on := 4, ground := Ground.data }], guard := none }) (v := ?_) rfl (by kernel_rfl) (by kernel_rfl) (by kernel_rfl) (fun _ _ _ h => h) (Or.inl ⟨by rfl, ?_⟩) (by assumption) ?_
        rotate_left 1
        · intro ws hSw; (try dsimp only at hSw); go_simp; all_goals with_reducible rfl
        simp only [Act.put, List.setIfInBounds_toArray, List.set_cons_zero, List.set_cons_succ]
        refine wpAnyH_take (i := 6) (oi := { dst := some 25, op := Op.move (Operand.tmp 24), type := 4, pos := "manifest.go:61", after := #[{ on := 5, ground := Ground.data }], guard := none }) (v := ?_) rfl (by kernel_rfl) (by kernel_rfl) (by kernel_rfl) (fun _ _ _ h => h) (Or.inl ⟨by rfl, ?_⟩) (by assumption) ?_
        rotate_left 1
        · intro ws hSw; (try dsimp only at hSw); go_simp; all_goals with_reducible rfl
        simp only [Act.put, List.setIfInBounds_toArray, List.set_cons_zero, List.set_cons_succ]
        refine wpAnyH_take (i := 7) (oi := { dst := some 26, op := Op.move (Operand.tmp 1), type := 3, pos := "manifest.go:61", after := #[{ on := 6, ground := Ground.guard }], guard := some (6, false) }) (v := ?_) rfl (by kernel_rfl) (by kernel_rfl) (by kernel_rfl) (fun _ _ _ h => h) (Or.inl ⟨by rfl, ?_⟩) (by assumption) ?_
        rotate_left 1
        · intro ws hSw; (try dsimp only at hSw); go_simp; all_goals with_reducible rfl
        simp only [Act.put, List.setIfInBounds_toArray, List.set_cons_zero, List.set_cons_succ]
        refine wpAnyH_take (i := 8) (oi := { dst := some 27, op := Op.move (Operand.tmp 2), type := 31, pos := "manifest.go:61", after := #[{ on := 6, ground := Ground.guard }], guard := some (6, false) }) (v := ?_) rfl (by kernel_rfl) (by kernel_rfl) (by kernel_rfl) (fun _ _ _ h => h) (Or.inl ⟨by rfl, ?_⟩) (by assumption) ?_
        rotate_left 1
        · intro ws hSw; (try dsimp only at hSw); go_simp; all_goals with_reducible rfl
        simp only [Act.put, List.setIfInBounds_toArray, List.set_cons_zero, List.set_cons_succ]
        refine wpAnyH_take (i := 10) (oi := { dst := some 29, op := Op.fieldAddr 35 (Operand.tmp 3) 2, type := 0, pos := "manifest.go:61", after := #[{ on := 6, ground := Ground.guard }], guard := some (6, false) }) (v := ?_) rfl (by kernel_rfl) (by kernel_rfl) (by kernel_rfl) (fun _ _ _ h => h) (Or.inl ⟨by rfl, ?_⟩) (by assumption) ?_
        rotate_left 1
        · intro ws hSw; (try dsimp only at hSw); go_simp; all_goals with_reducible rfl
        simp only [Act.put, List.setIfInBounds_toArray, List.set_cons_zero, List.set_cons_succ]
        refine wpAnyH_take (i := 11) (oi := { dst := some 30, op := Op.load 32 (Operand.tmp 29), type := 32, pos := "manifest.go:61", after := #[{ on := 10, ground := Ground.data }, { on := 6, ground := Ground.guard }], guard := some (6, false) }) (v := ?_) rfl (by kernel_rfl) (by kernel_rfl) (by kernel_rfl) (fun _ _ _ h => h) (Or.inl ⟨by rfl, ?_⟩) (by assumption) ?_
        rotate_left 1
        · intro ws hSw; (try dsimp only at hSw); go_simp; all_goals with_reducible rfl
        simp only [Act.put, List.setIfInBounds_toArray, List.set_cons_zero, List.set_cons_succ]
        refine wpAnyH_take (i := 12) (oi := { dst := some 31, op := Op.move (Operand.tmp 1), type := 3, pos := "manifest.go:61", after := #[{ on := 6, ground := Ground.guard }], guard := some (6, false) }) (v := ?_) rfl (by kernel_rfl) (by kernel_rfl) (by kernel_rfl) (fun _ _ _ h => h) (Or.inl ⟨by rfl, ?_⟩) (by assumption) ?_
        rotate_left 1
        · intro ws hSw; (try dsimp only at hSw); go_simp; all_goals with_reducible rfl
        simp only [Act.put, List.setIfInBounds_toArray, List.set_cons_zero, List.set_cons_succ]
        refine wpAnyH_take (i := 13) (oi := { dst := some 32, op := Op.indexAddr 32 (Operand.tmp 30) (Operand.tmp 31), type := 0, pos := "manifest.go:61", after := #[{ on := 11, ground := Ground.data }, { on := 12, ground := Ground.data }, { on := 6, ground := Ground.guard }], guard := some (6, false) }) (v := ?_) rfl (by kernel_rfl) (by kernel_rfl) (by kernel_rfl) (fun _ _ _ h => h) (Or.inl ⟨by rfl, ?_⟩) (by assumption) ?_
        rotate_left 1
        · intro ws hSw; (try dsimp only at hSw); go_simp; all_goals with_reducible rfl
        simp only [Act.put, List.setIfInBounds_toArray, List.set_cons_zero, List.set_cons_succ]
        refine wpAnyH_take (i := 14) (oi := { dst := some 33, op := Op.load 33 (Operand.tmp 32), type := 33, pos := "manifest.go:61", after := #[{ on := 13, ground := Ground.data }, { on := 6, ground := Ground.guard }], guard := some (6, false) }) (v := .agg C2) rfl (by kernel_rfl) (by kernel_rfl) (by kernel_rfl) (fun _ _ _ h => h) (by exact yieldsIf_load_mid (by rfl) 33 (.tmp 32) (by rfl) b (off + q * 32) (by rfl) C2.toList _ (fun w' hw' => HRW.out w' hw'.2.out) Try.underlying33 (by rfl) (by rw [Array.length_toList]; exact HC2s.out)) (by assumption) ?_
        simp only [Act.put, List.setIfInBounds_toArray, List.set_cons_zero, List.set_cons_succ]
        refine wpAnyH_ready (rs := [9]) (by kernel_rfl) (by simp) ?_
        refine AllReadyH.cons (o := { dst := some 28, op := Op.call { callee := Callee.value (Operand.func 46), args := #[Operand.tmp 26, Operand.tmp 27], argTypes := #[3, 31] }, type := 33, pos := "manifest.go:61", after := #[{ on := 7, ground := Ground.data }, { on := 8, ground := Ground.data }, { on := 6, ground := Ground.chain }, { on := 6, ground := Ground.guard }], guard := some (6, false) }) rfl (fun K hK => ?_) AllReadyH.nil
        go_simp
        (go_at_call 46; refine (HDG.out _ ((Below.refl w1.heap.size w1).drew)).mono ?_; rintro e w5 ⟨rfl, hb5⟩; have HBK := Lib.hid (below_chain ((Below.refl w1.heap.size w1).drew) hb5); clear hb5)
        refine hK.out _ _ ?_ (fun hHeld => ?_)
        · (exact HSS.out _ (by first | exact (Below.refl _ _).drew | exact HBK.out))
        clear hK K
        refine wpAnyH_take (i := 15) (oi := { dst := some 34, op := Op.binOp BinOp.neq 33 (Operand.tmp 28) (Operand.tmp 33) 33, type := 4, pos := "manifest.go:61", after := #[{ on := 9, ground := Ground.data }, { on := 14, ground := Ground.data }, { on := 6, ground := Ground.guard }], guard := some (6, false) }) (v := ?_) rfl (by kernel_rfl) (by kernel_rfl) (by kernel_rfl) (fun _ _ _ h => h) (Or.inl ⟨by rfl, ?_⟩) (by assumption) ?_
        rotate_left 1
        · intro ws hSw; (try dsimp only at hSw); go_simp; all_goals with_reducible rfl
        simp only [Act.put, List.setIfInBounds_toArray, List.set_cons_zero, List.set_cons_succ]
        refine wpAnyH_take (i := 16) (oi := { dst := some 35, op := Op.pick (Operand.tmp 25) (Operand.const (Value.bool true)) (Operand.tmp 34), type := 4, pos := "manifest.go:61", after := #[{ on := 6, ground := Ground.data }, { on := 15, ground := Ground.data }], guard := none }) (v := ?_) rfl (by kernel_rfl) (by kernel_rfl) (by kernel_rfl) (fun _ _ _ h => h) (Or.inl ⟨by rfl, ?_⟩) (by assumption) ?_
        rotate_left 1
        · intro ws hSw; (try dsimp only at hSw); go_simp; all_goals with_reducible rfl
        simp only [Act.put, List.setIfInBounds_toArray, List.set_cons_zero, List.set_cons_succ]
        refine wpAnyH_take (i := 17) (oi := { dst := some 18, op := Op.assign (Operand.tmp 35), type := 4, pos := "manifest.go:61", after := #[{ on := 16, ground := Ground.data }, { on := 9, ground := Ground.chain }], guard := none }) (v := ?_) rfl (by kernel_rfl) (by kernel_rfl) (by kernel_rfl) (fun _ _ _ h => h) (Or.inl ⟨by rfl, ?_⟩) (by assumption) ?_
        rotate_left 1
        · intro ws hSw; (try dsimp only at hSw); go_simp; all_goals with_reducible rfl
        simp only [Act.put, List.setIfInBounds_toArray, List.set_cons_zero, List.set_cons_succ]
        refine wpAnyH_done (by kernel_rfl) ?_ _
        clear hwr
        go_wp2_with fail
        go_ret
        exact ⟨by rw [HE.out]; rfl, below_chain HB1.out HBK.out⟩
    · have d1 : ((m : Int) != y - x) = true := by simpa using hlen
      have HE := Lib.hid (show z = 51 from by rw [HZ2.out, decide_eq_false hlen]; rfl)
      clear hlen HZ2
      go_upto_region 4 with (fail)
      have hwr := HWR.out
      refine wp_region_held_drew (S := (fun w' => Hid (Below w1.heap.size w1 w'))) (by kernel_rfl) ?_ (fun hHeld => ?_)
      · (exact Lib.hid (Below.refl w1.heap.size w1).drew)
      refine wpAnyH_take (i := 0) (oi := { dst := some 19, op := Op.move (Operand.tmp 2), type := 31, pos := "manifest.go:61", after := #[], guard := none }) (v := ?_) rfl (by kernel_rfl) (by kernel_rfl) (by kernel_rfl) (fun _ _ _ h => h) (Or.inl ⟨by rfl, ?_⟩) (by assumption) ?_
      rotate_left 1
      · intro ws hSw; (try dsimp only at hSw); go_simp; all_goals with_reducible rfl
      simp only [Act.put, List.setIfInBounds_toArray, List.set_cons_zero, List.set_cons_succ]
      refine wpAnyH_take (i := 1) (oi := { dst := some 20, op := Op.call { callee := Callee.builtin Builtin.len, args := #[Operand.tmp 19], argTypes := #[31] }, type := 3, pos := "manifest.go:61", after := #[{ on := 0, ground := Ground.data }], guard := none }) (v := ?_) rfl (by kernel_rfl) (by kernel_rfl) (by kernel_rfl) (fun _ _ _ h => h) (Or.inl ⟨by rfl, ?_⟩) (by assumption) ?_
      rotate_left 1
      · intro ws hSw; (try dsimp only at hSw); go_simp; all_goals with_reducible rfl
      simp only [Act.put, List.setIfInBounds_toArray, List.set_cons_zero, List.set_cons_succ]
      refine wpAnyH_take (i := 2) (oi := { dst := some 21, op := Op.move (Operand.tmp 8), type := 3, pos := "manifest.go:61", after := #[], guard := none }) (v := ?_) rfl (by kernel_rfl) (by kernel_rfl) (by kernel_rfl) (fun _ _ _ h => h) (Or.inl ⟨by rfl, ?_⟩) (by assumption) ?_
      rotate_left 1
      · intro ws hSw; (try dsimp only at hSw); go_simp; all_goals with_reducible rfl
      simp only [Act.put, List.setIfInBounds_toArray, List.set_cons_zero, List.set_cons_succ]
      refine wpAnyH_take (i := 3) (oi := { dst := some 22, op := Op.move (Operand.tmp 7), type := 3, pos := "manifest.go:61", after := #[], guard := none }) (v := ?_) rfl (by kernel_rfl) (by kernel_rfl) (by kernel_rfl) (fun _ _ _ h => h) (Or.inl ⟨by rfl, ?_⟩) (by assumption) ?_
      rotate_left 1
      · intro ws hSw; (try dsimp only at hSw); go_simp; all_goals with_reducible rfl
      simp only [Act.put, List.setIfInBounds_toArray, List.set_cons_zero, List.set_cons_succ]
      refine wpAnyH_take (i := 4) (oi := { dst := some 23, op := Op.binOp BinOp.sub 3 (Operand.tmp 21) (Operand.tmp 22) 3, type := 3, pos := "manifest.go:61", after := #[{ on := 2, ground := Ground.data }, { on := 3, ground := Ground.data }], guard := none }) (v := ?_) rfl (by kernel_rfl) (by kernel_rfl) (by kernel_rfl) (fun _ _ _ h => h) (Or.inl ⟨by rfl, ?_⟩) (by assumption) ?_
      rotate_left 1
      · intro ws hSw; (try dsimp only at hSw); go_simp; all_goals with_reducible rfl
      simp only [Act.put, List.setIfInBounds_toArray, List.set_cons_zero, List.set_cons_succ]
      refine wpAnyH_take (i := 5) (oi := { dst := some 24, op := Op.binOp BinOp.neq 3 (Operand.tmp 20) (Operand.tmp 23) 3, type := 4, pos := "manifest.go:61", after := #[{ on := 1, ground := Ground.data }, { on := 4, ground := Ground.data }], guard := none }) (v := ?_) rfl (by kernel_rfl) (by kernel_rfl) (by kernel_rfl) (fun _ _ _ h => h) (Or.inl ⟨by rfl, ?_⟩) (by assumption) ?_
      rotate_left 1
      · intro ws hSw; (try dsimp only at hSw); go_simp; all_goals with_reducible rfl
      simp only [Act.put, List.setIfInBounds_toArray, List.set_cons_zero, List.set_cons_succ]
      refine wpAnyH_take (i := 6) (oi := { dst := some 25, op := Op.move (Operand.tmp 24), type := 4, pos := "manifest.go:61", after := #[{ on := 5, ground := Ground.data }], guard := none }) (v := ?_) rfl (by kernel_rfl) (by kernel_rfl) (by kernel_rfl) (fun _ _ _ h => h) (Or.inl ⟨by rfl, ?_⟩) (by assumption) ?_
      rotate_left 1
      · intro ws hSw; (try dsimp only at hSw); go_simp; all_goals with_reducible rfl
      simp only [Act.put, List.setIfInBounds_toArray, List.set_cons_zero, List.set_cons_succ]
      refine wpAnyH_take (i := 7) (oi := { dst := some 26, op := Op.move (Operand.tmp 1), type := 3, pos := "manifest.go:61", after := #[{ on := 6, ground := Ground.guard }], guard := some (6, false) }) (v := undef) rfl (by kernel_rfl) (by kernel_rfl) (by kernel_rfl) (fun _ _ _ h => h) (Or.inr ⟨by rfl, rfl⟩) (by assumption) ?_
      simp only [Act.put, List.setIfInBounds_toArray, List.set_cons_zero, List.set_cons_succ]
      refine wpAnyH_take (i := 8) (oi := { dst := some 27, op := Op.move (Operand.tmp 2), type := 31, pos := "manifest.go:61", after := #[{ on := 6, ground := Ground.guard }], guard := some (6, false) }) (v := undef) rfl (by kernel_rfl) (by kernel_rfl) (by kernel_rfl) (fun _ _ _ h => h) (Or.inr ⟨by rfl, rfl⟩) (by assumption) ?_
      simp only [Act.put, List.setIfInBounds_toArray, List.set_cons_zero, List.set_cons_succ]
      refine wpAnyH_take (i := 9) (oi := { dst := some 28, op := Op.call { callee := Callee.value (Operand.func 46), args := #[Operand.tmp 26, Operand.tmp 27], argTypes := #[3, 31] }, type := 33, pos := "manifest.go:61", after := #[{ on := 7, ground := Ground.data }, { on := 8, ground := Ground.data }, { on := 6, ground := Ground.chain }, { on := 6, ground := Ground.guard }], guard := some (6, false) }) (v := undef) rfl (by kernel_rfl) (by kernel_rfl) (by kernel_rfl) (fun _ _ _ h => h) (Or.inr ⟨by rfl, rfl⟩) (by assumption) ?_
      simp only [Act.put, List.setIfInBounds_toArray, List.set_cons_zero, List.set_cons_succ]
      refine wpAnyH_take (i := 10) (oi := { dst := some 29, op := Op.fieldAddr 35 (Operand.tmp 3) 2, type := 0, pos := "manifest.go:61", after := #[{ on := 6, ground := Ground.guard }], guard := some (6, false) }) (v := undef) rfl (by kernel_rfl) (by kernel_rfl) (by kernel_rfl) (fun _ _ _ h => h) (Or.inr ⟨by rfl, rfl⟩) (by assumption) ?_
      simp only [Act.put, List.setIfInBounds_toArray, List.set_cons_zero, List.set_cons_succ]
      refine wpAnyH_take (i := 11) (oi := { dst := some 30, op := Op.load 32 (Operand.tmp 29), type := 32, pos := "manifest.go:61", after := #[{ on := 10, ground := Ground.data }, { on := 6, ground := Ground.guard }], guard := some (6, false) }) (v := undef) rfl (by kernel_rfl) (by kernel_rfl) (by kernel_rfl) (fun _ _ _ h => h) (Or.inr ⟨by rfl, rfl⟩) (by assumption) ?_
      simp only [Act.put, List.setIfInBounds_toArray, List.set_cons_zero, List.set_cons_succ]
      refine wpAnyH_take (i := 12) (oi := { dst := some 31, op := Op.move (Operand.tmp 1), type := 3, pos := "manifest.go:61", after := #[{ on := 6, ground := Ground.guard }], guard := some (6, false) }) (v := undef) rfl (by kernel_rfl) (by kernel_rfl) (by kernel_rfl) (fun _ _ _ h => h) (Or.inr ⟨by rfl, rfl⟩) (by assumption) ?_
      simp only [Act.put, List.setIfInBounds_toArray, List.set_cons_zero, List.set_cons_succ]
      refine wpAnyH_take (i := 13) (oi := { dst := some 32, op := Op.indexAddr 32 (Operand.tmp 30) (Operand.tmp 31), type := 0, pos := "manifest.go:61", after := #[{ on := 11, ground := Ground.data }, { on := 12, ground := Ground.data }, { on := 6, ground := Ground.guard }], guard := some (6, false) }) (v := undef) rfl (by kernel_rfl) (by kernel_rfl) (by kernel_rfl) (fun _ _ _ h => h) (Or.inr ⟨by rfl, rfl⟩) (by assumption) ?_
      simp only [Act.put, List.setIfInBounds_toArray, List.set_cons_zero, List.set_cons_succ]
      refine wpAnyH_take (i := 14) (oi := { dst := some 33, op := Op.load 33 (Operand.tmp 32), type := 33, pos := "manifest.go:61", after := #[{ on := 13, ground := Ground.data }, { on := 6, ground := Ground.guard }], guard := some (6, false) }) (v := undef) rfl (by kernel_rfl) (by kernel_rfl) (by kernel_rfl) (fun _ _ _ h => h) (Or.inr ⟨by rfl, rfl⟩) (by assumption) ?_
      simp only [Act.put, List.setIfInBounds_toArray, List.set_cons_zero, List.set_cons_succ]
      refine wpAnyH_take (i := 15) (oi := { dst := some 34, op := Op.binOp BinOp.neq 33 (Operand.tmp 28) (Operand.tmp 33) 33, type := 4, pos := "manifest.go:61", after := #[{ on := 9, ground := Ground.data }, { on := 14, ground := Ground.data }, { on := 6, ground := Ground.guard }], guard := some (6, false) }) (v := undef) rfl (by kernel_rfl) (by kernel_rfl) (by kernel_rfl) (fun _ _ _ h => h) (Or.inr ⟨by rfl, rfl⟩) (by assumption) ?_
      simp only [Act.put, List.setIfInBounds_toArray, List.set_cons_zero, List.set_cons_succ]
      refine wpAnyH_take (i := 16) (oi := { dst := some 35, op := Op.pick (Operand.tmp 25) (Operand.const (Value.bool true)) (Operand.tmp 34), type := 4, pos := "manifest.go:61", after := #[{ on := 6, ground := Ground.data }, { on := 15, ground := Ground.data }], guard := none }) (v := ?_) rfl (by kernel_rfl) (by kernel_rfl) (by kernel_rfl) (fun _ _ _ h => h) (Or.inl ⟨by rfl, ?_⟩) (by assumption) ?_
      rotate_left 1
      · intro ws hSw; (try dsimp only at hSw); go_simp; all_goals with_reducible rfl
      simp only [Act.put, List.setIfInBounds_toArray, List.set_cons_zero, List.set_cons_succ]
      refine wpAnyH_take (i := 17) (oi := { dst := some 18, op := Op.assign (Operand.tmp 35), type := 4, pos := "manifest.go:61", after := #[{ on := 16, ground := Ground.data }, { on := 9, ground := Ground.chain }], guard := none }) (v := ?_) rfl (by kernel_rfl) (by kernel_rfl) (by kernel_rfl) (fun _ _ _ h => h) (Or.inl ⟨by rfl, ?_⟩) (by assumption) ?_
      rotate_left 1
      · intro ws hSw; (try dsimp only at hSw); go_simp; all_goals with_reducible rfl
      simp only [Act.put, List.setIfInBounds_toArray, List.set_cons_zero, List.set_cons_succ]
      refine wpAnyH_done (by kernel_rfl) ?_ _
      clear hwr
      go_wp2_with fail
      go_ret
      exact ⟨by rw [HE.out]; rfl, HB1.out.drew⟩
end Go.Proofs.Ytmpbimechgelfaa

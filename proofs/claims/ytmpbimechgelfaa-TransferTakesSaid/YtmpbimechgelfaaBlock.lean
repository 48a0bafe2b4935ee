/- sha.block's contract. -/
import Derived.Test.YtmpbimechgelfaaWords
import Derived.Deep.RegionHeld
import Derived.Deep.Cut
import Derived.BigQuiet
import Derived.Deep.QuietTactic
import Derived.StillTailTactics
namespace Go.Proofs.Ytmpbimechgelfaa
open Go Go.RowKit

theorem size_w8 {f : Nat → Nat} : (Try.prog.info? 79).map (·.size) = some (wc 8 f).toArray.size := by rw [List.size_toArray, wc_len]; kernel_rfl
set_option maxRecDepth 100000 in
set_option maxHeartbeats 8000000 in
theorem block_any (s : Nat → Nat) (A : Option Addr) (c n kp : Nat) (b : List Nat) (K : Nat → Nat) (w : World) (hb : Rd w w.heap.size 1 A 64 (bf b)) (hn : 64 ≤ n) (hnl : n ≤ 1000000) (hby : Byt b) (hsok : (stOf s).ok) (hK : AB w 76 kp 64 K) :
    Calls Try.prog 52 #[.agg (wc 8 s).toArray, .slice A n c, .pointer (some ⟨kp, 0, none⟩)] w fun e w' => e = .returned (.agg (wc 8 (blk K s b)).toArray) ∧ Below w.heap.size w w' := by
  have hsz := wc_len 8 s
  obtain ⟨bb, off, rfl, hbb, hcell⟩ := hb (by omega)
  have HC := Lib.hid hcell
  have HBY := Lib.hid hby
  have hnI : (64 : Int) ≤ (n : Int) := by omega
  clear hcell hb hby
  have HOKs := Lib.hid hsok
  clear hsok
  go_enter Try.func52, Try.ntmps52
  go_wp2_with fail
  obtain ⟨W0, hW0⟩ : ∃ W0, W0 = ((w.alloc (.cells (wc 8 s).toArray 79)).alloc (.cells (wc 8 fun _ => 0).toArray 79)).alloc (.cells (wc 64 fun _ => 0).toArray 76) := ⟨_, rfl⟩
  change Code.wp _ _ _ _ (((w.alloc (.cells (wc 8 s).toArray 79)).alloc (.cells (wc 8 fun _ => 0).toArray 79)).alloc (.cells (wc 64 fun _ => 0).toArray 76))
  rw [← hW0]
  have HBW := Lib.hid (show Below w.heap.size w W0 from by rw [hW0]; exact (by repeat (first | exact Below.refl _ _ | assumption | refine below_drewN ?_ _ | refine Below.drew ?_ | refine Below.alloc ?_ (by simp; try omega) _ | refine Below.setCell ?_ (by simp; try omega) _)))
  have HAS := Lib.hid (show AB W0 79 w.heap.size 8 s from by rw [hW0]; exact AB.alloc (AB.alloc (heap_alloc_new w _) _) _)
  have HAO := Lib.hid (show AB W0 79 (w.heap.size + 1) 8 (fun _ => 0) from by
    rw [hW0]
    refine AB.alloc ?_ _
    have := heap_alloc_new (w.alloc (.cells (wc 8 s).toArray 79)) (.cells (wc 8 fun _ => 0).toArray 79)
    rw [World.size_alloc] at this
    exact this)
  have HAW := Lib.hid (show AB W0 76 (w.heap.size + 1 + 1) 64 (fun _ => 0) from by
    rw [hW0]
    have := heap_alloc_new ((w.alloc (.cells (wc 8 s).toArray 79)).alloc (.cells (wc 8 fun _ => 0).toArray 79)) (.cells (wc 64 fun _ => 0).toArray 76)
    rw [World.size_alloc, World.size_alloc] at this
    exact this)
  clear hW0
  obtain ⟨G, hG⟩ : ∃ G, G = w.heap.size + 1 + 1 := ⟨_, rfl⟩
  rw [← hG] at HAW ⊢
  have HGE := Lib.hid hG
  have hGlt : w.heap.size + 1 < G := by omega
  clear hG
  go_loopw [24] (fun i wr => ∃ t : Nat, i = .int .i64 (t : Int) ∧ t ≤ 16 ∧ AB wr 76 G 64 (fun j => if j < t then be b j else 0) ∧ W0.grownBy wr (some G)) (fun i _ => (16 - intOf i).toNat)
  case atStart => exact ⟨0, rfl, by omega, HAW.out.congr (fun j _ => (if_neg (Nat.not_lt_zero j)).symm), World.grownBy.refl _ _⟩
  case round =>
    obtain ⟨t, rfl, ht, hab, hg⟩ := hrel
    have HAB := Lib.hid hab
    have HGR := Lib.hid hg
    by_cases ht16 : t < 16
    · have hbG : bb ≠ G := by omega
      have hcl : ∀ j, j < 64 → wr.cell? ⟨bb, off + j, none⟩ = some (bf b j) := fun j hj => ((World.cell?_of_block (hg.block bb (Nat.lt_of_lt_of_le hbb HBW.out.size) (fun e => by injection e with e; omega))).trans (HBW.out.cell (p := ⟨bb, off + j, none⟩) hbb)).trans (HC.out j (by omega))
      obtain ⟨x0, hx0⟩ : ∃ x, x = b[4 * t]?.getD 0 := ⟨_, rfl⟩
      obtain ⟨x1, hx1⟩ : ∃ x, x = b[4 * t + 1]?.getD 0 := ⟨_, rfl⟩
      obtain ⟨x2, hx2⟩ : ∃ x, x = b[4 * t + 2]?.getD 0 := ⟨_, rfl⟩
      obtain ⟨x3, hx3⟩ : ∃ x, x = b[4 * t + 3]?.getD 0 := ⟨_, rfl⟩
      have l0 : x0 < 256 := by rw [hx0]; exact HBY.out.at_ _
      have l1 : x1 < 256 := by rw [hx1]; exact HBY.out.at_ _
      have l2 : x2 < 256 := by rw [hx2]; exact HBY.out.at_ _
      have l3 : x3 < 256 := by rw [hx3]; exact HBY.out.at_ _
      have d0 : wr.cell? ⟨bb, off + 4 * t, none⟩ = some (.int .u8 (x0 : Int)) := by rw [hcl _ (by omega), hx0]; rfl
      have d1 : wr.cell? ⟨bb, off + (4 * t + 1), none⟩ = some (.int .u8 (x1 : Int)) := by rw [hcl _ (by omega), hx1]; rfl
      have d2 : wr.cell? ⟨bb, off + (4 * t + 2), none⟩ = some (.int .u8 (x2 : Int)) := by rw [hcl _ (by omega), hx2]; rfl
      have d3 : wr.cell? ⟨bb, off + (4 * t + 3), none⟩ = some (.int .u8 (x3 : Int)) := by rw [hcl _ (by omega), hx3]; rfl
      have HV := Lib.hid (show be b t = ((x0 * 16777216 ||| x1 * 65536) ||| x2 * 256) ||| x3 from by unfold be; rw [hx0, hx1, hx2, hx3])
      clear hx0 hx1 hx2 hx3 hcl hab hg
      have e0 : wr.cell? ⟨G, t, none⟩ = some (.int .u32 ((if t < t then be b t else 0 : Nat) : Int)) := HAB.out.cell (by omega)
      have f0 := HAB.out.free t
      have hbGw : bb ≠ G := hbG
      have ht64 : (t : Int) < 64 := by omega
      have hw0 : IntKind.i64.wrap (4 * (t : Int)) = 4 * (t : Int) := by rw [IntKind.wrap_i64]; omega
      have hp0 : (0 : Int) ≤ 4 * (t : Int) := by omega
      have hq0 : 4 * (t : Int) < (n : Int) := by omega
      have hr0 : (4 * (t : Int)).toNat = 4 * t := by omega
      have hw1 : IntKind.i64.wrap (4 * (t : Int) + 1) = 4 * (t : Int) + 1 := by rw [IntKind.wrap_i64]; omega
      have hp1 : (0 : Int) ≤ 4 * (t : Int) + 1 := by omega
      have hq1 : 4 * (t : Int) + 1 < (n : Int) := by omega
      have hr1 : (4 * (t : Int) + 1).toNat = 4 * t + 1 := by omega
      have hw2 : IntKind.i64.wrap (4 * (t : Int) + 2) = 4 * (t : Int) + 2 := by rw [IntKind.wrap_i64]; omega
      have hp2 : (0 : Int) ≤ 4 * (t : Int) + 2 := by omega
      have hq2 : 4 * (t : Int) + 2 < (n : Int) := by omega
      have hr2 : (4 * (t : Int) + 2).toNat = 4 * t + 2 := by omega
      have hw3 : IntKind.i64.wrap (4 * (t : Int) + 3) = 4 * (t : Int) + 3 := by rw [IntKind.wrap_i64]; omega
      have hp3 : (0 : Int) ≤ 4 * (t : Int) + 3 := by omega
      have hq3 : 4 * (t : Int) + 3 < (n : Int) := by omega
      have hr3 : (4 * (t : Int) + 3).toNat = 4 * t + 3 := by omega
      have hexpr := be_expr x0 x1 x2 x3 l0 l1 l2 l3
      rw [← HV.out] at hexpr
      have HE := Lib.hid hexpr
      clear hexpr
      go_upto_region 5 with (fail)
      refine wp_region_held_drew (S := (fun w' => w'.cell? ⟨bb, off + 4 * t, none⟩ = some (.int .u8 (x0 : Int)) ∧ w'.cell? ⟨bb, off + (4 * t + 1), none⟩ = some (.int .u8 (x1 : Int)) ∧ w'.cell? ⟨bb, off + (4 * t + 2), none⟩ = some (.int .u8 (x2 : Int)) ∧ w'.cell? ⟨bb, off + (4 * t + 3), none⟩ = some (.int .u8 (x3 : Int)))) (by kernel_rfl) ?_ (fun hHeld => ?_)
      · (first | exact ⟨d0, d1, d2, d3⟩ | exact ⟨(World.cell?_setCell_other _ _ _ _ (fun e => by injection e with e; omega)).trans d0, (World.cell?_setCell_other _ _ _ _ (fun e => by injection e with e; omega)).trans d1, (World.cell?_setCell_other _ _ _ _ (fun e => by injection e with e; omega)).trans d2, (World.cell?_setCell_other _ _ _ _ (fun e => by injection e with e; omega)).trans d3⟩)
      refine wpAnyH_take (i := 0) (oi := { dst := some 27, op := Op.move (Operand.tmp 8), type := 3, pos := "sha.go:35", after := #[], guard := none }) (v := ?_) rfl (by kernel_rfl) (by kernel_rfl) (by kernel_rfl) (fun _ _ _ h => h) (Or.inl ⟨by rfl, ?_⟩) (by assumption) ?_
      rotate_left 1
      · intro ws hSw; (try dsimp only at hSw); go_simp; all_goals with_reducible rfl
      simp only [Act.put, List.setIfInBounds_toArray, List.set_cons_zero, List.set_cons_succ]
      refine wpAnyH_take (i := 1) (oi := { dst := some 28, op := Op.move (Operand.tmp 1), type := 31, pos := "sha.go:35", after := #[], guard := none }) (v := ?_) rfl (by kernel_rfl) (by kernel_rfl) (by kernel_rfl) (fun _ _ _ h => h) (Or.inl ⟨by rfl, ?_⟩) (by assumption) ?_
      rotate_left 1
      · intro ws hSw; (try dsimp only at hSw); go_simp; all_goals with_reducible rfl
      simp only [Act.put, List.setIfInBounds_toArray, List.set_cons_zero, List.set_cons_succ]
      refine wpAnyH_take (i := 2) (oi := { dst := some 29, op := Op.move (Operand.tmp 8), type := 3, pos := "sha.go:35", after := #[], guard := none }) (v := ?_) rfl (by kernel_rfl) (by kernel_rfl) (by kernel_rfl) (fun _ _ _ h => h) (Or.inl ⟨by rfl, ?_⟩) (by assumption) ?_
      rotate_left 1
      · intro ws hSw; (try dsimp only at hSw); go_simp; all_goals with_reducible rfl
      simp only [Act.put, List.setIfInBounds_toArray, List.set_cons_zero, List.set_cons_succ]
      refine wpAnyH_take (i := 3) (oi := { dst := some 30, op := Op.binOp BinOp.mul 3 (Operand.const (Value.int IntKind.i64 4)) (Operand.tmp 29) 3, type := 3, pos := "sha.go:35", after := #[{ on := 2, ground := Ground.data }], guard := none }) (v := ?_) rfl (by kernel_rfl) (by kernel_rfl) (by kernel_rfl) (fun _ _ _ h => h) (Or.inl ⟨by rfl, ?_⟩) (by assumption) ?_
      rotate_left 1
      · intro ws hSw; (try dsimp only at hSw); go_simp; all_goals with_reducible rfl
      simp only [Act.put, List.setIfInBounds_toArray, List.set_cons_zero, List.set_cons_succ]
      refine wpAnyH_take (i := 4) (oi := { dst := some 31, op := Op.indexAddr 31 (Operand.tmp 28) (Operand.tmp 30), type := 0, pos := "sha.go:35", after := #[{ on := 1, ground := Ground.data }, { on := 3, ground := Ground.data }], guard := none }) (v := ?_) rfl (by kernel_rfl) (by kernel_rfl) (by kernel_rfl) (fun _ _ _ h => h) (Or.inl ⟨by rfl, ?_⟩) (by assumption) ?_
      rotate_left 1
      · intro ws hSw; (try dsimp only at hSw); go_simp; all_goals with_reducible rfl
      simp only [Act.put, List.setIfInBounds_toArray, List.set_cons_zero, List.set_cons_succ]
      refine wpAnyH_take (i := 5) (oi := { dst := some 32, op := Op.load 5 (Operand.tmp 31), type := 5, pos := "sha.go:35", after := #[{ on := 4, ground := Ground.data }], guard := none }) (v := ?_) rfl (by kernel_rfl) (by kernel_rfl) (by kernel_rfl) (fun _ _ _ h => h) (Or.inl ⟨by rfl, ?_⟩) (by assumption) ?_
      rotate_left 1
      · intro ws hSw; (try dsimp only at hSw); go_simp; all_goals with_reducible rfl
      simp only [Act.put, List.setIfInBounds_toArray, List.set_cons_zero, List.set_cons_succ]
      refine wpAnyH_take (i := 6) (oi := { dst := some 33, op := Op.convert 5 75 (Operand.tmp 32), type := 75, pos := "sha.go:35", after := #[{ on := 5, ground := Ground.data }], guard := none }) (v := ?_) rfl (by kernel_rfl) (by kernel_rfl) (by kernel_rfl) (fun _ _ _ h => h) (Or.inl ⟨by rfl, ?_⟩) (by assumption) ?_
      rotate_left 1
      · intro ws hSw; (try dsimp only at hSw); go_simp; all_goals with_reducible rfl
      simp only [Act.put, List.setIfInBounds_toArray, List.set_cons_zero, List.set_cons_succ]
      refine wpAnyH_take (i := 7) (oi := { dst := some 34, op := Op.binOp BinOp.shl 75 (Operand.tmp 33) (Operand.const (Value.int IntKind.u64 24)) 57, type := 75, pos := "sha.go:35", after := #[{ on := 6, ground := Ground.data }], guard := none }) (v := ?_) rfl (by kernel_rfl) (by kernel_rfl) (by kernel_rfl) (fun _ _ _ h => h) (Or.inl ⟨by rfl, ?_⟩) (by assumption) ?_
      rotate_left 1
      · intro ws hSw; (try dsimp only at hSw); go_simp; all_goals with_reducible rfl
      simp only [Act.put, List.setIfInBounds_toArray, List.set_cons_zero, List.set_cons_succ]
      refine wpAnyH_take (i := 8) (oi := { dst := some 35, op := Op.move (Operand.tmp 1), type := 31, pos := "sha.go:35", after := #[], guard := none }) (v := ?_) rfl (by kernel_rfl) (by kernel_rfl) (by kernel_rfl) (fun _ _ _ h => h) (Or.inl ⟨by rfl, ?_⟩) (by assumption) ?_
      rotate_left 1
      · intro ws hSw; (try dsimp only at hSw); go_simp; all_goals with_reducible rfl
      simp only [Act.put, List.setIfInBounds_toArray, List.set_cons_zero, List.set_cons_succ]
      refine wpAnyH_take (i := 9) (oi := { dst := some 36, op := Op.move (Operand.tmp 8), type := 3, pos := "sha.go:35", after := #[], guard := none }) (v := ?_) rfl (by kernel_rfl) (by kernel_rfl) (by kernel_rfl) (fun _ _ _ h => h) (Or.inl ⟨by rfl, ?_⟩) (by assumption) ?_
      rotate_left 1
      · intro ws hSw; (try dsimp only at hSw); go_simp; all_goals with_reducible rfl
      simp only [Act.put, List.setIfInBounds_toArray, List.set_cons_zero, List.set_cons_succ]
      refine wpAnyH_take (i := 10) (oi := { dst := some 37, op := Op.binOp BinOp.mul 3 (Operand.const (Value.int IntKind.i64 4)) (Operand.tmp 36) 3, type := 3, pos := "sha.go:35", after := #[{ on := 9, ground := Ground.data }], guard := none }) (v := ?_) rfl (by kernel_rfl) (by kernel_rfl) (by kernel_rfl) (fun _ _ _ h => h) (Or.inl ⟨by rfl, ?_⟩) (by assumption) ?_
      rotate_left 1
      · intro ws hSw; (try dsimp only at hSw); go_simp; all_goals with_reducible rfl
      simp only [Act.put, List.setIfInBounds_toArray, List.set_cons_zero, List.set_cons_succ]
      refine wpAnyH_take (i := 11) (oi := { dst := some 38, op := Op.binOp BinOp.add 3 (Operand.tmp 37) (Operand.const (Value.int IntKind.i64 1)) 3, type := 3, pos := "sha.go:35", after := #[{ on := 10, ground := Ground.data }], guard := none }) (v := ?_) rfl (by kernel_rfl) (by kernel_rfl) (by kernel_rfl) (fun _ _ _ h => h) (Or.inl ⟨by rfl, ?_⟩) (by assumption) ?_
      rotate_left 1
      · intro ws hSw; (try dsimp only at hSw); go_simp; all_goals with_reducible rfl
      simp only [Act.put, List.setIfInBounds_toArray, List.set_cons_zero, List.set_cons_succ]
      refine wpAnyH_take (i := 12) (oi := { dst := some 39, op := Op.indexAddr 31 (Operand.tmp 35) (Operand.tmp 38), type := 0, pos := "sha.go:35", after := #[{ on := 8, ground := Ground.data }, { on := 11, ground := Ground.data }], guard := none }) (v := ?_) rfl (by kernel_rfl) (by kernel_rfl) (by kernel_rfl) (fun _ _ _ h => h) (Or.inl ⟨by rfl, ?_⟩) (by assumption) ?_
      rotate_left 1
      · intro ws hSw; (try dsimp only at hSw); go_simp; all_goals with_reducible rfl
      simp only [Act.put, List.setIfInBounds_toArray, List.set_cons_zero, List.set_cons_succ]
      refine wpAnyH_take (i := 13) (oi := { dst := some 40, op := Op.load 5 (Operand.tmp 39), type := 5, pos := "sha.go:35", after := #[{ on := 12, ground := Ground.data }], guard := none }) (v := ?_) rfl (by kernel_rfl) (by kernel_rfl) (by kernel_rfl) (fun _ _ _ h => h) (Or.inl ⟨by rfl, ?_⟩) (by assumption) ?_
      rotate_left 1
      · intro ws hSw; (try dsimp only at hSw); go_simp; all_goals with_reducible rfl
      simp only [Act.put, List.setIfInBounds_toArray, List.set_cons_zero, List.set_cons_succ]
      refine wpAnyH_take (i := 14) (oi := { dst := some 41, op := Op.convert 5 75 (Operand.tmp 40), type := 75, pos := "sha.go:35", after := #[{ on := 13, ground := Ground.data }], guard := none }) (v := ?_) rfl (by kernel_rfl) (by kernel_rfl) (by kernel_rfl) (fun _ _ _ h => h) (Or.inl ⟨by rfl, ?_⟩) (by assumption) ?_
      rotate_left 1
      · intro ws hSw; (try dsimp only at hSw); go_simp; all_goals with_reducible rfl
      simp only [Act.put, List.setIfInBounds_toArray, List.set_cons_zero, List.set_cons_succ]
      refine wpAnyH_take (i := 15) (oi := { dst := some 42, op := Op.binOp BinOp.shl 75 (Operand.tmp 41) (Operand.const (Value.int IntKind.u64 16)) 57, type := 75, pos := "sha.go:35", after := #[{ on := 14, ground := Ground.data }], guard := none }) (v := ?_) rfl (by kernel_rfl) (by kernel_rfl) (by kernel_rfl) (fun _ _ _ h => h) (Or.inl ⟨by rfl, ?_⟩) (by assumption) ?_
      rotate_left 1
      · intro ws hSw; (try dsimp only at hSw); go_simp; all_goals with_reducible rfl
      simp only [Act.put, List.setIfInBounds_toArray, List.set_cons_zero, List.set_cons_succ]
      refine wpAnyH_take (i := 16) (oi := { dst := some 43, op := Op.binOp BinOp.or 75 (Operand.tmp 34) (Operand.tmp 42) 75, type := 75, pos := "sha.go:35", after := #[{ on := 7, ground := Ground.data }, { on := 15, ground := Ground.data }], guard := none }) (v := ?_) rfl (by kernel_rfl) (by kernel_rfl) (by kernel_rfl) (fun _ _ _ h => h) (Or.inl ⟨by rfl, ?_⟩) (by assumption) ?_
      rotate_left 1
      · intro ws hSw; (try dsimp only at hSw); go_simp; all_goals with_reducible rfl
      simp only [Act.put, List.setIfInBounds_toArray, List.set_cons_zero, List.set_cons_succ]
      refine wpAnyH_take (i := 17) (oi := { dst := some 44, op := Op.move (Operand.tmp 1), type := 31, pos := "sha.go:35", after := #[], guard := none }) (v := ?_) rfl (by kernel_rfl) (by kernel_rfl) (by kernel_rfl) (fun _ _ _ h => h) (Or.inl ⟨by rfl, ?_⟩) (by assumption) ?_
      rotate_left 1
      · intro ws hSw; (try dsimp only at hSw); go_simp; all_goals with_reducible rfl
      simp only [Act.put, List.setIfInBounds_toArray, List.set_cons_zero, List.set_cons_succ]
      refine wpAnyH_take (i := 18) (oi := { dst := some 45, op := Op.move (Operand.tmp 8), type := 3, pos := "sha.go:35", after := #[], guard := none }) (v := ?_) rfl (by kernel_rfl) (by kernel_rfl) (by kernel_rfl) (fun _ _ _ h => h) (Or.inl ⟨by rfl, ?_⟩) (by assumption) ?_
      rotate_left 1
      · intro ws hSw; (try dsimp only at hSw); go_simp; all_goals with_reducible rfl
      simp only [Act.put, List.setIfInBounds_toArray, List.set_cons_zero, List.set_cons_succ]
      refine wpAnyH_take (i := 19) (oi := { dst := some 46, op := Op.binOp BinOp.mul 3 (Operand.const (Value.int IntKind.i64 4)) (Operand.tmp 45) 3, type := 3, pos := "sha.go:35", after := #[{ on := 18, ground := Ground.data }], guard := none }) (v := ?_) rfl (by kernel_rfl) (by kernel_rfl) (by kernel_rfl) (fun _ _ _ h => h) (Or.inl ⟨by rfl, ?_⟩) (by assumption) ?_
      rotate_left 1
      · intro ws hSw; (try dsimp only at hSw); go_simp; all_goals with_reducible rfl
      simp only [Act.put, List.setIfInBounds_toArray, List.set_cons_zero, List.set_cons_succ]
      refine wpAnyH_take (i := 20) (oi := { dst := some 47, op := Op.binOp BinOp.add 3 (Operand.tmp 46) (Operand.const (Value.int IntKind.i64 2)) 3, type := 3, pos := "sha.go:35", after := #[{ on := 19, ground := Ground.data }], guard := none }) (v := ?_) rfl (by kernel_rfl) (by kernel_rfl) (by kernel_rfl) (fun _ _ _ h => h) (Or.inl ⟨by rfl, ?_⟩) (by assumption) ?_
      rotate_left 1
      · intro ws hSw; (try dsimp only at hSw); go_simp; all_goals with_reducible rfl
      simp only [Act.put, List.setIfInBounds_toArray, List.set_cons_zero, List.set_cons_succ]
      refine wpAnyH_take (i := 21) (oi := { dst := some 48, op := Op.indexAddr 31 (Operand.tmp 44) (Operand.tmp 47), type := 0, pos := "sha.go:35", after := #[{ on := 17, ground := Ground.data }, { on := 20, ground := Ground.data }], guard := none }) (v := ?_) rfl (by kernel_rfl) (by kernel_rfl) (by kernel_rfl) (fun _ _ _ h => h) (Or.inl ⟨by rfl, ?_⟩) (by assumption) ?_
      rotate_left 1
      · intro ws hSw; (try dsimp only at hSw); go_simp; all_goals with_reducible rfl
      simp only [Act.put, List.setIfInBounds_toArray, List.set_cons_zero, List.set_cons_succ]
      refine wpAnyH_take (i := 22) (oi := { dst := some 49, op := Op.load 5 (Operand.tmp 48), type := 5, pos := "sha.go:35", after := #[{ on := 21, ground := Ground.data }], guard := none }) (v := ?_) rfl (by kernel_rfl) (by kernel_rfl) (by kernel_rfl) (fun _ _ _ h => h) (Or.inl ⟨by rfl, ?_⟩) (by assumption) ?_
      rotate_left 1
      · intro ws hSw; (try dsimp only at hSw); go_simp; all_goals with_reducible rfl
      simp only [Act.put, List.setIfInBounds_toArray, List.set_cons_zero, List.set_cons_succ]
      refine wpAnyH_take (i := 23) (oi := { dst := some 50, op := Op.convert 5 75 (Operand.tmp 49), type := 75, pos := "sha.go:35", after := #[{ on := 22, ground := Ground.data }], guard := none }) (v := ?_) rfl (by kernel_rfl) (by kernel_rfl) (by kernel_rfl) (fun _ _ _ h => h) (Or.inl ⟨by rfl, ?_⟩) (by assumption) ?_
      rotate_left 1
      · intro ws hSw; (try dsimp only at hSw); go_simp; all_goals with_reducible rfl
      simp only [Act.put, List.setIfInBounds_toArray, List.set_cons_zero, List.set_cons_succ]
      refine wpAnyH_take (i := 24) (oi := { dst := some 51, op := Op.binOp BinOp.shl 75 (Operand.tmp 50) (Operand.const (Value.int IntKind.u64 8)) 57, type := 75, pos := "sha.go:35", after := #[{ on := 23, ground := Ground.data }], guard := none }) (v := ?_) rfl (by kernel_rfl) (by kernel_rfl) (by kernel_rfl) (fun _ _ _ h => h) (Or.inl ⟨by rfl, ?_⟩) (by assumption) ?_
      rotate_left 1
      · intro ws hSw; (try dsimp only at hSw); go_simp; all_goals with_reducible rfl
      simp only [Act.put, List.setIfInBounds_toArray, List.set_cons_zero, List.set_cons_succ]
      refine wpAnyH_take (i := 25) (oi := { dst := some 52, op := Op.binOp BinOp.or 75 (Operand.tmp 43) (Operand.tmp 51) 75, type := 75, pos := "sha.go:35", after := #[{ on := 16, ground := Ground.data }, { on := 24, ground := Ground.data }], guard := none }) (v := ?_) rfl (by kernel_rfl) (by kernel_rfl) (by kernel_rfl) (fun _ _ _ h => h) (Or.inl ⟨by rfl, ?_⟩) (by assumption) ?_
      rotate_left 1
      · intro ws hSw; (try dsimp only at hSw); go_simp; all_goals with_reducible rfl
      simp only [Act.put, List.setIfInBounds_toArray, List.set_cons_zero, List.set_cons_succ]
      refine wpAnyH_take (i := 26) (oi := { dst := some 53, op := Op.move (Operand.tmp 1), type := 31, pos := "sha.go:35", after := #[], guard := none }) (v := ?_) rfl (by kernel_rfl) (by kernel_rfl) (by kernel_rfl) (fun _ _ _ h => h) (Or.inl ⟨by rfl, ?_⟩) (by assumption) ?_
      rotate_left 1
      · intro ws hSw; (try dsimp only at hSw); go_simp; all_goals with_reducible rfl
      simp only [Act.put, List.setIfInBounds_toArray, List.set_cons_zero, List.set_cons_succ]
      refine wpAnyH_take (i := 27) (oi := { dst := some 54, op := Op.move (Operand.tmp 8), type := 3, pos := "sha.go:35", after := #[], guard := none }) (v := ?_) rfl (by kernel_rfl) (by kernel_rfl) (by kernel_rfl) (fun _ _ _ h => h) (Or.inl ⟨by rfl, ?_⟩) (by assumption) ?_
      rotate_left 1
      · intro ws hSw; (try dsimp only at hSw); go_simp; all_goals with_reducible rfl
      simp only [Act.put, List.setIfInBounds_toArray, List.set_cons_zero, List.set_cons_succ]
      refine wpAnyH_take (i := 28) (oi := { dst := some 55, op := Op.binOp BinOp.mul 3 (Operand.const (Value.int IntKind.i64 4)) (Operand.tmp 54) 3, type := 3, pos := "sha.go:35", after := #[{ on := 27, ground := Ground.data }], guard := none }) (v := ?_) rfl (by kernel_rfl) (by kernel_rfl) (by kernel_rfl) (fun _ _ _ h => h) (Or.inl ⟨by rfl, ?_⟩) (by assumption) ?_
      rotate_left 1
      · intro ws hSw; (try dsimp only at hSw); go_simp; all_goals with_reducible rfl
      simp only [Act.put, List.setIfInBounds_toArray, List.set_cons_zero, List.set_cons_succ]
      refine wpAnyH_take (i := 29) (oi := { dst := some 56, op := Op.binOp BinOp.add 3 (Operand.tmp 55) (Operand.const (Value.int IntKind.i64 3)) 3, type := 3, pos := "sha.go:35", after := #[{ on := 28, ground := Ground.data }], guard := none }) (v := ?_) rfl (by kernel_rfl) (by kernel_rfl) (by kernel_rfl) (fun _ _ _ h => h) (Or.inl ⟨by rfl, ?_⟩) (by assumption) ?_
      rotate_left 1
      · intro ws hSw; (try dsimp only at hSw); go_simp; all_goals with_reducible rfl
      simp only [Act.put, List.setIfInBounds_toArray, List.set_cons_zero, List.set_cons_succ]
      refine wpAnyH_take (i := 30) (oi := { dst := some 57, op := Op.indexAddr 31 (Operand.tmp 53) (Operand.tmp 56), type := 0, pos := "sha.go:35", after := #[{ on := 26, ground := Ground.data }, { on := 29, ground := Ground.data }], guard := none }) (v := ?_) rfl (by kernel_rfl) (by kernel_rfl) (by kernel_rfl) (fun _ _ _ h => h) (Or.inl ⟨by rfl, ?_⟩) (by assumption) ?_
      rotate_left 1
      · intro ws hSw; (try dsimp only at hSw); go_simp; all_goals with_reducible rfl
      simp only [Act.put, List.setIfInBounds_toArray, List.set_cons_zero, List.set_cons_succ]
      refine wpAnyH_take (i := 31) (oi := { dst := some 58, op := Op.load 5 (Operand.tmp 57), type := 5, pos := "sha.go:35", after := #[{ on := 30, ground := Ground.data }], guard := none }) (v := ?_) rfl (by kernel_rfl) (by kernel_rfl) (by kernel_rfl) (fun _ _ _ h => h) (Or.inl ⟨by rfl, ?_⟩) (by assumption) ?_
      rotate_left 1
      · intro ws hSw; (try dsimp only at hSw); go_simp; all_goals with_reducible rfl
      simp only [Act.put, List.setIfInBounds_toArray, List.set_cons_zero, List.set_cons_succ]
      refine wpAnyH_take (i := 32) (oi := { dst := some 59, op := Op.convert 5 75 (Operand.tmp 58), type := 75, pos := "sha.go:35", after := #[{ on := 31, ground := Ground.data }], guard := none }) (v := ?_) rfl (by kernel_rfl) (by kernel_rfl) (by kernel_rfl) (fun _ _ _ h => h) (Or.inl ⟨by rfl, ?_⟩) (by assumption) ?_
      rotate_left 1
      · intro ws hSw; (try dsimp only at hSw); go_simp; all_goals with_reducible rfl
      simp only [Act.put, List.setIfInBounds_toArray, List.set_cons_zero, List.set_cons_succ]
      refine wpAnyH_take (i := 33) (oi := { dst := some 60, op := Op.binOp BinOp.or 75 (Operand.tmp 52) (Operand.tmp 59) 75, type := 75, pos := "sha.go:35", after := #[{ on := 25, ground := Ground.data }, { on := 32, ground := Ground.data }], guard := none }) (v := ?_) rfl (by kernel_rfl) (by kernel_rfl) (by kernel_rfl) (fun _ _ _ h => h) (Or.inl ⟨by rfl, ?_⟩) (by assumption) ?_
      rotate_left 1
      · intro ws hSw; (try dsimp only at hSw); go_simp; all_goals with_reducible rfl
      simp only [Act.put, List.setIfInBounds_toArray, List.set_cons_zero, List.set_cons_succ]
      refine wpAnyH_take (i := 34) (oi := { dst := some 61, op := Op.indexAddr 76 (Operand.tmp 7) (Operand.tmp 27), type := 0, pos := "sha.go:35", after := #[{ on := 0, ground := Ground.data }, { on := 0, ground := Ground.phase }, { on := 1, ground := Ground.phase }, { on := 2, ground := Ground.phase }, { on := 3, ground := Ground.phase }, { on := 4, ground := Ground.phase }, { on := 5, ground := Ground.phase }, { on := 6, ground := Ground.phase }, { on := 7, ground := Ground.phase }, { on := 8, ground := Ground.phase }, { on := 9, ground := Ground.phase }, { on := 10, ground := Ground.phase }, { on := 11, ground := Ground.phase }, { on := 12, ground := Ground.phase }, { on := 13, ground := Ground.phase }, { on := 14, ground := Ground.phase }, { on := 15, ground := Ground.phase }, { on := 16, ground := Ground.phase }, { on := 17, ground := Ground.phase }, { on := 18, ground := Ground.phase }, { on := 19, ground := Ground.phase }, { on := 20, ground := Ground.phase }, { on := 21, ground := Ground.phase }, { on := 22, ground := Ground.phase }, { on := 23, ground := Ground.phase }, { on := 24, ground := Ground.phase }, { on := 25, ground := Ground.phase }, { on := 26, ground := Ground.phase }, { on := 27, ground := Ground.phase }, { on := 28, ground := Ground.phase }, { on := 29, ground := Ground.phase }, { on := 30, ground := Ground.phase }, { on := 31, ground := Ground.phase }, { on := 32, ground := Ground.phase }, { on := 33, ground := Ground.phase }], guard := none }) (v := ?_) rfl (by kernel_rfl) (by kernel_rfl) (by kernel_rfl) (fun _ _ _ h => h) (Or.inl ⟨by rfl, ?_⟩) (by assumption) ?_
      rotate_left 1
      · intro ws hSw; (try dsimp only at hSw); go_simp; all_goals with_reducible rfl
      simp only [Act.put, List.setIfInBounds_toArray, List.set_cons_zero, List.set_cons_succ]
      refine wpAnyH_ready (rs := [35]) (by kernel_rfl) (by simp) ?_
      refine AllReadyH.cons (o := { dst := none, op := Op.store 75 (Operand.tmp 61) (Operand.tmp 60), type := 0, pos := "sha.go:35", after := #[{ on := 34, ground := Ground.data }, { on := 33, ground := Ground.data }, { on := 0, ground := Ground.phase }, { on := 1, ground := Ground.phase }, { on := 2, ground := Ground.phase }, { on := 3, ground := Ground.phase }, { on := 4, ground := Ground.phase }, { on := 5, ground := Ground.phase }, { on := 6, ground := Ground.phase }, { on := 7, ground := Ground.phase }, { on := 8, ground := Ground.phase }, { on := 9, ground := Ground.phase }, { on := 10, ground := Ground.phase }, { on := 11, ground := Ground.phase }, { on := 12, ground := Ground.phase }, { on := 13, ground := Ground.phase }, { on := 14, ground := Ground.phase }, { on := 15, ground := Ground.phase }, { on := 16, ground := Ground.phase }, { on := 17, ground := Ground.phase }, { on := 18, ground := Ground.phase }, { on := 19, ground := Ground.phase }, { on := 20, ground := Ground.phase }, { on := 21, ground := Ground.phase }, { on := 22, ground := Ground.phase }, { on := 23, ground := Ground.phase }, { on := 24, ground := Ground.phase }, { on := 25, ground := Ground.phase }, { on := 26, ground := Ground.phase }, { on := 27, ground := Ground.phase }, { on := 28, ground := Ground.phase }, { on := 29, ground := Ground.phase }, { on := 30, ground := Ground.phase }, { on := 31, ground := Ground.phase }, { on := 32, ground := Ground.phase }, { on := 33, ground := Ground.phase }], guard := none }) rfl (fun K hK => ?_) AllReadyH.nil
      go_simp
      refine hK.out _ _ ?_ (fun hHeld => ?_)
      · (first | exact ⟨d0, d1, d2, d3⟩ | exact ⟨(World.cell?_setCell_other _ _ _ _ (fun e => by injection e with e; omega)).trans d0, (World.cell?_setCell_other _ _ _ _ (fun e => by injection e with e; omega)).trans d1, (World.cell?_setCell_other _ _ _ _ (fun e => by injection e with e; omega)).trans d2, (World.cell?_setCell_other _ _ _ _ (fun e => by injection e with e; omega)).trans d3⟩)
      clear hK K
      try simp only [Act.put, List.setIfInBounds_toArray, List.set_cons_zero, List.set_cons_succ]
      refine wpAnyH_done (by kernel_rfl) ?_ _
      clear hHeld
      rw [HE.out]
      go_wp2_with fail
      go_roundw
      case rel =>
        refine ⟨t + 1, by go_num, by omega, ?_, ?_⟩
        · exact AB.drew ((HAB.out.set t (be b t)).congr fun j hj => by
            by_cases h1 : j = t
            · rw [if_pos h1, if_pos (by omega), h1]
            · rw [if_neg h1]
              by_cases h2 : j < t
              · rw [if_pos h2, if_pos (by omega)]
              · rw [if_neg h2, if_neg (by omega)])
        · have h1 := (HAB.out.set t (be b t)).lt
          have g1 := HGR.out
          exact ⟨g1.os, g1.tape, g1.output, by simpa [World.setCell] using g1.size, fun i hi hne => (heap_setCell_other wr ⟨G, t, none⟩ i _ (fun e => hne (by rw [e]))).trans (g1.block i hi hne)⟩
      case measure => simp [intOf]; omega
    · obtain rfl : t = 16 := by omega
      have HA16 := Lib.hid (show AB wr 76 G 64 (fun j => if j < 16 then Wd b j else 0) from hab.congr fun j _ => by
        by_cases h : j < 16
        · rw [if_pos h, if_pos h, Wd_lo b h]
        · rw [if_neg h, if_neg h])
      clear hab hg HAB
      obtain ⟨W1, hW1⟩ : ∃ W1, W1 = wr := ⟨_, rfl⟩
      subst hW1
      go_wp2_with fail
      obtain ⟨u24, hu24⟩ : ∃ v, v = Value.int .i64 ((16 : Nat) : Int) := ⟨_, rfl⟩
      rw [← hu24]
      clear hu24
      go_loopw [10] (fun i wr => ∃ t : Nat, i = .int .i64 (t : Int) ∧ 16 ≤ t ∧ t ≤ 64 ∧ AB wr 76 G 64 (fun j => if j < t then Wd b j else 0) ∧ W0.grownBy wr (some G)) (fun i _ => (64 - intOf i).toNat)
      case atStart => exact ⟨16, rfl, by omega, by omega, HA16.out, HGR.out⟩
      case round =>
        obtain ⟨t, rfl, ht1, ht2, hab, hg⟩ := hrel
        have HAB := Lib.hid hab
        have HG2 := Lib.hid hg
        by_cases ht64 : t < 64
        · have q15 : wr.cell? ⟨G, t - 15, none⟩ = some (.int .u32 ((Wd b (t - 15) : Nat) : Int)) := by rw [hab.cell (j := t - 15) (by omega), if_pos (by omega)]
          have q2 : wr.cell? ⟨G, t - 2, none⟩ = some (.int .u32 ((Wd b (t - 2) : Nat) : Int)) := by rw [hab.cell (j := t - 2) (by omega), if_pos (by omega)]
          have q7 : wr.cell? ⟨G, t - 7, none⟩ = some (.int .u32 ((Wd b (t - 7) : Nat) : Int)) := by rw [hab.cell (j := t - 7) (by omega), if_pos (by omega)]
          have q16 : wr.cell? ⟨G, t - 16, none⟩ = some (.int .u32 ((Wd b (t - 16) : Nat) : Int)) := by rw [hab.cell (j := t - 16) (by omega), if_pos (by omega)]
          have qt := hab.cell ht64
          have ft := hab.free t
          have HN := Lib.hid (Wd_hi b (t := t) (by omega))
          have l15 := Wd_lt HBY.out (t - 15)
          have l2 := Wd_lt HBY.out (t - 2)
          have l7 := Wd_lt HBY.out (t - 7)
          have l16 := Wd_lt HBY.out (t - 16)
          generalize Wd b (t - 15) = x at *
          generalize Wd b (t - 2) = y at *
          generalize Wd b (t - 7) = w7 at *
          generalize Wd b (t - 16) = w16 at *
          have hw15 : IntKind.i64.wrap ((t : Int) - 15) = (t : Int) - 15 := by rw [IntKind.wrap_i64]; omega
          have hp15 : (0 : Int) ≤ (t : Int) - 15 := by omega
          have hs15 : (15 : Int) ≤ (t : Int) := by omega
          have hq15 : (t : Int) - 15 < 64 := by omega
          have hr15 : ((t : Int) - 15).toNat = t - 15 := by omega
          have hw2 : IntKind.i64.wrap ((t : Int) - 2) = (t : Int) - 2 := by rw [IntKind.wrap_i64]; omega
          have hp2 : (0 : Int) ≤ (t : Int) - 2 := by omega
          have hs2 : (2 : Int) ≤ (t : Int) := by omega
          have hq2 : (t : Int) - 2 < 64 := by omega
          have hr2 : ((t : Int) - 2).toNat = t - 2 := by omega
          have hw7 : IntKind.i64.wrap ((t : Int) - 7) = (t : Int) - 7 := by rw [IntKind.wrap_i64]; omega
          have hp7 : (0 : Int) ≤ (t : Int) - 7 := by omega
          have hs7 : (7 : Int) ≤ (t : Int) := by omega
          have hq7 : (t : Int) - 7 < 64 := by omega
          have hr7 : ((t : Int) - 7).toNat = t - 7 := by omega
          have hw16 : IntKind.i64.wrap ((t : Int) - 16) = (t : Int) - 16 := by rw [IntKind.wrap_i64]; omega
          have hp16 : (0 : Int) ≤ (t : Int) - 16 := by omega
          have hs16 : (16 : Int) ≤ (t : Int) := by omega
          have hq16 : (t : Int) - 16 < 64 := by omega
          have hr16 : ((t : Int) - 16).toNat = t - 16 := by omega
          have HE := Lib.hid (wn_expr y w7 x w16 l15 l2)
          clear hab hg
          go_upto_region 11 with (fail)
          go_quiet (fail)
          go_upto_region 12 with (fail)
          refine wp_region_still_tail 33 (by kernel_rfl) (by kernel_rfl) ?_
          obtain ⟨W3, hW3⟩ : ∃ W3, (wr.drewN nq).drew = W3 := ⟨_, rfl⟩
          change wpStill _ _ (wr.drewN nq).drew (fun a' => wpList _ _ _ _ a' (wr.drewN nq).drew) _ _
          rw [hW3]
          have r7 : W3.cell? ⟨G, t - 7, none⟩ = some (.int .u32 (w7 : Int)) := by rw [← hW3]; exact q7
          have r16 : W3.cell? ⟨G, t - 16, none⟩ = some (.int .u32 (w16 : Int)) := by rw [← hW3]; exact q16
          have HAB3 := Lib.hid (show AB W3 76 G 64 (fun j => if j < t then Wd b j else 0) from by rw [← hW3]; exact HAB.out)
          have HG3 := Lib.hid (show W0.grownBy W3 (some G) from by rw [← hW3]; exact ⟨HG2.out.os, HG2.out.tape, HG2.out.output, HG2.out.size, HG2.out.block⟩)
          have qt3 := HAB3.out.cell ht64
          have ft3 := HAB3.out.free t
          have hW3' := Lib.hid hW3
          clear hW3 q7 q16 q15 q2 qt ft
          simp only [List.take_succ_cons, List.take_zero, List.drop_succ_cons, List.drop_zero]
          repeat still_step
          still_call (right_17 y l2 _)
          repeat still_step
          still_call (right_19 y l2 _)
          repeat still_step
          still_call (right_7 x l15 _)
          repeat still_step
          still_call (right_18 x l15 _)
          repeat still_step
          refine wpStill_nil ?_
          rw [HE.out, ← HN.out]
          go_wp2_with fail
          go_roundw
          case rel =>
            refine ⟨t + 1, by go_num, by omega, by omega, ?_, ?_⟩
            · exact (HAB3.out.set t (Wd b t)).congr fun j hj => by
                by_cases h1 : j = t
                · rw [if_pos h1, if_pos (by omega), h1]
                · rw [if_neg h1]
                  by_cases h2 : j < t
                  · rw [if_pos h2, if_pos (by omega)]
                  · rw [if_neg h2, if_neg (by omega)]
            · exact grown_trans HG3.out (HAB3.out.grown t (Wd b t))
          case measure => simp [intOf]; omega
        · obtain rfl : t = 64 := by omega
          have HW64 := Lib.hid (show AB wr 76 G 64 (Wd b) from hab.congr fun j hj => by rw [if_pos hj])
          have HGW := Lib.hid hg
          clear hab hg HAB HG2
          obtain ⟨W2, hW2⟩ : ∃ W2, W2 = wr := ⟨_, rfl⟩
          subst hW2
          have HS := Lib.hid (show AB W2 79 w.heap.size 8 s from HAS.out.keep (HGW.out.block _ HAS.out.lt (fun e => by injection e with e; omega)))
          have HK := Lib.hid (show AB W2 76 kp 64 K from (hK.next HBW.out).keep (HGW.out.block _ (hK.next HBW.out).lt (fun e => by injection e with e; have := hK.lt; omega)))
          have s0 := HS.out.cell (j := 0) (by omega)
          have s1 := HS.out.cell (j := 1) (by omega)
          have s2 := HS.out.cell (j := 2) (by omega)
          have s3 := HS.out.cell (j := 3) (by omega)
          have s4 := HS.out.cell (j := 4) (by omega)
          have s5 := HS.out.cell (j := 5) (by omega)
          have s6 := HS.out.cell (j := 6) (by omega)
          have s7 := HS.out.cell (j := 7) (by omega)
          go_wp2_with fail
          go_quiet (fail)
          go_wp2_with fail
          clear s0 s1 s2 s3 s4 s5 s6 s7
          have HOK := Lib.hid HOKs.out
          have HBL := Lib.hid (show Below w.heap.size w (W2.drewN nq) from below_drewN (HBW.out.grown HGW.out HBW.out.size (fun k hk => by injection hk with hk; omega)) nq)
          have HSZ := Lib.hid (show G < W2.heap.size from HW64.out.lt)
          have HO := Lib.hid (show AB (W2.drewN nq) 79 (w.heap.size + 1) 8 (fun _ => 0) from HAO.out.keep (HGW.out.block _ HAO.out.lt (fun e => by injection e with e; omega)))
          obtain ⟨W3, hW3⟩ : ∃ W3, W3 = W2.drewN nq := ⟨_, rfl⟩
          rw [← hW3] at HBL HO ⊢
          replace HW64 := Lib.hid (show AB W3 76 G 64 (Wd b) from by rw [hW3]; exact HW64.out)
          replace HK := Lib.hid (show AB W3 76 kp 64 K from by rw [hW3]; exact HK.out)
          replace HS := Lib.hid (show AB W3 79 w.heap.size 8 s from by rw [hW3]; exact HS.out)
          clear hW3
          obtain ⟨u10, hu10⟩ : ∃ v, v = Value.int .i64 ((64 : Nat) : Int) := ⟨_, rfl⟩
          rw [← hu10]
          clear hu10
          go_loopw [13, 14, 15, 16, 17, 18, 19, 20, 124] (fun va vc vd ve vf vg vh vi i wr => ∃ t : Nat, i = .int .i64 (t : Int) ∧ t ≤ 64 ∧ va = .int .u32 ((rds K (Wd b) (stOf s) t).a : Int) ∧ vc = .int .u32 ((rds K (Wd b) (stOf s) t).c : Int) ∧ vd = .int .u32 ((rds K (Wd b) (stOf s) t).d : Int) ∧ ve = .int .u32 ((rds K (Wd b) (stOf s) t).e : Int) ∧ vf = .int .u32 ((rds K (Wd b) (stOf s) t).f : Int) ∧ vg = .int .u32 ((rds K (Wd b) (stOf s) t).g : Int) ∧ vh = .int .u32 ((rds K (Wd b) (stOf s) t).h : Int) ∧ vi = .int .u32 ((rds K (Wd b) (stOf s) t).i : Int) ∧ ∃ q, wr = W3.drewN q) (fun _ _ _ _ _ _ _ _ i _ => (64 - intOf i).toNat)
          case atStart => exact ⟨0, rfl, by omega, rfl, rfl, rfl, rfl, rfl, rfl, rfl, rfl, 0, rfl⟩
          case round =>
            obtain ⟨t, rfl, ht, rfl, rfl, rfl, rfl, rfl, rfl, rfl, rfl, q, rfl⟩ := hrel
            have hok := rds_ok (K := K) (W := Wd b) HOK.out t
            have hsucc : rds K (Wd b) (stOf s) (t + 1) = rnd (K t) (Wd b t) (rds K (Wd b) (stOf s) t) := rfl
            obtain ⟨S, hS⟩ : ∃ S, S = rds K (Wd b) (stOf s) t := ⟨_, rfl⟩
            rw [← hS] at hok hsucc ⊢
            have HSS := Lib.hid hS
            clear hS
            have HSC := Lib.hid hsucc
            clear hsucc
            obtain ⟨Sa, Sc, Sd, Se, Sf, Sg, Sh, Si⟩ := S
            obtain ⟨la, lc, ld, le, lf, lg, lh, li⟩ := hok
            dsimp only at la lc ld le lf lg lh li ⊢
            by_cases ht64 : t < 64
            · have hti : (t : Int) < 64 := by omega
              obtain ⟨W4, hW4⟩ : ∃ W4, W4 = W3.drewN q := ⟨_, rfl⟩
              have cw : W4.cell? ⟨G, t, none⟩ = some (.int .u32 ((Wd b t : Nat) : Int)) := by rw [hW4]; exact HW64.out.cell ht64
              have ck : W4.cell? ⟨kp, t, none⟩ = some (.int .u32 ((K t : Nat) : Int)) := by rw [hW4]; exact HK.out.cell ht64
              rw [← hW4]
              have HW4 := Lib.hid hW4
              clear hW4
              generalize Wd b t = wt at *
              generalize K t = kt at *
              have HT1 := Lib.hid (tone_expr (k := kt) (w := wt) (i := Si) lf lg lh)
              have HT2 := Lib.hid (ttwo_expr la lc ld)
              go_wp2_with fail
              go_quiet ((first | exact Calls.quiet_of_same (right_6 Sf lf _) | exact Calls.quiet_of_same (right_11 Sf lf _) | exact Calls.quiet_of_same (right_25 Sf lf _)))
              rw [HT1.out]
              have HT1' := Lib.hid (show tone kt wt Sf Sg Sh Si = tone kt wt Sf Sg Sh Si from rfl)
              obtain ⟨T1, hT1⟩ : ∃ T, T = tone kt wt Sf Sg Sh Si := ⟨_, rfl⟩
              rw [← hT1]
              have HTT := Lib.hid hT1
              clear hT1
              obtain ⟨W5, hW5⟩ : ∃ W5, W5 = W4.drewN nq := ⟨_, rfl⟩
              rw [← hW5]
              have HW5 := Lib.hid (show W5 = W3.drewN (q + nq) from by rw [hW5, HW4.out, World.drewN_drewN])
              clear hW5
              go_upto_region 19 with (first | ((with_reducible refine (right_2 Sa la _).mono ?_); rintro e w' ⟨rfl, rfl⟩) | ((with_reducible refine (right_13 Sa la _).mono ?_); rintro e w' ⟨rfl, rfl⟩) | ((with_reducible refine (right_22 Sa la _).mono ?_); rintro e w' ⟨rfl, rfl⟩))
              rw [HT2.out]
              obtain ⟨T2, hT2⟩ : ∃ T, T = ttwo Sa Sc Sd := ⟨_, rfl⟩
              rw [← hT2]
              have HTU := Lib.hid hT2
              clear hT2
              go_wp2_with fail
              go_roundw
              case rel =>
                refine ⟨t + 1, by go_num, by omega, ?_, ?_, ?_, ?_, ?_, ?_, ?_, ?_, _, HW5.out⟩ <;> rw [HSC.out]
                · show Value.int .u32 _ = .int .u32 (((tone kt wt Sf Sg Sh Si + ttwo Sa Sc Sd) % 4294967296 : Nat) : Int)
                  rw [← HTT.out, ← HTU.out]; rfl
                · rfl
                · rfl
                · rfl
                · show Value.int .u32 _ = .int .u32 (((Se + tone kt wt Sf Sg Sh Si) % 4294967296 : Nat) : Int)
                  rw [← HTT.out]; rfl
                · rfl
                · rfl
                · rfl
              case measure => simp [intOf]; omega
            · obtain rfl : t = 64 := by omega
              have c0 := HS.out.cell (j := 0) (by omega)
              have c1 := HS.out.cell (j := 1) (by omega)
              have c2 := HS.out.cell (j := 2) (by omega)
              have c3 := HS.out.cell (j := 3) (by omega)
              have c4 := HS.out.cell (j := 4) (by omega)
              have c5 := HS.out.cell (j := 5) (by omega)
              have c6 := HS.out.cell (j := 6) (by omega)
              have c7 := HS.out.cell (j := 7) (by omega)
              have o0 := HO.out.cell (j := 0) (by omega)
              have o1 := HO.out.cell (j := 1) (by omega)
              have o2 := HO.out.cell (j := 2) (by omega)
              have o3 := HO.out.cell (j := 3) (by omega)
              have o4 := HO.out.cell (j := 4) (by omega)
              have o5 := HO.out.cell (j := 5) (by omega)
              have o6 := HO.out.cell (j := 6) (by omega)
              have o7 := HO.out.cell (j := 7) (by omega)
              have fo := HO.out.free
              clear hsz
              go_wp2_with fail
              have HF := AB.eight (HO.out : AB (W3.drewN q) 79 (w.heap.size + 1) 8 (fun _ => 0)) (blk K s b)
              have hb0 : ∀ j, blk K s b j = (s j + st8 (rds K (Wd b) (stOf s) 64) j) % 4294967296 := fun _ => rfl
              rw [← HSS.out] at hb0
              rw [hb0 0, hb0 1, hb0 2, hb0 3, hb0 4, hb0 5, hb0 6, hb0 7] at HF
              exact bodyPost_ret (v := .agg (wc 8 (blk K s b)).toArray) (results_cell_row rfl _ _ (w.heap.size + 1) 79 _ (0, 0) _ rfl HF Try.underlying79 rfl size_w8) rfl ⟨rfl,
                (((((((below_drewN HBL.out q).setCell (p := ⟨w.heap.size + 1, 0, none⟩) (Nat.le_succ _) _).setCell (p := ⟨w.heap.size + 1, 1, none⟩) (Nat.le_succ _) _).setCell (p := ⟨w.heap.size + 1, 2, none⟩) (Nat.le_succ _) _).setCell (p := ⟨w.heap.size + 1, 3, none⟩) (Nat.le_succ _) _).setCell (p := ⟨w.heap.size + 1, 4, none⟩) (Nat.le_succ _) _).setCell (p := ⟨w.heap.size + 1, 5, none⟩) (Nat.le_succ _) _).setCell (p := ⟨w.heap.size + 1, 6, none⟩) (Nat.le_succ _) _ |>.setCell (p := ⟨w.heap.size + 1, 7, none⟩) (Nat.le_succ _) _⟩
end Go.Proofs.Ytmpbimechgelfaa

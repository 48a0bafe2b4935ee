/- The words of a block, by the document. -/
import Derived.Test.YtmpbimechgelfaaOb
import Derived.Deep.RegionHeld
import Derived.Deep.Cut
import Derived.BigQuiet
import Derived.Deep.QuietTactic
import Derived.StillTailTactics
namespace Go.Proofs.Ytmpbimechgelfaa
open Go Go.RowKit

theorem sg0w_expr {x : Nat} (hx : x < 4294967296) : bits BinOp.xor IntKind.u32 (bits BinOp.xor IntKind.u32 (rotr x 7 : Nat) (rotr x 18 : Nat)) ((x : Int) / 8) = ((sg0 x : Nat) : Int) := sg0_expr hx
set_option maxRecDepth 100000 in
set_option maxHeartbeats 8000000 in
theorem words_any (A : Option Addr) (c n : Nat) (b : List Nat) (w : World) (hb : Rd w w.heap.size 1 A 64 (bf b)) (hn : 64 ≤ n) (hnl : n ≤ 1000000) (hby : Byt b) :
    Calls Try.prog 71 #[.slice A n c] w fun e w' => e = .returned (.agg (wc 64 (Wd b)).toArray) ∧ Below w.heap.size w w' := by
  obtain ⟨bb, off, rfl, hbb, hcell⟩ := hb (by omega)
  have HCELL := Lib.hid hcell
  have HBY := Lib.hid hby
  have hnI : (64 : Int) ≤ (n : Int) := by omega
  clear hcell hb hby
  obtain ⟨Z, hZ⟩ : ∃ Z, Z = (wc 64 fun _ => 0).toArray := ⟨_, rfl⟩
  have HZs := Lib.hid (show (Try.prog.info? 76).map (·.size) = some Z.size from by rw [hZ]; exact size_w64)
  have HZa := Lib.hid (show Z.all (·.oneCell') = true from by rw [hZ]; exact wc_all 64 _)
  have HZ := Lib.hid hZ
  clear hZ
  go_enter Try.func71, Try.ntmps71
  go_upto_region 1 with (fail)
  refine wp_region_list ?_
  go_step
  go_step
  go_step
  go_step
  go_step
  refine wpList_store_row (by rfl) 76 (.tmp 3) (.tmp 10) (by rfl) (w.heap.size + 1) Z (by rfl) (by rw [HZ.out]; rfl) 76 (wc 64 fun _ => 0).toArray (by
    have h := heap_alloc_new (w.alloc (.cells (wc 64 fun _ => 0).toArray 76)) (.cells (wc 64 fun _ => 0).toArray 76)
    rw [World.size_alloc] at h
    exact h) HZs.out (by rw [HZ.out]) HZa.out ?_
  obtain ⟨W0, hW0⟩ : ∃ W0, W0 = ((w.alloc (.cells (wc 64 fun _ => 0).toArray 76)).alloc (.cells (wc 64 fun _ => 0).toArray 76)).setRow (w.heap.size + 1) Z := ⟨_, rfl⟩
  change wpList _ _ _ _ _ (((w.alloc (.cells (wc 64 fun _ => 0).toArray 76)).alloc (.cells (wc 64 fun _ => 0).toArray 76)).setRow (w.heap.size + 1) Z)
  simp only [Act.put]
  rw [← hW0]
  have hh1 : ((w.alloc (.cells (wc 64 fun _ => 0).toArray 76)).alloc (.cells (wc 64 fun _ => 0).toArray 76)).heap[w.heap.size + 1]? = some (.cells (wc 64 fun _ => 0).toArray 76 (0, 0)) := by
    have h := heap_alloc_new (w.alloc (.cells (wc 64 fun _ => 0).toArray 76)) (.cells (wc 64 fun _ => 0).toArray 76)
    rw [World.size_alloc] at h
    exact h
  have HBW := Lib.hid (show Below w.heap.size w W0 from by rw [hW0]; exact below_setRow ((((Below.refl _ w).alloc (Nat.le_refl _) _).alloc (by simp) _)) (by omega) Z)
  have HAS := Lib.hid (show AB W0 76 w.heap.size 64 (fun _ => 0) from by
    rw [hW0]; unfold AB
    rw [setRow_other _ _ _ _ (by omega)]
    exact (Below.heap_alloc _ _ _ (by simp)).trans (heap_alloc_new w _))
  have HAW := Lib.hid (show AB W0 76 (w.heap.size + 1) 64 (fun _ => 0) from by
    rw [hW0]; unfold AB
    exact (setRow_heap _ _ _ Z _ _ hh1).trans (by rw [HZ.out]))
  clear hW0 hh1 HZs HZa
  obtain ⟨G, hG⟩ : ∃ G, G = w.heap.size + 1 := ⟨_, rfl⟩
  rw [← hG] at HAW ⊢
  have HGE := Lib.hid hG
  have hGlt : w.heap.size < G := by omega
  clear hG
  go_wp2_with fail
  go_loopw [4] (fun i wr => ∃ t : Nat, i = .int .i64 (t : Int) ∧ t ≤ 16 ∧ AB wr 76 G 64 (fun j => if j < t then be b j else 0) ∧ W0.grownBy wr (some G)) (fun i _ => (16 - intOf i).toNat)
  case atStart => exact ⟨0, rfl, by omega, HAW.out.congr (fun j _ => (if_neg (Nat.not_lt_zero j)).symm), World.grownBy.refl _ _⟩
  case round =>
    obtain ⟨t, rfl, ht, hab, hg⟩ := hrel
    have HAB := Lib.hid hab
    have HGR := Lib.hid hg
    by_cases ht16 : t < 16
    · have hbG : bb ≠ G := by omega
      have hcl : ∀ j, j < 64 → wr.cell? ⟨bb, off + j, none⟩ = some (bf b j) := fun j hj => ((World.cell?_of_block (hg.block bb (Nat.lt_of_lt_of_le hbb HBW.out.size) (fun e => by injection e with e; omega))).trans (HBW.out.cell (p := ⟨bb, off + j, none⟩) hbb)).trans (HCELL.out j (by omega))
      obtain ⟨x0, hx0⟩ : ∃ x, x = b[4 * t]?.getD 0 := ⟨_, rfl⟩
      obtain ⟨x1, hx1⟩ : ∃ x, x = b[4 * t + 1]?.getD 0 := ⟨_, rfl⟩
      obtain ⟨x2, hx2⟩ : ∃ x, x = b[4 * t + 2]?.getD 0 := ⟨_, rfl⟩
      obtain ⟨x3, hx3⟩ : ∃ x, x = b[4 * t + 3]?.getD 0 := ⟨_, rfl⟩
      have l0 : x0 < 256 := by rw [hx0]; exact HBY.out.at_ _
      have l1 : x1 < 256 := by rw [hx1]; exact HBY.out.at_ _
      have l2 : x2 < 256 := by rw [hx2]; exact HBY.out.at_ _
      have l3 : x3 < 256 := by rw [hx3]; exact HBY.out.at_ _
      have d0 : wr.cell? ⟨bb, off + 4 * t, none⟩ = some (.int .u8 (x0 : Int)) := by rw [hcl _ (by omega), hx0]; rfl
      have d1 : wr.cell? ⟨bb, off + (4 * t + 1), none⟩ = some (.int .u8 (x1 : Int)) := by rw [hcl _ (by omega), hx1]; rfl
      have d2 : wr.cell? ⟨bb, off + (4 * t + 2), none⟩ = some (.int .u8 (x2 : Int)) := by rw [hcl _ (by omega), hx2]; rfl
      have d3 : wr.cell? ⟨bb, off + (4 * t + 3), none⟩ = some (.int .u8 (x3 : Int)) := by rw [hcl _ (by omega), hx3]; rfl
      have HV := Lib.hid (show be b t = ((x0 * 16777216 ||| x1 * 65536) ||| x2 * 256) ||| x3 from by unfold be; rw [hx0, hx1, hx2, hx3])
      clear hx0 hx1 hx2 hx3 hcl hab hg
      have e0 : wr.cell? ⟨G, t, none⟩ = some (.int .u32 ((if t < t then be b t else 0 : Nat) : Int)) := HAB.out.cell (by omega)
      have f0 := HAB.out.free t
      have hbGw : bb ≠ G := hbG
      have ht64 : (t : Int) < 64 := by omega
      have hw0 : IntKind.i64.wrap (4 * (t : Int)) = 4 * (t : Int) := by rw [IntKind.wrap_i64]; omega
      have hp0 : (0 : Int) ≤ 4 * (t : Int) := by omega
      have hq0 : 4 * (t : Int) < (n : Int) := by omega
      have hr0 : (4 * (t : Int)).toNat = 4 * t := by omega
      have hw1 : IntKind.i64.wrap (4 * (t : Int) + 1) = 4 * (t : Int) + 1 := by rw [IntKind.wrap_i64]; omega
      have hp1 : (0 : Int) ≤ 4 * (t : Int) + 1 := by omega
      have hq1 : 4 * (t : Int) + 1 < (n : Int) := by omega
      have hr1 : (4 * (t : Int) + 1).toNat = 4 * t + 1 := by omega
      have hw2 : IntKind.i64.wrap (4 * (t : Int) + 2) = 4 * (t : Int) + 2 := by rw [IntKind.wrap_i64]; omega
      have hp2 : (0 : Int) ≤ 4 * (t : Int) + 2 := by omega
      have hq2 : 4 * (t : Int) + 2 < (n : Int) := by omega
      have hr2 : (4 * (t : Int) + 2).toNat = 4 * t + 2 := by omega
      have hw3 : IntKind.i64.wrap (4 * (t : Int) + 3) = 4 * (t : Int) + 3 := by rw [IntKind.wrap_i64]; omega
      have hp3 : (0 : Int) ≤ 4 * (t : Int) + 3 := by omega
      have hq3 : 4 * (t : Int) + 3 < (n : Int) := by omega
      have hr3 : (4 * (t : Int) + 3).toNat = 4 * t + 3 := by omega
      have hexpr := be_expr x0 x1 x2 x3 l0 l1 l2 l3
      rw [← HV.out] at hexpr
      have HE := Lib.hid hexpr
      clear hexpr
      go_upto_region 5 with (fail)
      refine wp_region_held_drew (S := (fun w' => w'.cell? ⟨bb, off + 4 * t, none⟩ = some (.int .u8 (x0 : Int)) ∧ w'.cell? ⟨bb, off + (4 * t + 1), none⟩ = some (.int .u8 (x1 : Int)) ∧ w'.cell? ⟨bb, off + (4 * t + 2), none⟩ = some (.int .u8 (x2 : Int)) ∧ w'.cell? ⟨bb, off + (4 * t + 3), none⟩ = some (.int .u8 (x3 : Int)))) (by kernel_rfl) ?_ (fun hHeld => ?_)
      · (first | exact ⟨d0, d1, d2, d3⟩ | exact ⟨(World.cell?_setCell_other _ _ _ _ (fun e => by injection e with e; omega)).trans d0, (World.cell?_setCell_other _ _ _ _ (fun e => by injection e with e; omega)).trans d1, (World.cell?_setCell_other _ _ _ _ (fun e => by injection e with e; omega)).trans d2, (World.cell?_setCell_other _ _ _ _ (fun e => by injection e with e; omega)).trans d3⟩)
      refine wpAnyH_take (i := 0) (oi := { dst := some 15, op := Op.move (Operand.tmp 4), type := 3, pos := "ref.go:73", after := #[], guard := none }) (v := ?_) rfl (by kernel_rfl) (by kernel_rfl) (by kernel_rfl) (fun _ _ _ h => h) (Or.inl ⟨by rfl, ?_⟩) (by assumption) ?_
      rotate_left 1
      · intro ws hSw; (try dsimp only at hSw); go_simp; all_goals with_reducible rfl
      simp only [Act.put, List.setIfInBounds_toArray, List.set_cons_zero, List.set_cons_succ]
      refine wpAnyH_take (i := 1) (oi := { dst := some 16, op := Op.move (Operand.tmp 0), type := 31, pos := "ref.go:73", after := #[], guard := none }) (v := ?_) rfl (by kernel_rfl) (by kernel_rfl) (by kernel_rfl) (fun _ _ _ h => h) (Or.inl ⟨by rfl, ?_⟩) (by assumption) ?_
      rotate_left 1
      · intro ws hSw; (try dsimp only at hSw); go_simp; all_goals with_reducible rfl
      simp only [Act.put, List.setIfInBounds_toArray, List.set_cons_zero, List.set_cons_succ]
      refine wpAnyH_take (i := 2) (oi := { dst := some 17, op := Op.move (Operand.tmp 4), type := 3, pos := "ref.go:73", after := #[], guard := none }) (v := ?_) rfl (by kernel_rfl) (by kernel_rfl) (by kernel_rfl) (fun _ _ _ h => h) (Or.inl ⟨by rfl, ?_⟩) (by assumption) ?_
      rotate_left 1
      · intro ws hSw; (try dsimp only at hSw); go_simp; all_goals with_reducible rfl
      simp only [Act.put, List.setIfInBounds_toArray, List.set_cons_zero, List.set_cons_succ]
      refine wpAnyH_take (i := 3) (oi := { dst := some 18, op := Op.binOp BinOp.mul 3 (Operand.const (Value.int IntKind.i64 4)) (Operand.tmp 17) 3, type := 3, pos := "ref.go:73", after := #[{ on := 2, ground := Ground.data }], guard := none }) (v := ?_) rfl (by kernel_rfl) (by kernel_rfl) (by kernel_rfl) (fun _ _ _ h => h) (Or.inl ⟨by rfl, ?_⟩) (by assumption) ?_
      rotate_left 1
      · intro ws hSw; (try dsimp only at hSw); go_simp; all_goals with_reducible rfl
      simp only [Act.put, List.setIfInBounds_toArray, List.set_cons_zero, List.set_cons_succ]
      refine wpAnyH_take (i := 4) (oi := { dst := some 19, op := Op.indexAddr 31 (Operand.tmp 16) (Operand.tmp 18), type := 0, pos := "ref.go:73", after := #[{ on := 1, ground := Ground.data }, { on := 3, ground := Ground.data }], guard := none }) (v := ?_) rfl (by kernel_rfl) (by kernel_rfl) (by kernel_rfl) (fun _ _ _ h => h) (Or.inl ⟨by rfl, ?_⟩) (by assumption) ?_
      rotate_left 1
      · intro ws hSw; (try dsimp only at hSw); go_simp; all_goals with_reducible rfl
      simp only [Act.put, List.setIfInBounds_toArray, List.set_cons_zero, List.set_cons_succ]
      refine wpAnyH_take (i := 5) (oi := { dst := some 20, op := Op.load 5 (Operand.tmp 19), type := 5, pos := "ref.go:73", after := #[{ on := 4, ground := Ground.data }], guard := none }) (v := ?_) rfl (by kernel_rfl) (by kernel_rfl) (by kernel_rfl) (fun _ _ _ h => h) (Or.inl ⟨by rfl, ?_⟩) (by assumption) ?_
      rotate_left 1
      · intro ws hSw; (try dsimp only at hSw); go_simp; all_goals with_reducible rfl
      simp only [Act.put, List.setIfInBounds_toArray, List.set_cons_zero, List.set_cons_succ]
      refine wpAnyH_take (i := 6) (oi := { dst := some 21, op := Op.convert 5 75 (Operand.tmp 20), type := 75, pos := "ref.go:73", after := #[{ on := 5, ground := Ground.data }], guard := none }) (v := ?_) rfl (by kernel_rfl) (by kernel_rfl) (by kernel_rfl) (fun _ _ _ h => h) (Or.inl ⟨by rfl, ?_⟩) (by assumption) ?_
      rotate_left 1
      · intro ws hSw; (try dsimp only at hSw); go_simp; all_goals with_reducible rfl
      simp only [Act.put, List.setIfInBounds_toArray, List.set_cons_zero, List.set_cons_succ]
      refine wpAnyH_take (i := 7) (oi := { dst := some 22, op := Op.binOp BinOp.shl 75 (Operand.tmp 21) (Operand.const (Value.int IntKind.u64 24)) 57, type := 75, pos := "ref.go:73", after := #[{ on := 6, ground := Ground.data }], guard := none }) (v := ?_) rfl (by kernel_rfl) (by kernel_rfl) (by kernel_rfl) (fun _ _ _ h => h) (Or.inl ⟨by rfl, ?_⟩) (by assumption) ?_
      rotate_left 1
      · intro ws hSw; (try dsimp only at hSw); go_simp; all_goals with_reducible rfl
      simp only [Act.put, List.setIfInBounds_toArray, List.set_cons_zero, List.set_cons_succ]
      refine wpAnyH_take (i := 8) (oi := { dst := some 23, op := Op.move (Operand.tmp 0), type := 31, pos := "ref.go:73", after := #[], guard := none }) (v := ?_) rfl (by kernel_rfl) (by kernel_rfl) (by kernel_rfl) (fun _ _ _ h => h) (Or.inl ⟨by rfl, ?_⟩) (by assumption) ?_
      rotate_left 1
      · intro ws hSw; (try dsimp only at hSw); go_simp; all_goals with_reducible rfl
      simp only [Act.put, List.setIfInBounds_toArray, List.set_cons_zero, List.set_cons_succ]
      refine wpAnyH_take (i := 9) (oi := { dst := some 24, op := Op.move (Operand.tmp 4), type := 3, pos := "ref.go:73", after := #[], guard := none }) (v := ?_) rfl (by kernel_rfl) (by kernel_rfl) (by kernel_rfl) (fun _ _ _ h => h) (Or.inl ⟨by rfl, ?_⟩) (by assumption) ?_
      rotate_left 1
      · intro ws hSw; (try dsimp only at hSw); go_simp; all_goals with_reducible rfl
      simp only [Act.put, List.setIfInBounds_toArray, List.set_cons_zero, List.set_cons_succ]
      refine wpAnyH_take (i := 10) (oi := { dst := some 25, op := Op.binOp BinOp.mul 3 (Operand.const (Value.int IntKind.i64 4)) (Operand.tmp 24) 3, type := 3, pos := "ref.go:73", after := #[{ on := 9, ground := Ground.data }], guard := none }) (v := ?_) rfl (by kernel_rfl) (by kernel_rfl) (by kernel_rfl) (fun _ _ _ h => h) (Or.inl ⟨by rfl, ?_⟩) (by assumption) ?_
      rotate_left 1
      · intro ws hSw; (try dsimp only at hSw); go_simp; all_goals with_reducible rfl
      simp only [Act.put, List.setIfInBounds_toArray, List.set_cons_zero, List.set_cons_succ]
      refine wpAnyH_take (i := 11) (oi := { dst := some 26, op := Op.binOp BinOp.add 3 (Operand.tmp 25) (Operand.const (Value.int IntKind.i64 1)) 3, type := 3, pos := "ref.go:73", after := #[{ on := 10, ground := Ground.data }], guard := none }) (v := ?_) rfl (by kernel_rfl) (by kernel_rfl) (by kernel_rfl) (fun _ _ _ h => h) (Or.inl ⟨by rfl, ?_⟩) (by assumption) ?_
      rotate_left 1
      · intro ws hSw; (try dsimp only at hSw); go_simp; all_goals with_reducible rfl
      simp only [Act.put, List.setIfInBounds_toArray, List.set_cons_zero, List.set_cons_succ]
      refine wpAnyH_take (i := 12) (oi := { dst := some 27, op := Op.indexAddr 31 (Operand.tmp 23) (Operand.tmp 26), type := 0, pos := "ref.go:73", after := #[{ on := 8, ground := Ground.data }, { on := 11, ground := Ground.data }], guard := none }) (v := ?_) rfl (by kernel_rfl) (by kernel_rfl) (by kernel_rfl) (fun _ _ _ h => h) (Or.inl ⟨by rfl, ?_⟩) (by assumption) ?_
      rotate_left 1
      · intro ws hSw; (try dsimp only at hSw); go_simp; all_goals with_reducible rfl
      simp only [Act.put, List.setIfInBounds_toArray, List.set_cons_zero, List.set_cons_succ]
      refine wpAnyH_take (i := 13) (oi := { dst := some 28, op := Op.load 5 (Operand.tmp 27), type := 5, pos := "ref.go:73", after := #[{ on := 12, ground := Ground.data }], guard := none }) (v := ?_) rfl (by kernel_rfl) (by kernel_rfl) (by kernel_rfl) (fun _ _ _ h => h) (Or.inl ⟨by rfl, ?_⟩) (by assumption) ?_
      rotate_left 1
      · intro ws hSw; (try dsimp only at hSw); go_simp; all_goals with_reducible rfl
      simp only [Act.put, List.setIfInBounds_toArray, List.set_cons_zero, List.set_cons_succ]
      refine wpAnyH_take (i := 14) (oi := { dst := some 29, op := Op.convert 5 75 (Operand.tmp 28), type := 75, pos := "ref.go:73", after := #[{ on := 13, ground := Ground.data }], guard := none }) (v := ?_) rfl (by kernel_rfl) (by kernel_rfl) (by kernel_rfl) (fun _ _ _ h => h) (Or.inl ⟨by rfl, ?_⟩) (by assumption) ?_
      rotate_left 1
      · intro ws hSw; (try dsimp only at hSw); go_simp; all_goals with_reducible rfl
      simp only [Act.put, List.setIfInBounds_toArray, List.set_cons_zero, List.set_cons_succ]
      refine wpAnyH_take (i := 15) (oi := { dst := some 30, op := Op.binOp BinOp.shl 75 (Operand.tmp 29) (Operand.const (Value.int IntKind.u64 16)) 57, type := 75, pos := "ref.go:73", after := #[{ on := 14, ground := Ground.data }], guard := none }) (v := ?_) rfl (by kernel_rfl) (by kernel_rfl) (by kernel_rfl) (fun _ _ _ h => h) (Or.inl ⟨by rfl, ?_⟩) (by assumption) ?_
      rotate_left 1
      · intro ws hSw; (try dsimp only at hSw); go_simp; all_goals with_reducible rfl
      simp only [Act.put, List.setIfInBounds_toArray, List.set_cons_zero, List.set_cons_succ]
      refine wpAnyH_take (i := 16) (oi := { dst := some 31, op := Op.binOp BinOp.or 75 (Operand.tmp 22) (Operand.tmp 30) 75, type := 75, pos := "ref.go:73", after := #[{ on := 7, ground := Ground.data }, { on := 15, ground := Ground.data }], guard := none }) (v := ?_) rfl (by kernel_rfl) (by kernel_rfl) (by kernel_rfl) (fun _ _ _ h => h) (Or.inl ⟨by rfl, ?_⟩) (by assumption) ?_
      rotate_left 1
      · intro ws hSw; (try dsimp only at hSw); go_simp; all_goals with_reducible rfl
      simp only [Act.put, List.setIfInBounds_toArray, List.set_cons_zero, List.set_cons_succ]
      refine wpAnyH_take (i := 17) (oi := { dst := some 32, op := Op.move (Operand.tmp 0), type := 31, pos := "ref.go:73", after := #[], guard := none }) (v := ?_) rfl (by kernel_rfl) (by kernel_rfl) (by kernel_rfl) (fun _ _ _ h => h) (Or.inl ⟨by rfl, ?_⟩) (by assumption) ?_
      rotate_left 1
      · intro ws hSw; (try dsimp only at hSw); go_simp; all_goals with_reducible rfl
      simp only [Act.put, List.setIfInBounds_toArray, List.set_cons_zero, List.set_cons_succ]
      refine wpAnyH_take (i := 18) (oi := { dst := some 33, op := Op.move (Operand.tmp 4), type := 3, pos := "ref.go:73", after := #[], guard := none }) (v := ?_) rfl (by kernel_rfl) (by kernel_rfl) (by kernel_rfl) (fun _ _ _ h => h) (Or.inl ⟨by rfl, ?_⟩) (by assumption) ?_
      rotate_left 1
      · intro ws hSw; (try dsimp only at hSw); go_simp; all_goals with_reducible rfl
      simp only [Act.put, List.setIfInBounds_toArray, List.set_cons_zero, List.set_cons_succ]
      refine wpAnyH_take (i := 19) (oi := { dst := some 34, op := Op.binOp BinOp.mul 3 (Operand.const (Value.int IntKind.i64 4)) (Operand.tmp 33) 3, type := 3, pos := "ref.go:73", after := #[{ on := 18, ground := Ground.data }], guard := none }) (v := ?_) rfl (by kernel_rfl) (by kernel_rfl) (by kernel_rfl) (fun _ _ _ h => h) (Or.inl ⟨by rfl, ?_⟩) (by assumption) ?_
      rotate_left 1
      · intro ws hSw; (try dsimp only at hSw); go_simp; all_goals with_reducible rfl
      simp only [Act.put, List.setIfInBounds_toArray, List.set_cons_zero, List.set_cons_succ]
      refine wpAnyH_take (i := 20) (oi := { dst := some 35, op := Op.binOp BinOp.add 3 (Operand.tmp 34) (Operand.const (Value.int IntKind.i64 2)) 3, type := 3, pos := "ref.go:73", after := #[{ on := 19, ground := Ground.data }], guard := none }) (v := ?_) rfl (by kernel_rfl) (by kernel_rfl) (by kernel_rfl) (fun _ _ _ h => h) (Or.inl ⟨by rfl, ?_⟩) (by assumption) ?_
      rotate_left 1
      · intro ws hSw; (try dsimp only at hSw); go_simp; all_goals with_reducible rfl
      simp only [Act.put, List.setIfInBounds_toArray, List.set_cons_zero, List.set_cons_succ]
      refine wpAnyH_take (i := 21) (oi := { dst := some 36, op := Op.indexAddr 31 (Operand.tmp 32) (Operand.tmp 35), type := 0, pos := "ref.go:73", after := #[{ on := 17, ground := Ground.data }, { on := 20, ground := Ground.data }], guard := none }) (v := ?_) rfl (by kernel_rfl) (by kernel_rfl) (by kernel_rfl) (fun _ _ _ h => h) (Or.inl ⟨by rfl, ?_⟩) (by assumption) ?_
      rotate_left 1
      · intro ws hSw; (try dsimp only at hSw); go_simp; all_goals with_reducible rfl
      simp only [Act.put, List.setIfInBounds_toArray, List.set_cons_zero, List.set_cons_succ]
      refine wpAnyH_take (i := 22) (oi := { dst := some 37, op := Op.load 5 (Operand.tmp 36), type := 5, pos := "ref.go:73", after := #[{ on := 21, ground := Ground.data }], guard := none }) (v := ?_) rfl (by kernel_rfl) (by kernel_rfl) (by kernel_rfl) (fun _ _ _ h => h) (Or.inl ⟨by rfl, ?_⟩) (by assumption) ?_
      rotate_left 1
      · intro ws hSw; (try dsimp only at hSw); go_simp; all_goals with_reducible rfl
      simp only [Act.put, List.setIfInBounds_toArray, List.set_cons_zero, List.set_cons_succ]
      refine wpAnyH_take (i := 23) (oi := { dst := some 38, op := Op.convert 5 75 (Operand.tmp 37), type := 75, pos := "ref.go:73", after := #[{ on := 22, ground := Ground.data }], guard := none }) (v := ?_) rfl (by kernel_rfl) (by kernel_rfl) (by kernel_rfl) (fun _ _ _ h => h) (Or.inl ⟨by rfl, ?_⟩) (by assumption) ?_
      rotate_left 1
      · intro ws hSw; (try dsimp only at hSw); go_simp; all_goals with_reducible rfl
      simp only [Act.put, List.setIfInBounds_toArray, List.set_cons_zero, List.set_cons_succ]
      refine wpAnyH_take (i := 24) (oi := { dst := some 39, op := Op.binOp BinOp.shl 75 (Operand.tmp 38) (Operand.const (Value.int IntKind.u64 8)) 57, type := 75, pos := "ref.go:73", after := #[{ on := 23, ground := Ground.data }], guard := none }) (v := ?_) rfl (by kernel_rfl) (by kernel_rfl) (by kernel_rfl) (fun _ _ _ h => h) (Or.inl ⟨by rfl, ?_⟩) (by assumption) ?_
      rotate_left 1
      · intro ws hSw; (try dsimp only at hSw); go_simp; all_goals with_reducible rfl
      simp only [Act.put, List.setIfInBounds_toArray, List.set_cons_zero, List.set_cons_succ]
      refine wpAnyH_take (i := 25) (oi := { dst := some 40, op := Op.binOp BinOp.or 75 (Operand.tmp 31) (Operand.tmp 39) 75, type := 75, pos := "ref.go:73", after := #[{ on := 16, ground := Ground.data }, { on := 24, ground := Ground.data }], guard := none }) (v := ?_) rfl (by kernel_rfl) (by kernel_rfl) (by kernel_rfl) (fun _ _ _ h => h) (Or.inl ⟨by rfl, ?_⟩) (by assumption) ?_
      rotate_left 1
      · intro ws hSw; (try dsimp only at hSw); go_simp; all_goals with_reducible rfl
      simp only [Act.put, List.setIfInBounds_toArray, List.set_cons_zero, List.set_cons_succ]
      refine wpAnyH_take (i := 26) (oi := { dst := some 41, op := Op.move (Operand.tmp 0), type := 31, pos := "ref.go:73", after := #[], guard := none }) (v := ?_) rfl (by kernel_rfl) (by kernel_rfl) (by kernel_rfl) (fun _ _ _ h => h) (Or.inl ⟨by rfl, ?_⟩) (by assumption) ?_
      rotate_left 1
      · intro ws hSw; (try dsimp only at hSw); go_simp; all_goals with_reducible rfl
      simp only [Act.put, List.setIfInBounds_toArray, List.set_cons_zero, List.set_cons_succ]
      refine wpAnyH_take (i := 27) (oi := { dst := some 42, op := Op.move (Operand.tmp 4), type := 3, pos := "ref.go:73", after := #[], guard := none }) (v := ?_) rfl (by kernel_rfl) (by kernel_rfl) (by kernel_rfl) (fun _ _ _ h => h) (Or.inl ⟨by rfl, ?_⟩) (by assumption) ?_
      rotate_left 1
      · intro ws hSw; (try dsimp only at hSw); go_simp; all_goals with_reducible rfl
      simp only [Act.put, List.setIfInBounds_toArray, List.set_cons_zero, List.set_cons_succ]
      refine wpAnyH_take (i := 28) (oi := { dst := some 43, op := Op.binOp BinOp.mul 3 (Operand.const (Value.int IntKind.i64 4)) (Operand.tmp 42) 3, type := 3, pos := "ref.go:73", after := #[{ on := 27, ground := Ground.data }], guard := none }) (v := ?_) rfl (by kernel_rfl) (by kernel_rfl) (by kernel_rfl) (fun _ _ _ h => h) (Or.inl ⟨by rfl, ?_⟩) (by assumption) ?_
      rotate_left 1
      · intro ws hSw; (try dsimp only at hSw); go_simp; all_goals with_reducible rfl
      simp only [Act.put, List.setIfInBounds_toArray, List.set_cons_zero, List.set_cons_succ]
      refine wpAnyH_take (i := 29) (oi := { dst := some 44, op := Op.binOp BinOp.add 3 (Operand.tmp 43) (Operand.const (Value.int IntKind.i64 3)) 3, type := 3, pos := "ref.go:73", after := #[{ on := 28, ground := Ground.data }], guard := none }) (v := ?_) rfl (by kernel_rfl) (by kernel_rfl) (by kernel_rfl) (fun _ _ _ h => h) (Or.inl ⟨by rfl, ?_⟩) (by assumption) ?_
      rotate_left 1
      · intro ws hSw; (try dsimp only at hSw); go_simp; all_goals with_reducible rfl
      simp only [Act.put, List.setIfInBounds_toArray, List.set_cons_zero, List.set_cons_succ]
      refine wpAnyH_take (i := 30) (oi := { dst := some 45, op := Op.indexAddr 31 (Operand.tmp 41) (Operand.tmp 44), type := 0, pos := "ref.go:73", after := #[{ on := 26, ground := Ground.data }, { on := 29, ground := Ground.data }], guard := none }) (v := ?_) rfl (by kernel_rfl) (by kernel_rfl) (by kernel_rfl) (fun _ _ _ h => h) (Or.inl ⟨by rfl, ?_⟩) (by assumption) ?_
      rotate_left 1
      · intro ws hSw; (try dsimp only at hSw); go_simp; all_goals with_reducible rfl
      simp only [Act.put, List.setIfInBounds_toArray, List.set_cons_zero, List.set_cons_succ]
      refine wpAnyH_take (i := 31) (oi := { dst := some 46, op := Op.load 5 (Operand.tmp 45), type := 5, pos := "ref.go:73", after := #[{ on := 30, ground := Ground.data }], guard := none }) (v := ?_) rfl (by kernel_rfl) (by kernel_rfl) (by kernel_rfl) (fun _ _ _ h => h) (Or.inl ⟨by rfl, ?_⟩) (by assumption) ?_
      rotate_left 1
      · intro ws hSw; (try dsimp only at hSw); go_simp; all_goals with_reducible rfl
      simp only [Act.put, List.setIfInBounds_toArray, List.set_cons_zero, List.set_cons_succ]
      refine wpAnyH_take (i := 32) (oi := { dst := some 47, op := Op.convert 5 75 (Operand.tmp 46), type := 75, pos := "ref.go:73", after := #[{ on := 31, ground := Ground.data }], guard := none }) (v := ?_) rfl (by kernel_rfl) (by kernel_rfl) (by kernel_rfl) (fun _ _ _ h => h) (Or.inl ⟨by rfl, ?_⟩) (by assumption) ?_
      rotate_left 1
      · intro ws hSw; (try dsimp only at hSw); go_simp; all_goals with_reducible rfl
      simp only [Act.put, List.setIfInBounds_toArray, List.set_cons_zero, List.set_cons_succ]
      refine wpAnyH_take (i := 33) (oi := { dst := some 48, op := Op.binOp BinOp.or 75 (Operand.tmp 40) (Operand.tmp 47) 75, type := 75, pos := "ref.go:73", after := #[{ on := 25, ground := Ground.data }, { on := 32, ground := Ground.data }], guard := none }) (v := ?_) rfl (by kernel_rfl) (by kernel_rfl) (by kernel_rfl) (fun _ _ _ h => h) (Or.inl ⟨by rfl, ?_⟩) (by assumption) ?_
      rotate_left 1
      · intro ws hSw; (try dsimp only at hSw); go_simp; all_goals with_reducible rfl
      simp only [Act.put, List.setIfInBounds_toArray, List.set_cons_zero, List.set_cons_succ]
      refine wpAnyH_take (i := 34) (oi := { dst := some 49, op := Op.indexAddr 76 (Operand.tmp 3) (Operand.tmp 15), type := 0, pos := "ref.go:73", after := #[{ on := 0, ground := Ground.data }, { on := 0, ground := Ground.phase }, { on := 1, ground := Ground.phase }, { on := 2, ground := Ground.phase }, { on := 3, ground := Ground.phase }, { on := 4, ground := Ground.phase }, { on := 5, ground := Ground.phase }, { on := 6, ground := Ground.phase }, { on := 7, ground := Ground.phase }, { on := 8, ground := Ground.phase }, { on := 9, ground := Ground.phase }, { on := 10, ground := Ground.phase }, { on := 11, ground := Ground.phase }, { on := 12, ground := Ground.phase }, { on := 13, ground := Ground.phase }, { on := 14, ground := Ground.phase }, { on := 15, ground := Ground.phase }, { on := 16, ground := Ground.phase }, { on := 17, ground := Ground.phase }, { on := 18, ground := Ground.phase }, { on := 19, ground := Ground.phase }, { on := 20, ground := Ground.phase }, { on := 21, ground := Ground.phase }, { on := 22, ground := Ground.phase }, { on := 23, ground := Ground.phase }, { on := 24, ground := Ground.phase }, { on := 25, ground := Ground.phase }, { on := 26, ground := Ground.phase }, { on := 27, ground := Ground.phase }, { on := 28, ground := Ground.phase }, { on := 29, ground := Ground.phase }, { on := 30, ground := Ground.phase }, { on := 31, ground := Ground.phase }, { on := 32, ground := Ground.phase }, { on := 33, ground := Ground.phase }], guard := none }) (v := ?_) rfl (by kernel_rfl) (by kernel_rfl) (by kernel_rfl) (fun _ _ _ h => h) (Or.inl ⟨by rfl, ?_⟩) (by assumption) ?_
      rotate_left 1
      · intro ws hSw; (try dsimp only at hSw); go_simp; all_goals with_reducible rfl
      simp only [Act.put, List.setIfInBounds_toArray, List.set_cons_zero, List.set_cons_succ]
      refine wpAnyH_ready (rs := [35]) (by kernel_rfl) (by simp) ?_
      refine AllReadyH.cons (o := { dst := none, op := Op.store 75 (Operand.tmp 49) (Operand.tmp 48), type := 0, pos := "ref.go:73", after := #[{ on := 34, ground := Ground.data }, { on := 33, ground := Ground.data }, { on := 0, ground := Ground.phase }, { on := 1, ground := Ground.phase }, { on := 2, ground := Ground.phase }, { on := 3, ground := Ground.phase }, { on := 4, ground := Ground.phase }, { on := 5, ground := Ground.phase }, { on := 6, ground := Ground.phase }, { on := 7, ground := Ground.phase }, { on := 8, ground := Ground.phase }, { on := 9, ground := Ground.phase }, { on := 10, ground := Ground.phase }, { on := 11, ground := Ground.phase }, { on := 12, ground := Ground.phase }, { on := 13, ground := Ground.phase }, { on := 14, ground := Ground.phase }, { on := 15, ground := Ground.phase }, { on := 16, ground := Ground.phase }, { on := 17, ground := Ground.phase }, { on := 18, ground := Ground.phase }, { on := 19, ground := Ground.phase }, { on := 20, ground := Ground.phase }, { on := 21, ground := Ground.phase }, { on := 22, ground := Ground.phase }, { on := 23, ground := Ground.phase }, { on := 24, ground := Ground.phase }, { on := 25, ground := Ground.phase }, { on := 26, ground := Ground.phase }, { on := 27, ground := Ground.phase }, { on := 28, ground := Ground.phase }, { on := 29, ground := Ground.phase }, { on := 30, ground := Ground.phase }, { on := 31, ground := Ground.phase }, { on := 32, ground := Ground.phase }, { on := 33, ground := Ground.phase }], guard := none }) rfl (fun K hK => ?_) AllReadyH.nil
      go_simp
      refine hK.out _ _ ?_ (fun hHeld => ?_)
      · (first | exact ⟨d0, d1, d2, d3⟩ | exact ⟨(World.cell?_setCell_other _ _ _ _ (fun e => by injection e with e; omega)).trans d0, (World.cell?_setCell_other _ _ _ _ (fun e => by injection e with e; omega)).trans d1, (World.cell?_setCell_other _ _ _ _ (fun e => by injection e with e; omega)).trans d2, (World.cell?_setCell_other _ _ _ _ (fun e => by injection e with e; omega)).trans d3⟩)
      clear hK K
      try simp only [Act.put, List.setIfInBounds_toArray, List.set_cons_zero, List.set_cons_succ]
      refine wpAnyH_done (by kernel_rfl) ?_ _
      clear hHeld
      rw [HE.out]
      go_wp2_with fail
      go_roundw
      case rel =>
        refine ⟨t + 1, by go_num, by omega, ?_, ?_⟩
        · exact AB.drew ((HAB.out.set t (be b t)).congr fun j hj => by
            by_cases h1 : j = t
            · rw [if_pos h1, if_pos (by omega), h1]
            · rw [if_neg h1]
              by_cases h2 : j < t
              · rw [if_pos h2, if_pos (by omega)]
              · rw [if_neg h2, if_neg (by omega)])
        · have h1 := (HAB.out.set t (be b t)).lt
          have g1 := HGR.out
          exact ⟨g1.os, g1.tape, g1.output, by simpa [World.setCell] using g1.size, fun i hi hne => (heap_setCell_other wr ⟨G, t, none⟩ i _ (fun e => hne (by rw [e]))).trans (g1.block i hi hne)⟩
      case measure => simp [intOf]; omega
    · obtain rfl : t = 16 := by omega
      have HA16 := Lib.hid (show AB wr 76 G 64 (fun j => if j < 16 then Wd b j else 0) from hab.congr fun j _ => by
        by_cases h : j < 16
        · rw [if_pos h, if_pos h, Wd_lo b h]
        · rw [if_neg h, if_neg h])
      clear hab hg HAB
      obtain ⟨W1, hW1⟩ : ∃ W1, W1 = wr := ⟨_, rfl⟩
      subst hW1
      go_wp2_with fail
      obtain ⟨u24, hu24⟩ : ∃ v, v = Value.int .i64 ((16 : Nat) : Int) := ⟨_, rfl⟩
      rw [← hu24]
      clear hu24
      go_loopw [5] (fun i wr => ∃ t : Nat, i = .int .i64 (t : Int) ∧ 16 ≤ t ∧ t ≤ 64 ∧ AB wr 76 G 64 (fun j => if j < t then Wd b j else 0) ∧ W0.grownBy wr (some G)) (fun i _ => (64 - intOf i).toNat)
      case atStart => exact ⟨16, rfl, by omega, by omega, HA16.out, HGR.out⟩
      case round =>
        obtain ⟨t, rfl, ht1, ht2, hab, hg⟩ := hrel
        have HAB := Lib.hid hab
        have HG2 := Lib.hid hg
        by_cases ht64 : t < 64
        · have q15 : wr.cell? ⟨G, t - 15, none⟩ = some (.int .u32 ((Wd b (t - 15) : Nat) : Int)) := by rw [hab.cell (j := t - 15) (by omega), if_pos (by omega)]
          have q2 : wr.cell? ⟨G, t - 2, none⟩ = some (.int .u32 ((Wd b (t - 2) : Nat) : Int)) := by rw [hab.cell (j := t - 2) (by omega), if_pos (by omega)]
          have q7 : wr.cell? ⟨G, t - 7, none⟩ = some (.int .u32 ((Wd b (t - 7) : Nat) : Int)) := by rw [hab.cell (j := t - 7) (by omega), if_pos (by omega)]
          have q16 : wr.cell? ⟨G, t - 16, none⟩ = some (.int .u32 ((Wd b (t - 16) : Nat) : Int)) := by rw [hab.cell (j := t - 16) (by omega), if_pos (by omega)]
          have qt := hab.cell ht64
          have ft := hab.free t
          have HN := Lib.hid (Wd_hi b (t := t) (by omega))
          have l15 := Wd_lt HBY.out (t - 15)
          have l2 := Wd_lt HBY.out (t - 2)
          have l7 := Wd_lt HBY.out (t - 7)
          have l16 := Wd_lt HBY.out (t - 16)
          generalize Wd b (t - 15) = x at *
          generalize Wd b (t - 2) = y at *
          generalize Wd b (t - 7) = w7 at *
          generalize Wd b (t - 16) = w16 at *
          have hw15 : IntKind.i64.wrap ((t : Int) - 15) = (t : Int) - 15 := by rw [IntKind.wrap_i64]; omega
          have hp15 : (0 : Int) ≤ (t : Int) - 15 := by omega
          have hs15 : (15 : Int) ≤ (t : Int) := by omega
          have hq15 : (t : Int) - 15 < 64 := by omega
          have hr15 : ((t : Int) - 15).toNat = t - 15 := by omega
          have hw2 : IntKind.i64.wrap ((t : Int) - 2) = (t : Int) - 2 := by rw [IntKind.wrap_i64]; omega
          have hp2 : (0 : Int) ≤ (t : Int) - 2 := by omega
          have hs2 : (2 : Int) ≤ (t : Int) := by omega
          have hq2 : (t : Int) - 2 < 64 := by omega
          have hr2 : ((t : Int) - 2).toNat = t - 2 := by omega
          have hw7 : IntKind.i64.wrap ((t : Int) - 7) = (t : Int) - 7 := by rw [IntKind.wrap_i64]; omega
          have hp7 : (0 : Int) ≤ (t : Int) - 7 := by omega
          have hs7 : (7 : Int) ≤ (t : Int) := by omega
          have hq7 : (t : Int) - 7 < 64 := by omega
          have hr7 : ((t : Int) - 7).toNat = t - 7 := by omega
          have hw16 : IntKind.i64.wrap ((t : Int) - 16) = (t : Int) - 16 := by rw [IntKind.wrap_i64]; omega
          have hp16 : (0 : Int) ≤ (t : Int) - 16 := by omega
          have hs16 : (16 : Int) ≤ (t : Int) := by omega
          have hq16 : (t : Int) - 16 < 64 := by omega
          have hr16 : ((t : Int) - 16).toNat = t - 16 := by omega
          have HE0 := Lib.hid (sg0_expr l15)
          have HE1 := Lib.hid (sg1_expr l2)
          clear hab hg
          go_upto_region 12 with (first | ((with_reducible refine (turn_7 x l15 _).mono ?_); rintro e w' ⟨rfl, hw⟩; have hw2 := hw.symm; clear hw; subst hw2) | ((with_reducible refine (turn_18 x l15 _).mono ?_); rintro e w' ⟨rfl, hw⟩; have hw2 := hw.symm; clear hw; subst hw2))
          rw [HE0.out]
          go_upto_region 13 with (first | ((with_reducible refine (turn_17 y l2 _).mono ?_); rintro e w' ⟨rfl, hw⟩; have hw2 := hw.symm; clear hw; subst hw2) | ((with_reducible refine (turn_19 y l2 _).mono ?_); rintro e w' ⟨rfl, hw⟩; have hw2 := hw.symm; clear hw; subst hw2))
          rw [HE1.out]
          have HE := Lib.hid (show IntKind.u32.wrap (IntKind.u32.wrap (IntKind.u32.wrap (((sg1 y : Nat) : Int) + (w7 : Int)) + ((sg0 x : Nat) : Int)) + (w16 : Int)) = ((wnext y w7 x w16 : Nat) : Int) from by rw [u32_add_nat, u32_add_nat, u32_add_nat]; rfl)
          refine wp_region_still_tail 15 (by kernel_rfl) (by kernel_rfl) ?_
          obtain ⟨W3, hW3⟩ : ∃ W3, wr.drew = W3 := ⟨_, rfl⟩
          change wpStill _ _ wr.drew (fun a' => wpList _ _ _ _ a' wr.drew) _ _
          rw [hW3]
          have r7 : W3.cell? ⟨G, t - 7, none⟩ = some (.int .u32 (w7 : Int)) := by rw [← hW3]; exact q7
          have r16 : W3.cell? ⟨G, t - 16, none⟩ = some (.int .u32 (w16 : Int)) := by rw [← hW3]; exact q16
          have HAB3 := Lib.hid (show AB W3 76 G 64 (fun j => if j < t then Wd b j else 0) from by rw [← hW3]; exact HAB.out)
          have HG3 := Lib.hid (show W0.grownBy W3 (some G) from by rw [← hW3]; exact ⟨HG2.out.os, HG2.out.tape, HG2.out.output, HG2.out.size, HG2.out.block⟩)
          have qt3 := HAB3.out.cell ht64
          have ft3 := HAB3.out.free t
          clear hW3 q7 q16 q15 q2 qt ft
          simp only [List.take_succ_cons, List.take_zero, List.drop_succ_cons, List.drop_zero]
          repeat still_step
          refine wpStill_nil ?_
          rw [HE.out, ← HN.out]
          go_wp2_with fail
          go_roundw
          case rel =>
            refine ⟨t + 1, by go_num, by omega, by omega, ?_, ?_⟩
            · exact (HAB3.out.set t (Wd b t)).congr fun j hj => by
                by_cases h1 : j = t
                · rw [if_pos h1, if_pos (by omega), h1]
                · rw [if_neg h1]
                  by_cases h2 : j < t
                  · rw [if_pos h2, if_pos (by omega)]
                  · rw [if_neg h2, if_neg (by omega)]
            · exact grown_trans HG3.out (HAB3.out.grown t (Wd b t))
          case measure => simp [intOf]; omega
        · obtain rfl : t = 64 := by omega
          obtain ⟨C, hC⟩ : ∃ C, C = (wc 64 (Wd b)).toArray := ⟨_, rfl⟩
          have HW64 := Lib.hid (show wr.heap[G]? = some (.cells C 76 (0, 0)) from by rw [hC]; exact hab.congr fun j hj => by rw [if_pos hj])
          have HO64 := Lib.hid (show AB wr 76 w.heap.size 64 (fun _ => 0) from HAS.out.keep (hg.block _ HAS.out.lt (fun e => by injection e with e; omega)))
          have HCs := Lib.hid (show (Try.prog.info? 76).map (·.size) = some C.size from by rw [hC]; exact size_w64)
          have HCa := Lib.hid (show C.all (·.oneCell') = true from by rw [hC]; exact wc_all 64 _)
          have HCz := Lib.hid (show (wc 64 fun _ => 0).toArray.size = C.size from by rw [hC]; simp [wc])
          have HBF := Lib.hid (show Below w.heap.size w wr from HBW.out.grown hg HBW.out.size (fun k hk => by injection hk with hk; omega))
          have HC := Lib.hid hC
          clear hC hab hg HAB HG2
          go_upto_region 14 with (fail)
          refine wp_region_list ?_
          refine wpList_load_row (by rfl) 76 (.tmp 3) (by rfl) G (by rfl) 76 C (0, 0) _ HW64.out Try.underlying76 (by rfl) HCs.out ?_
          refine wpList_store_row (by rfl) 76 (.tmp 2) (.tmp 93) (by rfl) w.heap.size C (by rfl) (by rfl) 76 (wc 64 fun _ => 0).toArray HO64.out HCs.out HCz.out HCa.out ?_
          go_wp2_with fail
          exact bodyPost_ret (v := .agg C) (results_cell_row (by rfl) _ _ w.heap.size 76 _ (0, 0) _ (by rfl) (setRow_heap _ _ _ _ _ _ HO64.out) Try.underlying76 (by rfl) HCs.out) rfl ⟨by rw [HC.out], below_setRow HBF.out (Nat.le_refl _) C⟩
end Go.Proofs.Ytmpbimechgelfaa

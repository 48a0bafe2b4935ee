/- bytes.Repeat of one byte, sixty-four times. -/
import Derived.Test.YtmpbimechgelfaaSum
import Derived.Lib.MakeNoZero
import Derived.Lib.SlBuf
import Derived.Deep.RegionLaw
import Derived.Deep.Cut
namespace Go.Proofs.Ytmpbimechgelfaa
open Go Go.RowKit

/-- A buffer in block g whose first n cells hold x. -/
def Bx (w : World) (g n x : Nat) : Prop := ∃ cur : List Value, w.heap[g]? = some (.cells cur.toArray 5 (0, 0)) ∧ 64 ≤ cur.length ∧ ∀ j, j < n → cur[j]? = some (.int .u8 (x : Int))
theorem rep_at {n x j : Nat} {v : Value} (h : (List.replicate n (Value.int .u8 (x : Int)))[j]? = some v) : j < n ∧ v = .int .u8 (x : Int) := by
  have h1 := (List.getElem?_eq_some_iff.1 h).1
  rw [List.length_replicate] at h1
  rw [List.getElem?_replicate, if_pos h1] at h
  injection h with h
  exact ⟨h1, h.symm⟩
theorem rep_one (n x : Nat) : ∀ v ∈ List.replicate n (Value.int .u8 (x : Int)), v.oneCell' = true := by
  intro v hv; rw [List.eq_of_mem_replicate hv]; rfl
theorem splice_rep {cur : List Value} {n m x : Nat} (h64 : 64 ≤ cur.length) (hm : n + m ≤ 64) (h : ∀ j, j < n → cur[j]? = some (.int .u8 (x : Int))) :
    64 ≤ (splice cur n (List.replicate m (.int .u8 (x : Int)))).length ∧ ∀ j, j < n + m → (splice cur n (List.replicate m (.int .u8 (x : Int))))[j]? = some (.int .u8 (x : Int)) := by
  have ht : (cur.take n).length = n := by simp; omega
  unfold splice
  refine ⟨by simp; omega, fun j hj => ?_⟩
  by_cases h1 : j < n
  · rw [List.getElem?_append_left (by omega), List.getElem?_take_of_lt h1]; exact h j h1
  · rw [List.getElem?_append_right (by omega), ht, List.getElem?_append_left (by simp; omega), List.getElem?_replicate, if_pos (by omega)]
set_option maxRecDepth 100000 in
set_option maxHeartbeats 4000000 in
theorem repeat_any (b off c x : Nat) (w : World) (hx : w.cell? ⟨b, off, none⟩ = some (.int .u8 (x : Int))) :
    Calls Try.prog 53 #[.slice (some ⟨b, off, none⟩) 1 c, .int .i64 64] w fun e w' => ∃ v, e = .returned v ∧ Fr w' w.heap.size v (List.replicate 64 x) ∧ Below w.heap.size w w' := by
  obtain ⟨cs, hrunM, hle, hmx⟩ := Lib.run_makeNoZero (P := Try.prog) w #[3] 31 5 Try.underlying31 64 (by omega)
  have hrunN : (Extern.BytealgMakeNoZero.makeNoZero #[3] #[31] #[.int .i64 64]).run Try.prog w = .ok (.slice (some ⟨w.heap.size, 0, none⟩) 64 cs.size) (w.drew.drew.alloc (.cells cs 5)) := hrunM
  have hcall : (callFunc 61 #[.int .i64 64]).run Try.prog w = .ok (.value (.slice (some ⟨w.heap.size, 0, none⟩) 64 cs.size)) ((w.alloc (.cells cs 5)).drewN 2) := by
    rw [run_callFunc_extern Try.func61 (by kernel_rfl) (by kernel_rfl) (by kernel_rfl) (e := Extern.BytealgMakeNoZero.makeNoZero #[3] #[31]) (by kernel_rfl), hrunN]
    rfl
  have i1 : (64 : Int) ≤ (cs.size : Int) := by omega
  have HBL := Lib.hid (show Below w.heap.size w ((w.alloc (.cells cs 5)).drewN 2) from below_drewN ((Below.refl _ _).alloc (Nat.le_refl _) _) 2)
  have HBX := Lib.hid (show ((w.alloc (.cells cs 5)).drewN 2).heap[w.heap.size]? = some (.cells cs.toList.toArray 5 (0, 0)) from by rw [Array.toArray_toList]; exact heap_alloc_new w _)
  have HLT := Lib.hid (show b < w.heap.size from World.block_lt_of_cell? w _ hx)
  have HX := Lib.hid hx
  have HLE := Lib.hid hle
  have HMX := Lib.hid hmx
  clear hrunM hrunN hle hx hmx
  go_enter Try.func53, Try.ntmps53
  go_upto_region 17 with (go_at_call 64; refine (Try.bits_Mul 1 64 (by omega) (by omega) _).mono ?_; rintro e w' ⟨rfl, hw⟩; have hw2 := hw.symm; clear hw; subst hw2)
  obtain ⟨W1, hW1⟩ : ∃ W, W = (w.alloc (.cells cs 5)).drewN 2 := ⟨_, rfl⟩
  rw [← hW1] at HBL HBX ⊢
  obtain ⟨G, hG⟩ : ∃ G, G = w.heap.size := ⟨_, rfl⟩
  rw [← hG] at HBL HBX HLT ⊢
  have HX1 := Lib.hid (show W1.cell? ⟨b, off, none⟩ = some (.int .u8 (x : Int)) from by rw [HBL.out.cell (p := ⟨b, off, none⟩) HLT.out]; exact HX.out)
  have HSP := Lib.hid (splice_rep (x := x) (n := 0) (m := 1) (cur := cs.toList) (by rw [Array.length_toList]; exact HLE.out) (by omega) (fun j hj => by omega))
  have HG := Lib.hid hG
  clear hcall hW1 hG
  go_wp2_with (with_reducible refine wpList_copy_splice rfl (.tmp 58) (.tmp 59) 31 31 rfl 5 Try.underlying31 size_u8 (some ⟨G, 0, none⟩) (some ⟨b, off, none⟩) 64 64 1 c rfl rfl G 0 cs.toList 5 HBX.out (List.replicate 1 (.int .u8 (x : Int))) rfl (fun _ => ⟨rfl, ⟨b, off, none⟩, rfl, fun j v hj => by obtain ⟨h1, rfl⟩ := rep_at hj; rw [add_addr, show j = 0 from by omega, Nat.add_zero]; exact HX1.out⟩) (by simp; have := HLE.out; omega) (rep_one 1 x) G w HBL.out (Nat.le_refl _) ?_; intro w2 hx2 hb2)
  go_loopw [10] (fun i wr => ∃ k : Nat, i = .int .i64 (k : Int) ∧ 1 ≤ k ∧ k ≤ 64 ∧ Bx wr G k x ∧ Below G w wr) (fun i _ => (64 - intOf i).toNat)
  case atStart => exact ⟨1, rfl, by omega, by omega, ⟨_, hx2.out, HSP.out.1, HSP.out.2⟩, hb2⟩
  case round =>
    obtain ⟨k, rfl, hk1, hk2, hbx, hb⟩ := hrel
    have HB := Lib.hid hb
    have HBK := Lib.hid hbx
    clear hb hbx
    by_cases hk : k < 64
    · obtain ⟨cur, hcur, h64, hat⟩ := HBK.out
      have HCU := Lib.hid hcur
      have HAT := Lib.hid hat
      have hmin : min (k : Int) 64 = k := by omega
      have hkI : (k : Int) < 64 := by omega
      have hkJ : (k : Int) ≤ 64 := by omega
      have hk0 : (0 : Int) ≤ (k : Int) := by omega
      have hsub : (64 : Int) - (k : Int) = ((64 - k : Nat) : Int) := by omega
      have hsl : ∀ W, (Instr.slice 31 (.slice (some ⟨G, 0, none⟩) 64 64) (some (.int .i64 (k : Int))) none none).run Try.prog W = .ok (.slice (some ⟨G, k, none⟩) (64 - k) (64 - k)) W := fun W => by
        have h := Lib.run_slice_tailV (P := Try.prog) W 31 5 Try.underlying31 (fun _ => by kernel_rfl) G 64 k (by omega)
        rw [h]; unfold Lib.tailV; rw [if_neg (by omega)]
      clear hcur hat
      by_cases h2 : 2 * k ≤ 64
      · have hwp : IntKind.i64.wrap ((k : Int) + (k : Int)) = ((k + k : Nat) : Int) := by rw [IntKind.wrap_i64]; omega
        have HSQ := Lib.hid (splice_rep (x := x) (n := k) (m := k) h64 (by omega) HAT.out)
        go_upto_region 20 with (fail)
        refine wp_region_held_drew (S := (fun w' => Hid (Below G w w'))) (by kernel_rfl) ?_ (fun hHeld => ?_)
        · (first | exact Lib.hid HB.out.drew | exact Lib.hid hb3)
        refine wpAnyH_take (i := 0) (oi := { dst := some 67, op := Op.move (Operand.tmp 10), type := 3, pos := "bytes.go:672", after := #[], guard := none }) (v := ?_) rfl (by kernel_rfl) (by kernel_rfl) (by kernel_rfl) (fun _ _ _ h => h) (Or.inl ⟨by rfl, ?_⟩) (by assumption) ?_
        rotate_left 1
        · intro ws hSw; (try dsimp only at hSw); go_simp; all_goals with_reducible rfl
        simp only [Act.put, List.setIfInBounds_toArray, List.set_cons_zero, List.set_cons_succ]
        refine wpAnyH_take (i := 1) (oi := { dst := some 68, op := Op.move (Operand.tmp 9), type := 31, pos := "bytes.go:672", after := #[], guard := none }) (v := ?_) rfl (by kernel_rfl) (by kernel_rfl) (by kernel_rfl) (fun _ _ _ h => h) (Or.inl ⟨by rfl, ?_⟩) (by assumption) ?_
        rotate_left 1
        · intro ws hSw; (try dsimp only at hSw); go_simp; all_goals with_reducible rfl
        simp only [Act.put, List.setIfInBounds_toArray, List.set_cons_zero, List.set_cons_succ]
        refine wpAnyH_take (i := 2) (oi := { dst := some 69, op := Op.move (Operand.tmp 10), type := 3, pos := "bytes.go:672", after := #[], guard := none }) (v := ?_) rfl (by kernel_rfl) (by kernel_rfl) (by kernel_rfl) (fun _ _ _ h => h) (Or.inl ⟨by rfl, ?_⟩) (by assumption) ?_
        rotate_left 1
        · intro ws hSw; (try dsimp only at hSw); go_simp; all_goals with_reducible rfl
        simp only [Act.put, List.setIfInBounds_toArray, List.set_cons_zero, List.set_cons_succ]
        refine wpAnyH_take (i := 3) (oi := { dst := some 70, op := Op.slice 31 (Operand.tmp 68) (some (Operand.tmp 69)) none none, type := 31, pos := "bytes.go:672", after := #[{ on := 1, ground := Ground.data }, { on := 2, ground := Ground.data }], guard := none }) (v := ?_) rfl (by kernel_rfl) (by kernel_rfl) (by kernel_rfl) (fun _ _ _ h => h) (Or.inl ⟨by rfl, ?_⟩) (by assumption) ?_
        rotate_left 1
        · intro ws hSw; (try dsimp only at hSw); go_simp; all_goals with_reducible rfl
        simp only [Act.put, List.setIfInBounds_toArray, List.set_cons_zero, List.set_cons_succ]
        refine wpAnyH_take (i := 4) (oi := { dst := some 71, op := Op.move (Operand.tmp 9), type := 31, pos := "bytes.go:672", after := #[], guard := none }) (v := ?_) rfl (by kernel_rfl) (by kernel_rfl) (by kernel_rfl) (fun _ _ _ h => h) (Or.inl ⟨by rfl, ?_⟩) (by assumption) ?_
        rotate_left 1
        · intro ws hSw; (try dsimp only at hSw); go_simp; all_goals with_reducible rfl
        simp only [Act.put, List.setIfInBounds_toArray, List.set_cons_zero, List.set_cons_succ]
        refine wpAnyH_take (i := 5) (oi := { dst := some 72, op := Op.move (Operand.tmp 11), type := 3, pos := "bytes.go:672", after := #[], guard := none }) (v := ?_) rfl (by kernel_rfl) (by kernel_rfl) (by kernel_rfl) (fun _ _ _ h => h) (Or.inl ⟨by rfl, ?_⟩) (by assumption) ?_
        rotate_left 1
        · intro ws hSw; (try dsimp only at hSw); go_simp; all_goals with_reducible rfl
        simp only [Act.put, List.setIfInBounds_toArray, List.set_cons_zero, List.set_cons_succ]
        refine wpAnyH_take (i := 6) (oi := { dst := some 73, op := Op.slice 31 (Operand.tmp 71) none (some (Operand.tmp 72)) none, type := 31, pos := "bytes.go:672", after := #[{ on := 4, ground := Ground.data }, { on := 5, ground := Ground.data }], guard := none }) (v := ?_) rfl (by kernel_rfl) (by kernel_rfl) (by kernel_rfl) (fun _ _ _ h => h) (Or.inl ⟨by rfl, ?_⟩) (by assumption) ?_
        rotate_left 1
        · intro ws hSw; (try dsimp only at hSw); go_simp; all_goals with_reducible rfl
        simp only [Act.put, List.setIfInBounds_toArray, List.set_cons_zero, List.set_cons_succ]
        refine wpAnyH_ready (rs := [7]) (by kernel_rfl) (by simp) ?_
        refine AllReadyH.cons (o := { dst := some 74, op := Op.call { callee := Callee.builtin Builtin.copy, args := #[Operand.tmp 70, Operand.tmp 73], argTypes := #[31, 31] }, type := 3, pos := "bytes.go:672", after := #[{ on := 3, ground := Ground.data }, { on := 6, ground := Ground.data }], guard := none }) rfl (fun K hK => ?_) AllReadyH.nil
        (refine step_copy_splice (by rfl) (.tmp 70) (.tmp 73) 31 31 (by rfl) 5 Try.underlying31 size_u8 (some ⟨G, k, none⟩) (some ⟨G, 0, none⟩) (64 - k) (64 - k) k 64 (by rfl) (by rfl) G k cur 5 (show wr.drew.heap[G]? = some (.cells cur.toArray 5 (0, 0)) from HCU.out) (List.replicate k (.int .u8 (x : Int))) (by rw [List.length_replicate]; exact (Nat.min_eq_left (by omega)).symm) (fun _ => ⟨rfl, ⟨G, 0, none⟩, rfl, fun j v hj => by obtain ⟨h1, rfl⟩ := rep_at hj; rw [add_addr, cell_of_row _ _ _ _ _ _ (show wr.drew.heap[G]? = some (.cells cur.toArray 5 (0, 0)) from HCU.out), Nat.zero_add, List.getElem?_toArray]; exact HAT.out j h1⟩) (by simp; omega) (rep_one k x) G w HB.out.drew (Nat.le_refl _) ?_; intro w3 hx3 hb3)
        refine hK.out _ _ ?_ (fun hHeld => ?_)
        · (first | exact Lib.hid HB.out.drew | exact Lib.hid hb3)
        clear hK K
        try simp only [Act.put, List.setIfInBounds_toArray, List.set_cons_zero, List.set_cons_succ]
        refine wpAnyH_take (i := 8) (oi := { dst := some 75, op := Op.binOp BinOp.add 3 (Operand.tmp 67) (Operand.tmp 74) 3, type := 3, pos := "bytes.go:672", after := #[{ on := 0, ground := Ground.data }, { on := 7, ground := Ground.data }], guard := none }) (v := ?_) rfl (by kernel_rfl) (by kernel_rfl) (by kernel_rfl) (fun _ _ _ h => h) (Or.inl ⟨by rfl, ?_⟩) (by assumption) ?_
        rotate_left 1
        · intro ws hSw; (try dsimp only at hSw); go_simp; all_goals with_reducible rfl
        simp only [Act.put, List.setIfInBounds_toArray, List.set_cons_zero, List.set_cons_succ]
        refine wpAnyH_take (i := 9) (oi := { dst := some 10, op := Op.assign (Operand.tmp 75), type := 3, pos := "bytes.go:672", after := #[{ on := 8, ground := Ground.data }, { on := 7, ground := Ground.chain }, { on := 0, ground := Ground.phase }, { on := 1, ground := Ground.phase }, { on := 2, ground := Ground.phase }, { on := 3, ground := Ground.phase }, { on := 4, ground := Ground.phase }, { on := 5, ground := Ground.phase }, { on := 6, ground := Ground.phase }, { on := 7, ground := Ground.phase }, { on := 8, ground := Ground.phase }], guard := none }) (v := ?_) rfl (by kernel_rfl) (by kernel_rfl) (by kernel_rfl) (fun _ _ _ h => h) (Or.inl ⟨by rfl, ?_⟩) (by assumption) ?_
        rotate_left 1
        · intro ws hSw; (try dsimp only at hSw); go_simp; all_goals with_reducible rfl
        simp only [Act.put, List.setIfInBounds_toArray, List.set_cons_zero, List.set_cons_succ]
        refine wpAnyH_done (by kernel_rfl) ?_ _
        all_goals
          go_wp2_with fail
          go_roundw
          case rel => exact ⟨k + k, by first | rfl | go_num, by omega, by omega, ⟨_, hx3.out, HSQ.out.1, HSQ.out.2⟩, hb3⟩
          case measure => simp [intOf]; omega
      · have hwp : IntKind.i64.wrap ((k : Int) + ((64 - k : Nat) : Int)) = ((64 : Nat) : Int) := by rw [IntKind.wrap_i64]; omega
        have HSQ := Lib.hid (splice_rep (x := x) (n := k) (m := 64 - k) h64 (by omega) HAT.out)
        go_upto_region 20 with (fail)
        refine wp_region_held_drew (S := (fun w' => Hid (Below G w w'))) (by kernel_rfl) ?_ (fun hHeld => ?_)
        · (first | exact Lib.hid HB.out.drew | exact Lib.hid hb3)
        refine wpAnyH_take (i := 0) (oi := { dst := some 67, op := Op.move (Operand.tmp 10), type := 3, pos := "bytes.go:672", after := #[], guard := none }) (v := ?_) rfl (by kernel_rfl) (by kernel_rfl) (by kernel_rfl) (fun _ _ _ h => h) (Or.inl ⟨by rfl, ?_⟩) (by assumption) ?_
        rotate_left 1
        · intro ws hSw; (try dsimp only at hSw); go_simp; all_goals with_reducible rfl
        simp only [Act.put, List.setIfInBounds_toArray, List.set_cons_zero, List.set_cons_succ]
        refine wpAnyH_take (i := 1) (oi := { dst := some 68, op := Op.move (Operand.tmp 9), type := 31, pos := "bytes.go:672", after := #[], guard := none }) (v := ?_) rfl (by kernel_rfl) (by kernel_rfl) (by kernel_rfl) (fun _ _ _ h => h) (Or.inl ⟨by rfl, ?_⟩) (by assumption) ?_
        rotate_left 1
        · intro ws hSw; (try dsimp only at hSw); go_simp; all_goals with_reducible rfl
        simp only [Act.put, List.setIfInBounds_toArray, List.set_cons_zero, List.set_cons_succ]
        refine wpAnyH_take (i := 2) (oi := { dst := some 69, op := Op.move (Operand.tmp 10), type := 3, pos := "bytes.go:672", after := #[], guard := none }) (v := ?_) rfl (by kernel_rfl) (by kernel_rfl) (by kernel_rfl) (fun _ _ _ h => h) (Or.inl ⟨by rfl, ?_⟩) (by assumption) ?_
        rotate_left 1
        · intro ws hSw; (try dsimp only at hSw); go_simp; all_goals with_reducible rfl
        simp only [Act.put, List.setIfInBounds_toArray, List.set_cons_zero, List.set_cons_succ]
        refine wpAnyH_take (i := 3) (oi := { dst := some 70, op := Op.slice 31 (Operand.tmp 68) (some (Operand.tmp 69)) none none, type := 31, pos := "bytes.go:672", after := #[{ on := 1, ground := Ground.data }, { on := 2, ground := Ground.data }], guard := none }) (v := ?_) rfl (by kernel_rfl) (by kernel_rfl) (by kernel_rfl) (fun _ _ _ h => h) (Or.inl ⟨by rfl, ?_⟩) (by assumption) ?_
        rotate_left 1
        · intro ws hSw; (try dsimp only at hSw); go_simp; all_goals with_reducible rfl
        simp only [Act.put, List.setIfInBounds_toArray, List.set_cons_zero, List.set_cons_succ]
        refine wpAnyH_take (i := 4) (oi := { dst := some 71, op := Op.move (Operand.tmp 9), type := 31, pos := "bytes.go:672", after := #[], guard := none }) (v := ?_) rfl (by kernel_rfl) (by kernel_rfl) (by kernel_rfl) (fun _ _ _ h => h) (Or.inl ⟨by rfl, ?_⟩) (by assumption) ?_
        rotate_left 1
        · intro ws hSw; (try dsimp only at hSw); go_simp; all_goals with_reducible rfl
        simp only [Act.put, List.setIfInBounds_toArray, List.set_cons_zero, List.set_cons_succ]
        refine wpAnyH_take (i := 5) (oi := { dst := some 72, op := Op.move (Operand.tmp 11), type := 3, pos := "bytes.go:672", after := #[], guard := none }) (v := ?_) rfl (by kernel_rfl) (by kernel_rfl) (by kernel_rfl) (fun _ _ _ h => h) (Or.inl ⟨by rfl, ?_⟩) (by assumption) ?_
        rotate_left 1
        · intro ws hSw; (try dsimp only at hSw); go_simp; all_goals with_reducible rfl
        simp only [Act.put, List.setIfInBounds_toArray, List.set_cons_zero, List.set_cons_succ]
        refine wpAnyH_take (i := 6) (oi := { dst := some 73, op := Op.slice 31 (Operand.tmp 71) none (some (Operand.tmp 72)) none, type := 31, pos := "bytes.go:672", after := #[{ on := 4, ground := Ground.data }, { on := 5, ground := Ground.data }], guard := none }) (v := ?_) rfl (by kernel_rfl) (by kernel_rfl) (by kernel_rfl) (fun _ _ _ h => h) (Or.inl ⟨by rfl, ?_⟩) (by assumption) ?_
        rotate_left 1
        · intro ws hSw; (try dsimp only at hSw); go_simp; all_goals with_reducible rfl
        simp only [Act.put, List.setIfInBounds_toArray, List.set_cons_zero, List.set_cons_succ]
        refine wpAnyH_ready (rs := [7]) (by kernel_rfl) (by simp) ?_
        refine AllReadyH.cons (o := { dst := some 74, op := Op.call { callee := Callee.builtin Builtin.copy, args := #[Operand.tmp 70, Operand.tmp 73], argTypes := #[31, 31] }, type := 3, pos := "bytes.go:672", after := #[{ on := 3, ground := Ground.data }, { on := 6, ground := Ground.data }], guard := none }) rfl (fun K hK => ?_) AllReadyH.nil
        (refine step_copy_splice (by rfl) (.tmp 70) (.tmp 73) 31 31 (by rfl) 5 Try.underlying31 size_u8 (some ⟨G, k, none⟩) (some ⟨G, 0, none⟩) (64 - k) (64 - k) k 64 (by rfl) (by rfl) G k cur 5 (show wr.drew.heap[G]? = some (.cells cur.toArray 5 (0, 0)) from HCU.out) (List.replicate (64 - k) (.int .u8 (x : Int))) (by rw [List.length_replicate]; exact (Nat.min_eq_right (by omega)).symm) (fun _ => ⟨rfl, ⟨G, 0, none⟩, rfl, fun j v hj => by obtain ⟨h1, rfl⟩ := rep_at hj; rw [add_addr, cell_of_row _ _ _ _ _ _ (show wr.drew.heap[G]? = some (.cells cur.toArray 5 (0, 0)) from HCU.out), Nat.zero_add, List.getElem?_toArray]; exact HAT.out j (by omega)⟩) (by simp; omega) (rep_one (64 - k) x) G w HB.out.drew (Nat.le_refl _) ?_; intro w3 hx3 hb3)
        refine hK.out _ _ ?_ (fun hHeld => ?_)
        · (first | exact Lib.hid HB.out.drew | exact Lib.hid hb3)
        clear hK K
        try simp only [Act.put, List.setIfInBounds_toArray, List.set_cons_zero, List.set_cons_succ]
        refine wpAnyH_take (i := 8) (oi := { dst := some 75, op := Op.binOp BinOp.add 3 (Operand.tmp 67) (Operand.tmp 74) 3, type := 3, pos := "bytes.go:672", after := #[{ on := 0, ground := Ground.data }, { on := 7, ground := Ground.data }], guard := none }) (v := ?_) rfl (by kernel_rfl) (by kernel_rfl) (by kernel_rfl) (fun _ _ _ h => h) (Or.inl ⟨by rfl, ?_⟩) (by assumption) ?_
        rotate_left 1
        · intro ws hSw; (try dsimp only at hSw); go_simp; all_goals with_reducible rfl
        simp only [Act.put, List.setIfInBounds_toArray, List.set_cons_zero, List.set_cons_succ]
        refine wpAnyH_take (i := 9) (oi := { dst := some 10, op := Op.assign (Operand.tmp 75), type := 3, pos := "bytes.go:672", after := #[{ on := 8, ground := Ground.data }, { on := 7, ground := Ground.chain }, { on := 0, ground := Ground.phase }, { on := 1, ground := Ground.phase }, { on := 2, ground := Ground.phase }, { on := 3, ground := Ground.phase }, { on := 4, ground := Ground.phase }, { on := 5, ground := Ground.phase }, { on := 6, ground := Ground.phase }, { on := 7, ground := Ground.phase }, { on := 8, ground := Ground.phase }], guard := none }) (v := ?_) rfl (by kernel_rfl) (by kernel_rfl) (by kernel_rfl) (fun _ _ _ h => h) (Or.inl ⟨by rfl, ?_⟩) (by assumption) ?_
        rotate_left 1
        · intro ws hSw; (try dsimp only at hSw); go_simp; all_goals with_reducible rfl
        simp only [Act.put, List.setIfInBounds_toArray, List.set_cons_zero, List.set_cons_succ]
        refine wpAnyH_done (by kernel_rfl) ?_ _
        all_goals
          go_wp2_with fail
          go_roundw
          case rel => exact ⟨64, by first | rfl | go_num, by omega, by omega, ⟨_, hx3.out, HSQ.out.1, by have := HSQ.out.2; rwa [show k + (64 - k) = 64 from by omega] at this⟩, hb3⟩
          case measure => simp [intOf]; omega
    · obtain rfl : k = 64 := by omega
      go_wp2_with fail
      go_ret
      obtain ⟨cur, hcur, h64, hat⟩ := HBK.out
      have hlt := (Array.getElem?_eq_some_iff.1 hcur).1
      refine ⟨_, rfl, .inr ⟨G, 64, by simp, by rw [HG.out]; exact Nat.le_refl _, fun _ => hlt, by simp, by unfold maxLen; omega, fun j hj => ?_, fun j hj => ⟨?_, frozen_of_row _ _ _ _ _ hcur⟩⟩, by rw [← HG.out]; exact HB.out⟩
      · rw [List.length_replicate] at hj
        rw [cell_of_row _ _ _ _ _ _ hcur, List.getElem?_toArray, hat j hj]
        unfold bf
        rw [List.getElem?_replicate, if_pos hj]; rfl
      · rw [cell_of_row _ _ _ _ _ _ hcur, List.getElem?_toArray, List.getElem?_eq_getElem (by omega)]; rfl
end Go.Proofs.Ytmpbimechgelfaa

/- The first calls of Sha's statements answer as they say. -/
import Derived.Test.YtmpbimechgelfaaTree
import Derived.Lib.SlBytesConst
import Derived.Great.BuildSlice
namespace Go.Proofs.Ytmpbimechgelfaa
open Go Go.RowKit

def abc : List Nat := [97, 98, 99]
set_option maxRecDepth 100000 in
theorem ev_sum : (sumH abc 0 = 186 ∧ sumH abc 1 = 120 ∧ sumH abc 2 = 22) ∧ sumH [] 0 = 227 ∧ sumH [] 1 = 176 := by decide +kernel
set_option maxRecDepth 100000 in
theorem ev_code : eqh (codeH [] []) (sumH []) = false := by decide +kernel
theorem box_cell {w : World} {g t : Nat} {h : Nat → Nat} (hg : w.heap[g]? = some (.cells (hc h) t (0, 0))) {j : Nat} (hj : j < 32) : w.cell? ⟨g, j, none⟩ = some (.int .u8 ((h j : Nat) : Int)) := by
  rw [cell_of_row _ _ _ _ _ _ hg]; exact hc_get h hj
theorem box_range {w : World} {g t : Nat} {C : Array Value} (hg : w.heap[g]? = some (.cells C t (0, 0))) : w.rangeAt g 0 C.toList := by
  intro j v hv
  rw [Nat.zero_add, cell_of_row _ _ _ _ _ _ hg, ← Array.getElem?_toList]; exact hv
theorem info_h : (Try.prog.info? 33).map (fun i => (i.zero, i.size, i.bytes)) = some (some (.agg (hc fun _ => 0)), 32, 32) := by kernel_rfl
set_option maxRecDepth 100000 in
theorem fill_hash (f : Nat → Nat) : Instr.fill (fun i => some (i * 32, 32)) ((Array.range (1 * 32)).map ((Value.agg (hc fun _ => 0)).cells[· % (Value.agg (hc fun _ => 0)).cells.size]!)) [(0, Value.agg (hc f))] = some (hc f) := by
  have h := Great.fill_whole (s := 32) (by omega) [Value.agg (hc f)] ((Array.range (1 * 32)).map ((Value.agg (hc fun _ => 0)).cells[· % (Value.agg (hc fun _ => 0)).cells.size]!)) (by intro v hv; simp at hv; subst hv; exact hc_size f) (by simp)
  exact h
/-- A slice of one hash, built. -/
theorem wp_bs_hash {o : Oper} {a : Act} {w : World} {K : Act → World → Prop} {Q : Exit → Act → World → Prop} (x : Operand) (ho : o.op = .buildSlice 32 1 #[(0, x)]) (f : Nat → Nat) (C : Array Value) (hC : C = hc f) (hx : a.eval x = .agg C)
    (h : K (a.put o.dst (.slice (some ⟨w.heap.size, 0, none⟩) 1 1)) (w.alloc (.cells C 33))) : o.wp Try.prog a w K Q := by
  obtain ⟨i0, hi0, hz0, hz1, hz2⟩ := info_parts info_h
  refine wp_buildSlice 32 33 1 _ ho C i0 _ Try.underlying32 hi0 hz0 (by rw [hz1]; decide) (by rw [hz1]; decide) ?_ h
  have e : (#[(0, x)].map fun (i, x) => (i, a.eval x)).toList = [(0, Value.agg (hc f))] := by simp [hx, hC]
  rw [e, hC, hz1]
  exact fill_hash f
theorem hs_one {w : World} {g t B : Nat} {h : Nat → Nat} (hg : w.heap[g]? = some (.cells (hc h) t (0, 0))) (hB : g < B) : Hs w B (some ⟨g, 0, none⟩) [h] := fun _ =>
  ⟨g, 0, rfl, hB, fun j hj => by
    have hj32 : j < 32 := by simpa using hj
    rw [Nat.zero_add, box_cell hg hj32]
    unfold hf
    rw [show j / 32 = 0 from by omega, show j % 32 = j from by omega]
    rfl⟩
set_option maxRecDepth 100000 in
set_option maxHeartbeats 8000000 in
theorem awake_any (w : World) : Calls Try.prog 28 #[] w fun e w' => e = .returned (.bool true) ∧ Below w.heap.size w w' := by
  have hcv := Lib.run_convert_bytes_const (P := Try.prog) w 31 5 #[.int .u8 97, .int .u8 98, .int .u8 99] 3 3 Try.underlying31 Try.underlying5
  go_enter Try.func28, Try.ntmps28
  go_upto_region 1 with (fail)
  refine wp_region_list ?_
  repeat (first | go_values | go_skip | go_guarded | go_step | go_upon)
  obtain ⟨W0, hW0⟩ : ∃ W, W = w.alloc (.cells #[.int .u8 97, .int .u8 98, .int .u8 99] 5 (3, 4)) := ⟨_, rfl⟩
  have hs0 : W0.heap.size = w.heap.size + 1 := by rw [hW0]; simp
  have HB0 := Lib.hid (show Below w.heap.size w W0 from by rw [hW0]; exact (by repeat (first | exact Below.refl _ _ | assumption | refine below_drewN ?_ _ | refine Below.drew ?_ | refine Below.alloc ?_ (by simp; try omega) _ | refine Below.setCell ?_ (by simp; try omega) _)))
  have HAB := Lib.hid (show Bs W0 W0.heap.size (some ⟨w.heap.size, 0, none⟩) abc from fun _ => ⟨_, 0, rfl, by omega, fun j hj => by
    have hj3 : j < 3 := by simpa [abc] using hj
    rw [Nat.zero_add, hW0, cell_of_row _ _ _ _ _ _ (heap_alloc_new w _)]
    match j, hj3 with
    | 0, _ => rfl
    | 1, _ => rfl
    | 2, _ => rfl⟩)
  rw [← hW0, ← hs0]
  clear hW0 hcv
  refine (sum_any _ 1 _ _ _ (Prt.one (t := 31) (c := 3) HAB.out (by unfold Byt abc; decide)) (by simp) (by simp) (by simp [abc])).mono ?_
  rintro e w1 ⟨rfl, hb1⟩
  obtain ⟨C1, hC1⟩ : ∃ C, C = hc (sumH abc) := ⟨_, rfl⟩
  rw [show hc (sumH [abc].flatten) = C1 from by rw [hC1]; simp]
  have HC1s := Lib.hid (show (Try.prog.info? 33).map (·.size) = some C1.size from by rw [hC1]; exact size_hc)
  have HC1a := Lib.hid (show C1.all (·.oneCell') = true from by rw [hC1]; exact hc_all _)
  have HC1z := Lib.hid (show (hc fun _ => 0).size = C1.size from by rw [hC1, hc_size, hc_size])
  have HC1 := Lib.hid hC1
  have HB1 := Lib.hid (show Below w.heap.size w w1 from below_chain HB0.out (below_chain ((Below.refl _ _).alloc (Nat.le_refl _) _) hb1))
  clear hC1 hb1 HAB HB0
  dsimp only
  repeat (first
    | refine wpList_store_row (by rfl) 33 (.tmp 1) (.tmp 6) (by rfl) w1.heap.size C1 (by rfl) (by rfl) 33 (hc fun _ => 0) (by exact heap_alloc_new w1 _) HC1s.out HC1z.out HC1a.out ?_
    | go_values | go_skip | go_guarded | go_step | go_upon)
  obtain ⟨W2, hW2⟩ : ∃ W, W = (w1.alloc (.cells (hc fun _ => 0) 33)).setRow w1.heap.size C1 := ⟨_, rfl⟩
  change Calls _ _ _ ((w1.alloc (.cells (hc fun _ => 0) 33)).setRow w1.heap.size C1) _
  rw [← hW2]
  have HX1 := Lib.hid (box_made hW2).1
  have HB2 := Lib.hid (show Below w.heap.size w W2 from below_chain HB1.out (box_made hW2).2)
  obtain ⟨g1, hg1⟩ : ∃ g, g = w1.heap.size := ⟨_, rfl⟩
  rw [← hg1] at HX1 ⊢
  clear hW2 hg1 HB1
  refine (sum_any none 0 [] [] W2 (Prt.none _) (by simp) (by simp) (by simp)).mono ?_
  rintro e w3 ⟨rfl, hb3⟩
  obtain ⟨C2, hC2⟩ : ∃ C, C = hc (sumH []) := ⟨_, rfl⟩
  rw [show hc (sumH ([] : List (List Nat)).flatten) = C2 from by rw [hC2]; simp]
  have HC2s := Lib.hid (show (Try.prog.info? 33).map (·.size) = some C2.size from by rw [hC2]; exact size_hc)
  have HC2a := Lib.hid (show C2.all (·.oneCell') = true from by rw [hC2]; exact hc_all _)
  have HC2z := Lib.hid (show (hc fun _ => 0).size = C2.size from by rw [hC2, hc_size, hc_size])
  have HC2 := Lib.hid hC2
  have HX3 := Lib.hid (show w3.heap[g1]? = some (.cells C1 33 (0, 0)) from (hb3.block _ (Array.getElem?_eq_some_iff.1 HX1.out).1).trans HX1.out)
  have HB3 := Lib.hid (show Below w.heap.size w w3 from below_chain HB2.out hb3)
  clear hC2 hb3 HB2 HX1
  dsimp only
  repeat (first
    | refine wpList_store_row (by rfl) 33 (.tmp 2) (.tmp 7) (by rfl) w3.heap.size C2 (by rfl) (by rfl) 33 (hc fun _ => 0) (by exact heap_alloc_new w3 _) HC2s.out HC2z.out HC2a.out ?_
    | go_values | go_skip | go_guarded | go_step | go_upon)
  obtain ⟨W4, hW4⟩ : ∃ W, W = (w3.alloc (.cells (hc fun _ => 0) 33)).setRow w3.heap.size C2 := ⟨_, rfl⟩
  change Code.wp _ _ _ _ ((w3.alloc (.cells (hc fun _ => 0) 33)).setRow w3.heap.size C2)
  rw [← hW4]
  have HX2 := Lib.hid (box_made hW4).1
  have hlt1 := (Array.getElem?_eq_some_iff.1 HX3.out).1
  have HX1 := Lib.hid (show W4.heap[g1]? = some (.cells C1 33 (0, 0)) from ((box_made hW4).2.block _ hlt1).trans HX3.out)
  have HB4 := Lib.hid (show Below w.heap.size w W4 from below_chain HB3.out (box_made hW4).2)
  obtain ⟨g2, hg2⟩ : ∃ g, g = w3.heap.size := ⟨_, rfl⟩
  rw [← hg2] at HX2 ⊢
  clear hW4 hg2 HB3 HX3
  have hl1 := (Array.getElem?_eq_some_iff.1 HX1.out).1
  have hl2 := (Array.getElem?_eq_some_iff.1 HX2.out).1
  have HR1 := Lib.hid (fun (W : World) (hb : Below W4.heap.size W4 W) => (hb.block _ hl1).trans HX1.out)
  have HR2 := Lib.hid (fun (W : World) (hb : Below W4.heap.size W4 W) => (hb.block _ hl2).trans HX2.out)
  have HSS := Lib.hid (fun (W : World) (hb : Below W4.heap.size W4 W) => show ((W.cell? ⟨g1, 0, none⟩ = some (.int .u8 186) ∧ W.cell? ⟨g1, 1, none⟩ = some (.int .u8 120) ∧ W.cell? ⟨g1, 2, none⟩ = some (.int .u8 22) ∧ W.cell? ⟨g2, 0, none⟩ = some (.int .u8 227) ∧ W.cell? ⟨g2, 1, none⟩ = some (.int .u8 176)) ∧ Hid (Below W4.heap.size W4 W)) from by
    have h1 := HR1.out W hb
    have h2 := HR2.out W hb
    rw [HC1.out] at h1
    rw [HC2.out] at h2
    obtain ⟨⟨e1, e2, e3⟩, e4, e5⟩ := ev_sum
    refine ⟨⟨?_, ?_, ?_, ?_, ?_⟩, Lib.hid hb⟩
    · rw [box_cell h1 (by omega), e1]; rfl
    · rw [box_cell h1 (by omega), e2]; rfl
    · rw [box_cell h1 (by omega), e3]; rfl
    · rw [box_cell h2 (by omega), e4]; rfl
    · rw [box_cell h2 (by omega), e5]; rfl)
  have hev1 : ∀ W, (Op.equalIn 10000 33 (.agg C2) (.agg C2)).run Try.prog W = .ok true W := fun W => by rw [HC2.out, eq_hash, eqh_self]
  have hev2 : ∀ W, (Op.equalIn 10000 33 (.agg C1) (.agg C1)).run Try.prog W = .ok true W := fun W => by rw [HC1.out, eq_hash, eqh_self]
  obtain ⟨C3, hC3⟩ : ∃ C, C = hc (codeH [] []) := ⟨_, rfl⟩
  have hev3 : ∀ W, (Op.equalIn 10000 33 (.agg C3) (.agg C2)).run Try.prog W = .ok false W := fun W => by rw [hC3, HC2.out, eq_hash, ev_code]
  have HC3 := Lib.hid hC3
  clear hC3 hlt1
  go_wp2_with fail
  refine wp_region_held_drew (S := (fun w' => (w'.cell? ⟨g1, 0, none⟩ = some (.int .u8 186) ∧ w'.cell? ⟨g1, 1, none⟩ = some (.int .u8 120) ∧ w'.cell? ⟨g1, 2, none⟩ = some (.int .u8 22) ∧ w'.cell? ⟨g2, 0, none⟩ = some (.int .u8 227) ∧ w'.cell? ⟨g2, 1, none⟩ = some (.int .u8 176)) ∧ Hid (Below W4.heap.size W4 w'))) (by kernel_rfl) ?_ (fun hHeld => ?_)
  · (exact HSS.out _ (by repeat (first | exact Below.refl _ _ | exact HBK.out | refine Below.drew ?_ | refine Below.alloc ?_ (by have := HBK.out.size; first | exact this | (simp; omega)) _)))
  refine wpAnyH_take (i := 0) (oi := { dst := some 8, op := Op.indexAddr 33 (Operand.tmp 1) (Operand.const (Value.int IntKind.i64 0)), type := 0, pos := "law.go:13", after := #[], guard := none }) (v := ?_) rfl (by kernel_rfl) (by kernel_rfl) (by kernel_rfl) (fun _ _ _ h => h) (Or.inl ⟨by rfl, ?_⟩) (by assumption) ?_
  rotate_left 1
  · intro ws hSw; (try dsimp only at hSw); go_simp; all_goals with_reducible rfl
  simp only [Act.put, List.setIfInBounds_toArray, List.set_cons_zero, List.set_cons_succ]
  refine wpAnyH_take (i := 1) (oi := { dst := some 9, op := Op.load 5 (Operand.tmp 8), type := 5, pos := "law.go:13", after := #[{ on := 0, ground := Ground.data }], guard := none }) (v := ?_) rfl (by kernel_rfl) (by kernel_rfl) (by kernel_rfl) (fun _ _ _ h => h) (Or.inl ⟨by rfl, ?_⟩) (by assumption) ?_
  rotate_left 1
  · intro ws hSw; (try dsimp only at hSw); go_simp; all_goals with_reducible rfl
  simp only [Act.put, List.setIfInBounds_toArray, List.set_cons_zero, List.set_cons_succ]
  refine wpAnyH_take (i := 2) (oi := { dst := some 10, op := Op.binOp BinOp.eql 5 (Operand.tmp 9) (Operand.const (Value.int IntKind.u8 186)) 5, type := 4, pos := "law.go:13", after := #[{ on := 1, ground := Ground.data }], guard := none }) (v := ?_) rfl (by kernel_rfl) (by kernel_rfl) (by kernel_rfl) (fun _ _ _ h => h) (Or.inl ⟨by rfl, ?_⟩) (by assumption) ?_
  rotate_left 1
  · intro ws hSw; (try dsimp only at hSw); go_simp; all_goals with_reducible rfl
  simp only [Act.put, List.setIfInBounds_toArray, List.set_cons_zero, List.set_cons_succ]
  refine wpAnyH_take (i := 3) (oi := { dst := some 11, op := Op.move (Operand.tmp 10), type := 4, pos := "law.go:13", after := #[{ on := 2, ground := Ground.data }], guard := none }) (v := ?_) rfl (by kernel_rfl) (by kernel_rfl) (by kernel_rfl) (fun _ _ _ h => h) (Or.inl ⟨by rfl, ?_⟩) (by assumption) ?_
  rotate_left 1
  · intro ws hSw; (try dsimp only at hSw); go_simp; all_goals with_reducible rfl
  simp only [Act.put, List.setIfInBounds_toArray, List.set_cons_zero, List.set_cons_succ]
  refine wpAnyH_take (i := 4) (oi := { dst := some 12, op := Op.indexAddr 33 (Operand.tmp 1) (Operand.const (Value.int IntKind.i64 1)), type := 0, pos := "law.go:13", after := #[{ on := 3, ground := Ground.guard }], guard := some (3, true) }) (v := ?_) rfl (by kernel_rfl) (by kernel_rfl) (by kernel_rfl) (fun _ _ _ h => h) (Or.inl ⟨by rfl, ?_⟩) (by assumption) ?_
  rotate_left 1
  · intro ws hSw; (try dsimp only at hSw); go_simp; all_goals with_reducible rfl
  simp only [Act.put, List.setIfInBounds_toArray, List.set_cons_zero, List.set_cons_succ]
  refine wpAnyH_take (i := 5) (oi := { dst := some 13, op := Op.load 5 (Operand.tmp 12), type := 5, pos := "law.go:13", after := #[{ on := 4, ground := Ground.data }, { on := 3, ground := Ground.guard }], guard := some (3, true) }) (v := ?_) rfl (by kernel_rfl) (by kernel_rfl) (by kernel_rfl) (fun _ _ _ h => h) (Or.inl ⟨by rfl, ?_⟩) (by assumption) ?_
  rotate_left 1
  · intro ws hSw; (try dsimp only at hSw); go_simp; all_goals with_reducible rfl
  simp only [Act.put, List.setIfInBounds_toArray, List.set_cons_zero, List.set_cons_succ]
  refine wpAnyH_take (i := 6) (oi := { dst := some 14, op := Op.binOp BinOp.eql 5 (Operand.tmp 13) (Operand.const (Value.int IntKind.u8 120)) 5, type := 4, pos := "law.go:13", after := #[{ on := 5, ground := Ground.data }, { on := 3, ground := Ground.guard }], guard := some (3, true) }) (v := ?_) rfl (by kernel_rfl) (by kernel_rfl) (by kernel_rfl) (fun _ _ _ h => h) (Or.inl ⟨by rfl, ?_⟩) (by assumption) ?_
  rotate_left 1
  · intro ws hSw; (try dsimp only at hSw); go_simp; all_goals with_reducible rfl
  simp only [Act.put, List.setIfInBounds_toArray, List.set_cons_zero, List.set_cons_succ]
  refine wpAnyH_take (i := 7) (oi := { dst := some 15, op := Op.pick (Operand.tmp 11) (Operand.tmp 14) (Operand.const (Value.bool false)), type := 4, pos := "law.go:13", after := #[{ on := 3, ground := Ground.data }, { on := 6, ground := Ground.data }], guard := none }) (v := ?_) rfl (by kernel_rfl) (by kernel_rfl) (by kernel_rfl) (fun _ _ _ h => h) (Or.inl ⟨by rfl, ?_⟩) (by assumption) ?_
  rotate_left 1
  · intro ws hSw; (try dsimp only at hSw); go_simp; all_goals with_reducible rfl
  simp only [Act.put, List.setIfInBounds_toArray, List.set_cons_zero, List.set_cons_succ]
  refine wpAnyH_take (i := 8) (oi := { dst := some 16, op := Op.move (Operand.tmp 15), type := 4, pos := "law.go:13", after := #[{ on := 7, ground := Ground.data }, { on := 3, ground := Ground.chain }], guard := none }) (v := ?_) rfl (by kernel_rfl) (by kernel_rfl) (by kernel_rfl) (fun _ _ _ h => h) (Or.inl ⟨by rfl, ?_⟩) (by assumption) ?_
  rotate_left 1
  · intro ws hSw; (try dsimp only at hSw); go_simp; all_goals with_reducible rfl
  simp only [Act.put, List.setIfInBounds_toArray, List.set_cons_zero, List.set_cons_succ]
  refine wpAnyH_take (i := 9) (oi := { dst := some 17, op := Op.indexAddr 33 (Operand.tmp 1) (Operand.const (Value.int IntKind.i64 2)), type := 0, pos := "law.go:13", after := #[{ on := 8, ground := Ground.guard }], guard := some (8, true) }) (v := ?_) rfl (by kernel_rfl) (by kernel_rfl) (by kernel_rfl) (fun _ _ _ h => h) (Or.inl ⟨by rfl, ?_⟩) (by assumption) ?_
  rotate_left 1
  · intro ws hSw; (try dsimp only at hSw); go_simp; all_goals with_reducible rfl
  simp only [Act.put, List.setIfInBounds_toArray, List.set_cons_zero, List.set_cons_succ]
  refine wpAnyH_take (i := 10) (oi := { dst := some 18, op := Op.load 5 (Operand.tmp 17), type := 5, pos := "law.go:13", after := #[{ on := 9, ground := Ground.data }, { on := 8, ground := Ground.guard }], guard := some (8, true) }) (v := ?_) rfl (by kernel_rfl) (by kernel_rfl) (by kernel_rfl) (fun _ _ _ h => h) (Or.inl ⟨by rfl, ?_⟩) (by assumption) ?_
  rotate_left 1
  · intro ws hSw; (try dsimp only at hSw); go_simp; all_goals with_reducible rfl
  simp only [Act.put, List.setIfInBounds_toArray, List.set_cons_zero, List.set_cons_succ]
  refine wpAnyH_take (i := 11) (oi := { dst := some 19, op := Op.binOp BinOp.eql 5 (Operand.tmp 18) (Operand.const (Value.int IntKind.u8 22)) 5, type := 4, pos := "law.go:13", after := #[{ on := 10, ground := Ground.data }, { on := 8, ground := Ground.guard }], guard := some (8, true) }) (v := ?_) rfl (by kernel_rfl) (by kernel_rfl) (by kernel_rfl) (fun _ _ _ h => h) (Or.inl ⟨by rfl, ?_⟩) (by assumption) ?_
  rotate_left 1
  · intro ws hSw; (try dsimp only at hSw); go_simp; all_goals with_reducible rfl
  simp only [Act.put, List.setIfInBounds_toArray, List.set_cons_zero, List.set_cons_succ]
  refine wpAnyH_take (i := 12) (oi := { dst := some 20, op := Op.pick (Operand.tmp 16) (Operand.tmp 19) (Operand.const (Value.bool false)), type := 4, pos := "law.go:13", after := #[{ on := 8, ground := Ground.data }, { on := 11, ground := Ground.data }], guard := none }) (v := ?_) rfl (by kernel_rfl) (by kernel_rfl) (by kernel_rfl) (fun _ _ _ h => h) (Or.inl ⟨by rfl, ?_⟩) (by assumption) ?_
  rotate_left 1
  · intro ws hSw; (try dsimp only at hSw); go_simp; all_goals with_reducible rfl
  simp only [Act.put, List.setIfInBounds_toArray, List.set_cons_zero, List.set_cons_succ]
  refine wpAnyH_take (i := 13) (oi := { dst := some 21, op := Op.move (Operand.tmp 20), type := 4, pos := "law.go:13", after := #[{ on := 12, ground := Ground.data }, { on := 8, ground := Ground.chain }], guard := none }) (v := ?_) rfl (by kernel_rfl) (by kernel_rfl) (by kernel_rfl) (fun _ _ _ h => h) (Or.inl ⟨by rfl, ?_⟩) (by assumption) ?_
  rotate_left 1
  · intro ws hSw; (try dsimp only at hSw); go_simp; all_goals with_reducible rfl
  simp only [Act.put, List.setIfInBounds_toArray, List.set_cons_zero, List.set_cons_succ]
  refine wpAnyH_take (i := 14) (oi := { dst := some 22, op := Op.indexAddr 33 (Operand.tmp 2) (Operand.const (Value.int IntKind.i64 0)), type := 0, pos := "law.go:13", after := #[{ on := 13, ground := Ground.guard }], guard := some (13, true) }) (v := ?_) rfl (by kernel_rfl) (by kernel_rfl) (by kernel_rfl) (fun _ _ _ h => h) (Or.inl ⟨by rfl, ?_⟩) (by assumption) ?_
  rotate_left 1
  · intro ws hSw; (try dsimp only at hSw); go_simp; all_goals with_reducible rfl
  simp only [Act.put, List.setIfInBounds_toArray, List.set_cons_zero, List.set_cons_succ]
  refine wpAnyH_take (i := 15) (oi := { dst := some 23, op := Op.load 5 (Operand.tmp 22), type := 5, pos := "law.go:13", after := #[{ on := 14, ground := Ground.data }, { on := 13, ground := Ground.guard }], guard := some (13, true) }) (v := ?_) rfl (by kernel_rfl) (by kernel_rfl) (by kernel_rfl) (fun _ _ _ h => h) (Or.inl ⟨by rfl, ?_⟩) (by assumption) ?_
  rotate_left 1
  · intro ws hSw; (try dsimp only at hSw); go_simp; all_goals with_reducible rfl
  simp only [Act.put, List.setIfInBounds_toArray, List.set_cons_zero, List.set_cons_succ]
  refine wpAnyH_take (i := 16) (oi := { dst := some 24, op := Op.binOp BinOp.eql 5 (Operand.tmp 23) (Operand.const (Value.int IntKind.u8 227)) 5, type := 4, pos := "law.go:13", after := #[{ on := 15, ground := Ground.data }, { on := 13, ground := Ground.guard }], guard := some (13, true) }) (v := ?_) rfl (by kernel_rfl) (by kernel_rfl) (by kernel_rfl) (fun _ _ _ h => h) (Or.inl ⟨by rfl, ?_⟩) (by assumption) ?_
  rotate_left 1
  · intro ws hSw; (try dsimp only at hSw); go_simp; all_goals with_reducible rfl
  simp only [Act.put, List.setIfInBounds_toArray, List.set_cons_zero, List.set_cons_succ]
  refine wpAnyH_take (i := 17) (oi := { dst := some 25, op := Op.pick (Operand.tmp 21) (Operand.tmp 24) (Operand.const (Value.bool false)), type := 4, pos := "law.go:13", after := #[{ on := 13, ground := Ground.data }, { on := 16, ground := Ground.data }], guard := none }) (v := ?_) rfl (by kernel_rfl) (by kernel_rfl) (by kernel_rfl) (fun _ _ _ h => h) (Or.inl ⟨by rfl, ?_⟩) (by assumption) ?_
  rotate_left 1
  · intro ws hSw; (try dsimp only at hSw); go_simp; all_goals with_reducible rfl
  simp only [Act.put, List.setIfInBounds_toArray, List.set_cons_zero, List.set_cons_succ]
  refine wpAnyH_take (i := 18) (oi := { dst := some 26, op := Op.move (Operand.tmp 25), type := 4, pos := "law.go:13", after := #[{ on := 17, ground := Ground.data }, { on := 13, ground := Ground.chain }], guard := none }) (v := ?_) rfl (by kernel_rfl) (by kernel_rfl) (by kernel_rfl) (fun _ _ _ h => h) (Or.inl ⟨by rfl, ?_⟩) (by assumption) ?_
  rotate_left 1
  · intro ws hSw; (try dsimp only at hSw); go_simp; all_goals with_reducible rfl
  simp only [Act.put, List.setIfInBounds_toArray, List.set_cons_zero, List.set_cons_succ]
  refine wpAnyH_take (i := 19) (oi := { dst := some 27, op := Op.indexAddr 33 (Operand.tmp 2) (Operand.const (Value.int IntKind.i64 1)), type := 0, pos := "law.go:13", after := #[{ on := 18, ground := Ground.guard }], guard := some (18, true) }) (v := ?_) rfl (by kernel_rfl) (by kernel_rfl) (by kernel_rfl) (fun _ _ _ h => h) (Or.inl ⟨by rfl, ?_⟩) (by assumption) ?_
  rotate_left 1
  · intro ws hSw; (try dsimp only at hSw); go_simp; all_goals with_reducible rfl
  simp only [Act.put, List.setIfInBounds_toArray, List.set_cons_zero, List.set_cons_succ]
  refine wpAnyH_take (i := 20) (oi := { dst := some 28, op := Op.load 5 (Operand.tmp 27), type := 5, pos := "law.go:13", after := #[{ on := 19, ground := Ground.data }, { on := 18, ground := Ground.guard }], guard := some (18, true) }) (v := ?_) rfl (by kernel_rfl) (by kernel_rfl) (by kernel_rfl) (fun _ _ _ h => h) (Or.inl ⟨by rfl, ?_⟩) (by assumption) ?_
  rotate_left 1
  · intro ws hSw; (try dsimp only at hSw); go_simp; all_goals with_reducible rfl
  simp only [Act.put, List.setIfInBounds_toArray, List.set_cons_zero, List.set_cons_succ]
  refine wpAnyH_take (i := 21) (oi := { dst := some 29, op := Op.binOp BinOp.eql 5 (Operand.tmp 28) (Operand.const (Value.int IntKind.u8 176)) 5, type := 4, pos := "law.go:13", after := #[{ on := 20, ground := Ground.data }, { on := 18, ground := Ground.guard }], guard := some (18, true) }) (v := ?_) rfl (by kernel_rfl) (by kernel_rfl) (by kernel_rfl) (fun _ _ _ h => h) (Or.inl ⟨by rfl, ?_⟩) (by assumption) ?_
  rotate_left 1
  · intro ws hSw; (try dsimp only at hSw); go_simp; all_goals with_reducible rfl
  simp only [Act.put, List.setIfInBounds_toArray, List.set_cons_zero, List.set_cons_succ]
  refine wpAnyH_take (i := 22) (oi := { dst := some 30, op := Op.pick (Operand.tmp 26) (Operand.tmp 29) (Operand.const (Value.bool false)), type := 4, pos := "law.go:13", after := #[{ on := 18, ground := Ground.data }, { on := 21, ground := Ground.data }], guard := none }) (v := ?_) rfl (by kernel_rfl) (by kernel_rfl) (by kernel_rfl) (fun _ _ _ h => h) (Or.inl ⟨by rfl, ?_⟩) (by assumption) ?_
  rotate_left 1
  · intro ws hSw; (try dsimp only at hSw); go_simp; all_goals with_reducible rfl
  simp only [Act.put, List.setIfInBounds_toArray, List.set_cons_zero, List.set_cons_succ]
  refine wpAnyH_take (i := 23) (oi := { dst := some 31, op := Op.move (Operand.tmp 30), type := 4, pos := "law.go:13", after := #[{ on := 22, ground := Ground.data }, { on := 18, ground := Ground.chain }], guard := none }) (v := ?_) rfl (by kernel_rfl) (by kernel_rfl) (by kernel_rfl) (fun _ _ _ h => h) (Or.inl ⟨by rfl, ?_⟩) (by assumption) ?_
  rotate_left 1
  · intro ws hSw; (try dsimp only at hSw); go_simp; all_goals with_reducible rfl
  simp only [Act.put, List.setIfInBounds_toArray, List.set_cons_zero, List.set_cons_succ]
  refine wpAnyH_take (i := 25) (oi := { dst := some 33, op := Op.load 33 (Operand.tmp 2), type := 33, pos := "law.go:13", after := #[{ on := 23, ground := Ground.guard }], guard := some (23, true) }) (v := .agg C2) rfl (by kernel_rfl) (by kernel_rfl) (by kernel_rfl) (fun _ _ _ h => h) (by exact yieldsIf_load_mid (by rfl) 33 (.tmp 2) (by rfl) g2 0 (by rfl) C2.toList _ (fun w' hw' => box_range (HR2.out w' hw'.2.out)) Try.underlying33 (by rfl) (by rw [Array.length_toList]; exact HC2s.out)) (by assumption) ?_
  simp only [Act.put, List.setIfInBounds_toArray, List.set_cons_zero, List.set_cons_succ]
  refine wpAnyH_ready (rs := [24]) (by kernel_rfl) (by simp) ?_
  refine AllReadyH.cons (o := { dst := some 32, op := Op.call { callee := Callee.value (Operand.func 31), args := #[Operand.const (Value.slice none 0 0)], argTypes := #[32] }, type := 33, pos := "law.go:13", after := #[{ on := 23, ground := Ground.chain }, { on := 23, ground := Ground.guard }], guard := some (23, true) }) rfl (fun K hK => ?_) AllReadyH.nil
  go_simp
  (go_at_call 31; refine (tree_any 0 [] none 0 _ Rd.zero (by simp) (by simp) (by simp) (by simp) (by unfold maxLen; omega)).mono ?_; rintro e w5 ⟨rfl, hb5⟩; rw [show hc (treeF 0 []) = C2 from HC2.out.symm]; have HBK := Lib.hid (below_chain ((Below.refl W4.heap.size W4).drew) hb5); clear hb5)
  refine hK.out _ _ ?_ (fun hHeld => ?_)
  · (exact HSS.out _ (by repeat (first | exact Below.refl _ _ | exact HBK.out | refine Below.drew ?_ | refine Below.alloc ?_ (by have := HBK.out.size; first | exact this | (simp; omega)) _)))
  clear hK K
  refine wpAnyH_take (i := 26) (oi := { dst := some 34, op := Op.binOp BinOp.eql 33 (Operand.tmp 32) (Operand.tmp 33) 33, type := 4, pos := "law.go:13", after := #[{ on := 24, ground := Ground.data }, { on := 25, ground := Ground.data }, { on := 23, ground := Ground.guard }], guard := some (23, true) }) (v := ?_) rfl (by kernel_rfl) (by kernel_rfl) (by kernel_rfl) (fun _ _ _ h => h) (Or.inl ⟨by rfl, ?_⟩) (by assumption) ?_
  rotate_left 1
  · intro ws hSw; (try dsimp only at hSw); go_simp; all_goals with_reducible rfl
  simp only [Act.put, List.setIfInBounds_toArray, List.set_cons_zero, List.set_cons_succ]
  refine wpAnyH_take (i := 27) (oi := { dst := some 35, op := Op.pick (Operand.tmp 31) (Operand.tmp 34) (Operand.const (Value.bool false)), type := 4, pos := "law.go:13", after := #[{ on := 23, ground := Ground.data }, { on := 26, ground := Ground.data }], guard := none }) (v := ?_) rfl (by kernel_rfl) (by kernel_rfl) (by kernel_rfl) (fun _ _ _ h => h) (Or.inl ⟨by rfl, ?_⟩) (by assumption) ?_
  rotate_left 1
  · intro ws hSw; (try dsimp only at hSw); go_simp; all_goals with_reducible rfl
  simp only [Act.put, List.setIfInBounds_toArray, List.set_cons_zero, List.set_cons_succ]
  refine wpAnyH_take (i := 28) (oi := { dst := some 36, op := Op.move (Operand.tmp 35), type := 4, pos := "law.go:13", after := #[{ on := 27, ground := Ground.data }, { on := 24, ground := Ground.chain }], guard := none }) (v := ?_) rfl (by kernel_rfl) (by kernel_rfl) (by kernel_rfl) (fun _ _ _ h => h) (Or.inl ⟨by rfl, ?_⟩) (by assumption) ?_
  rotate_left 1
  · intro ws hSw; (try dsimp only at hSw); go_simp; all_goals with_reducible rfl
  simp only [Act.put, List.setIfInBounds_toArray, List.set_cons_zero, List.set_cons_succ]
  refine wpAnyH_take (i := 29) (oi := { dst := some 37, op := Op.load 33 (Operand.tmp 1), type := 33, pos := "law.go:13", after := #[{ on := 28, ground := Ground.guard }], guard := some (28, true) }) (v := .agg C1) rfl (by kernel_rfl) (by kernel_rfl) (by kernel_rfl) (fun _ _ _ h => h) (by exact yieldsIf_load_mid (by rfl) 33 (.tmp 1) (by rfl) g1 0 (by rfl) C1.toList _ (fun w' hw' => box_range (HR1.out w' hw'.2.out)) Try.underlying33 (by rfl) (by rw [Array.length_toList]; exact HC1s.out)) (by assumption) ?_
  simp only [Act.put, List.setIfInBounds_toArray, List.set_cons_zero, List.set_cons_succ]
  refine wpAnyH_take (i := 32) (oi := { dst := some 40, op := Op.load 33 (Operand.tmp 1), type := 33, pos := "law.go:13", after := #[{ on := 28, ground := Ground.guard }], guard := some (28, true) }) (v := .agg C1) rfl (by kernel_rfl) (by kernel_rfl) (by kernel_rfl) (fun _ _ _ h => h) (by exact yieldsIf_load_mid (by rfl) 33 (.tmp 1) (by rfl) g1 0 (by rfl) C1.toList _ (fun w' hw' => box_range (HR1.out w' hw'.2.out)) Try.underlying33 (by rfl) (by rw [Array.length_toList]; exact HC1s.out)) (by assumption) ?_
  simp only [Act.put, List.setIfInBounds_toArray, List.set_cons_zero, List.set_cons_succ]
  refine wpAnyH_ready (rs := [30]) (by kernel_rfl) (by simp) ?_
  refine AllReadyH.cons (o := { dst := some 38, op := Op.buildSlice 32 1 #[(0, Operand.tmp 37)], type := 32, pos := "law.go:13", after := #[{ on := 29, ground := Ground.data }, { on := 28, ground := Ground.guard }], guard := some (28, true) }) rfl (fun K hK => ?_) AllReadyH.nil
  rw [if_pos (by rfl)]
  (refine wp_bs_hash (.tmp 37) (by rfl) (sumH abc) C1 HC1.out (by rfl) ?_; have HT1 := Lib.hid (show Hs (w5.alloc (.cells C1 33)) (w5.alloc (.cells C1 33)).heap.size (some ⟨w5.heap.size, 0, none⟩) [sumH abc] from hs_one (by rw [← HC1.out]; exact heap_alloc_new w5 _) (by simp)))
  refine hK.out _ _ ?_ (fun hHeld => ?_)
  · (exact HSS.out _ (by repeat (first | exact Below.refl _ _ | exact HBK.out | refine Below.drew ?_ | refine Below.alloc ?_ (by have := HBK.out.size; first | exact this | (simp; omega)) _)))
  clear hK K
  try simp only [Act.put]
  refine wpAnyH_ready (rs := [31]) (by kernel_rfl) (by simp) ?_
  refine AllReadyH.cons (o := { dst := some 39, op := Op.call { callee := Callee.value (Operand.func 31), args := #[Operand.tmp 38], argTypes := #[32] }, type := 33, pos := "law.go:13", after := #[{ on := 30, ground := Ground.data }, { on := 28, ground := Ground.chain }, { on := 28, ground := Ground.guard }], guard := some (28, true) }) rfl (fun K hK => ?_) AllReadyH.nil
  go_simp
  (go_at_call 31; refine (tree_any 1 [sumH abc] (some ⟨w5.heap.size, 0, none⟩) 1 _ HT1.out (by simp; exact sumH_lt abc) (by simp) (by simp) (by simp) (by unfold maxLen; omega)).mono ?_; rintro e w6 ⟨rfl, hb6⟩; rw [show hc (treeF 1 [sumH abc]) = C1 from HC1.out.symm]; replace HBK := Lib.hid (below_chain (HBK.out.alloc HBK.out.size (.cells C1 33)) hb6); clear hb6)
  refine hK.out _ _ ?_ (fun hHeld => ?_)
  · (exact HSS.out _ (by repeat (first | exact Below.refl _ _ | exact HBK.out | refine Below.drew ?_ | refine Below.alloc ?_ (by have := HBK.out.size; first | exact this | (simp; omega)) _)))
  clear hK K
  refine wpAnyH_take (i := 33) (oi := { dst := some 41, op := Op.binOp BinOp.eql 33 (Operand.tmp 39) (Operand.tmp 40) 33, type := 4, pos := "law.go:13", after := #[{ on := 31, ground := Ground.data }, { on := 32, ground := Ground.data }, { on := 28, ground := Ground.guard }], guard := some (28, true) }) (v := ?_) rfl (by kernel_rfl) (by kernel_rfl) (by kernel_rfl) (fun _ _ _ h => h) (Or.inl ⟨by rfl, ?_⟩) (by assumption) ?_
  rotate_left 1
  · intro ws hSw; (try dsimp only at hSw); go_simp; all_goals with_reducible rfl
  simp only [Act.put, List.setIfInBounds_toArray, List.set_cons_zero, List.set_cons_succ]
  refine wpAnyH_take (i := 34) (oi := { dst := some 42, op := Op.pick (Operand.tmp 36) (Operand.tmp 41) (Operand.const (Value.bool false)), type := 4, pos := "law.go:13", after := #[{ on := 28, ground := Ground.data }, { on := 33, ground := Ground.data }], guard := none }) (v := ?_) rfl (by kernel_rfl) (by kernel_rfl) (by kernel_rfl) (fun _ _ _ h => h) (Or.inl ⟨by rfl, ?_⟩) (by assumption) ?_
  rotate_left 1
  · intro ws hSw; (try dsimp only at hSw); go_simp; all_goals with_reducible rfl
  simp only [Act.put, List.setIfInBounds_toArray, List.set_cons_zero, List.set_cons_succ]
  refine wpAnyH_take (i := 35) (oi := { dst := some 43, op := Op.move (Operand.tmp 42), type := 4, pos := "law.go:13", after := #[{ on := 34, ground := Ground.data }, { on := 31, ground := Ground.chain }], guard := none }) (v := ?_) rfl (by kernel_rfl) (by kernel_rfl) (by kernel_rfl) (fun _ _ _ h => h) (Or.inl ⟨by rfl, ?_⟩) (by assumption) ?_
  rotate_left 1
  · intro ws hSw; (try dsimp only at hSw); go_simp; all_goals with_reducible rfl
  simp only [Act.put, List.setIfInBounds_toArray, List.set_cons_zero, List.set_cons_succ]
  refine wpAnyH_take (i := 37) (oi := { dst := some 45, op := Op.load 33 (Operand.tmp 2), type := 33, pos := "law.go:13", after := #[{ on := 35, ground := Ground.guard }], guard := some (35, true) }) (v := .agg C2) rfl (by kernel_rfl) (by kernel_rfl) (by kernel_rfl) (fun _ _ _ h => h) (by exact yieldsIf_load_mid (by rfl) 33 (.tmp 2) (by rfl) g2 0 (by rfl) C2.toList _ (fun w' hw' => box_range (HR2.out w' hw'.2.out)) Try.underlying33 (by rfl) (by rw [Array.length_toList]; exact HC2s.out)) (by assumption) ?_
  simp only [Act.put, List.setIfInBounds_toArray, List.set_cons_zero, List.set_cons_succ]
  refine wpAnyH_ready (rs := [36]) (by kernel_rfl) (by simp) ?_
  refine AllReadyH.cons (o := { dst := some 44, op := Op.call { callee := Callee.value (Operand.func 30), args := #[Operand.const (Value.slice none 0 0), Operand.const (Value.slice none 0 0)], argTypes := #[31, 31] }, type := 33, pos := "law.go:13", after := #[{ on := 35, ground := Ground.chain }, { on := 35, ground := Ground.guard }], guard := some (35, true) }) rfl (fun K hK => ?_) AllReadyH.nil
  go_simp
  (go_at_call 30; refine (code_any none none 0 0 [] [] _ Bs.nil Bs.nil (by unfold Byt; simp) (by unfold Byt; simp) (by simp) (by simp)).mono ?_; rintro e w7 ⟨rfl, hb7⟩; rw [← HC3.out]; replace HBK := Lib.hid (below_chain HBK.out hb7); clear hb7)
  refine hK.out _ _ ?_ (fun hHeld => ?_)
  · (exact HSS.out _ (by repeat (first | exact Below.refl _ _ | exact HBK.out | refine Below.drew ?_ | refine Below.alloc ?_ (by have := HBK.out.size; first | exact this | (simp; omega)) _)))
  clear hK K
  refine wpAnyH_take (i := 38) (oi := { dst := some 46, op := Op.binOp BinOp.neq 33 (Operand.tmp 44) (Operand.tmp 45) 33, type := 4, pos := "law.go:13", after := #[{ on := 36, ground := Ground.data }, { on := 37, ground := Ground.data }, { on := 35, ground := Ground.guard }], guard := some (35, true) }) (v := ?_) rfl (by kernel_rfl) (by kernel_rfl) (by kernel_rfl) (fun _ _ _ h => h) (Or.inl ⟨by rfl, ?_⟩) (by assumption) ?_
  rotate_left 1
  · intro ws hSw; (try dsimp only at hSw); go_simp; all_goals with_reducible rfl
  simp only [Act.put, List.setIfInBounds_toArray, List.set_cons_zero, List.set_cons_succ]
  refine wpAnyH_take (i := 39) (oi := { dst := some 47, op := Op.pick (Operand.tmp 43) (Operand.tmp 46) (Operand.const (Value.bool false)), type := 4, pos := "law.go:13", after := #[{ on := 35, ground := Ground.data }, { on := 38, ground := Ground.data }], guard := none }) (v := ?_) rfl (by kernel_rfl) (by kernel_rfl) (by kernel_rfl) (fun _ _ _ h => h) (Or.inl ⟨by rfl, ?_⟩) (by assumption) ?_
  rotate_left 1
  · intro ws hSw; (try dsimp only at hSw); go_simp; all_goals with_reducible rfl
  simp only [Act.put, List.setIfInBounds_toArray, List.set_cons_zero, List.set_cons_succ]
  refine wpAnyH_take (i := 40) (oi := { dst := some 0, op := Op.assign (Operand.tmp 47), type := 4, pos := "law.go:13", after := #[{ on := 39, ground := Ground.data }, { on := 36, ground := Ground.chain }, { on := 0, ground := Ground.phase }, { on := 1, ground := Ground.phase }, { on := 2, ground := Ground.phase }, { on := 3, ground := Ground.phase }, { on := 4, ground := Ground.phase }, { on := 5, ground := Ground.phase }, { on := 6, ground := Ground.phase }, { on := 7, ground := Ground.phase }, { on := 8, ground := Ground.phase }, { on := 9, ground := Ground.phase }, { on := 10, ground := Ground.phase }, { on := 11, ground := Ground.phase }, { on := 12, ground := Ground.phase }, { on := 13, ground := Ground.phase }, { on := 14, ground := Ground.phase }, { on := 15, ground := Ground.phase }, { on := 16, ground := Ground.phase }, { on := 17, ground := Ground.phase }, { on := 18, ground := Ground.phase }, { on := 19, ground := Ground.phase }, { on := 20, ground := Ground.phase }, { on := 21, ground := Ground.phase }, { on := 22, ground := Ground.phase }, { on := 23, ground := Ground.phase }, { on := 24, ground := Ground.phase }, { on := 25, ground := Ground.phase }, { on := 26, ground := Ground.phase }, { on := 27, ground := Ground.phase }, { on := 28, ground := Ground.phase }, { on := 29, ground := Ground.phase }, { on := 30, ground := Ground.phase }, { on := 31, ground := Ground.phase }, { on := 32, ground := Ground.phase }, { on := 33, ground := Ground.phase }, { on := 34, ground := Ground.phase }, { on := 35, ground := Ground.phase }, { on := 36, ground := Ground.phase }, { on := 37, ground := Ground.phase }, { on := 38, ground := Ground.phase }, { on := 39, ground := Ground.phase }], guard := none }) (v := ?_) rfl (by kernel_rfl) (by kernel_rfl) (by kernel_rfl) (fun _ _ _ h => h) (Or.inl ⟨by rfl, ?_⟩) (by assumption) ?_
  rotate_left 1
  · intro ws hSw; (try dsimp only at hSw); go_simp; all_goals with_reducible rfl
  simp only [Act.put, List.setIfInBounds_toArray, List.set_cons_zero, List.set_cons_succ]
  refine wpAnyH_done (by kernel_rfl) ?_ _
  go_wp2_with fail
  go_ret
  exact ⟨rfl, below_chain HB4.out HBK.out⟩
end Go.Proofs.Ytmpbimechgelfaa

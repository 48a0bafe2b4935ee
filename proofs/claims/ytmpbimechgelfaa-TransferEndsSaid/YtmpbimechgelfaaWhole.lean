/- manifest.Whole at the image itself. -/
import Derived.Test.YtmpbimechgelfaaTOk
namespace Go.Proofs.Ytmpbimechgelfaa
open Go Go.RowKit

set_option maxRecDepth 100000 in
set_option maxHeartbeats 4000000 in
theorem whole_ok {w : World} {M : Array Value} {l : List Nat} {k : Nat} {hs : List (Nat → Nat)} (h : Mok w M l k hs) (A2 : Option Addr) (c2 : Nat) (hb : Bs w w.heap.size A2 l) (hby : Byt l) :
    Calls Try.prog 27 #[.agg M, .slice A2 l.length c2] w fun e w' => e = .returned (.int .i64 0) ∧ Below w.heap.size w w' := by
  have hck := h.chk
  have hl6 : l.length ≤ 65536 := by have := (chk_facts hck).2.1; omega
  obtain ⟨A, c, hM, -⟩ := h
  obtain ⟨m, hm⟩ : ∃ n, n = l.length := ⟨_, rfl⟩
  have HCK := Lib.hid (fun w => check_any (l.length : Int) (k : Int) A hs.length c (sumH l) w)
  rw [hck, ← hM, show eno true 50 = 0 from rfl] at HCK
  rw [← hm] at hl6 ⊢
  have HMs : Hid ((Try.prog.info? 35).map (·.size) = some M.size) := Lib.hid (by rw [hM]; exact size_mcv)
  obtain ⟨W0, hW0⟩ : ∃ W0, W0 = w.alloc (.cells M 35) := ⟨_, rfl⟩
  have hB0 : Below w.heap.size w W0 := by rw [hW0]; exact (by repeat (first | exact Below.refl _ _ | assumption | refine below_drewN ?_ _ | refine Below.drew ?_ | refine Below.alloc ?_ (by simp; try omega) _ | refine Below.setCell ?_ (by simp; try omega) _))
  have HBS := Lib.hid (hb.next hB0)
  have hmb : MB W0 w.heap.size (l.length : Int) (k : Int) (.slice A hs.length c) (sumH l) := by rw [hW0, hM]; exact heap_alloc_new w _
  rw [← hm] at hmb
  have HROW := Lib.hid (show W0.heap[w.heap.size]? = some (.cells M 35 (0, 0)) from by rw [hW0]; exact heap_alloc_new w _)
  have HMB := Lib.hid hmb
  have HB0 := Lib.hid hB0
  have HW0 := Lib.hid hW0
  obtain ⟨g, hg⟩ : ∃ g, g = w.heap.size := ⟨_, rfl⟩
  rw [← hg] at HMB HROW
  have HG := Lib.hid hg
  have HM := Lib.hid hm
  have HBY := Lib.hid hby
  clear hM hW0 hg hm hmb hB0 hb hck hby
  go_enter Try.func27, Try.ntmps27
  go_upto_region 1 with (fail)
  change Code.wp _ _ _ _ (w.alloc (.cells M 35))
  rw [← HW0.out, ← HG.out]
  refine wp_region_list ?_
  repeat (first
    | refine wpList_load_row (by rfl) 35 (.tmp 2) (by rfl) g (by rfl) 35 M (0, 0) _ HROW.out Try.underlying35 (by rfl) HMs.out ?_
    | go_values | go_skip | go_guarded | go_step | go_upon)
  refine (HCK.out W0).mono ?_
  rintro e w1 ⟨rfl, hb1⟩
  have HB1 := Lib.hid (below_chain HB0.out hb1)
  have HM1 := Lib.hid (HMB.out.next hb1)
  have HBS1 := Lib.hid (HBS.out.next hb1)
  clear hb1 HB0 HMB HW0 HROW HCK HBS
  have c0' := HM1.out.c0
  obtain ⟨C, hC⟩ : ∃ C, C = hc (sumH l) := ⟨_, rfl⟩
  have hrow := HM1.out.whole
  rw [← hC] at hrow
  have hg1 : g < w1.heap.size := HM1.out.lt
  have HRW := Lib.hid (fun (W : World) (hb' : Below w1.heap.size w1 W) => show W.rangeAt g 3 C.toList from fun j v hv => (hb'.cell (p := ⟨g, 3 + j, none⟩) hg1).trans (hrow j v hv))
  have HCs := Lib.hid (show (Try.prog.info? 33).map (·.size) = some C.size from by rw [hC]; exact size_hc)
  have HSS := Lib.hid (fun (W : World) (hb' : Below w1.heap.size w1 W) => show W.cell? ⟨g, 0, none⟩ = some (.int .i64 (m : Int)) ∧ Hid (Below w1.heap.size w1 W) from ⟨(hb'.cell (p := ⟨g, 0, none⟩) hg1).trans c0', Lib.hid hb'⟩)
  have HPR := Lib.hid (fun (W : World) (hb : Below w1.heap.size w1 W) => show Prt (W.alloc (.cells #[.slice A2 m c2] 31)) (some ⟨W.heap.size, 0, none⟩) [.slice A2 m c2] [l] from by
    have h := Prt.one (t := 31) (c := c2) (HBS1.out.next hb) HBY.out
    rw [← HM.out] at h
    exact h)
  have HLL := Lib.hid (show [l].flatten.length ≤ 900000 from by simp; rw [← HM.out]; omega)
  have HCV := Lib.hid (show hc (sumH [l].flatten) = C from by rw [hC]; simp)
  have heq : ∀ W, (Op.equalIn 10000 33 (.agg C) (.agg C)).run Try.prog W = .ok true W := fun W => by rw [hC, eq_hash, eqh_self]
  have e1 : ((m : Int) != (m : Int)) = false := by simp
  clear hC hrow c0' hl6
  go_upto_region 3 with (fail)
  refine wp_region_held_drew (S := fun w' => w'.cell? ⟨g, 0, none⟩ = some (.int .i64 (m : Int)) ∧ Hid (Below w1.heap.size w1 w')) (by kernel_rfl) (HSS.out _ (Below.refl _ _).drew) (fun hHeld => ?_)
  refine wpAnyH_take (i := 0) (oi := { dst := some 10, op := Op.move (Operand.tmp 1), type := 31, pos := "manifest.go:72", after := #[], guard := none }) (v := ?_) rfl (by kernel_rfl) (by kernel_rfl) (by kernel_rfl) (fun _ _ _ h => h) (Or.inl ⟨by rfl, ?_⟩) (by assumption) ?_
  rotate_left 1
  · intro ws hSw; (try dsimp only at hSw); go_simp; all_goals with_reducible rfl
  simp only [Act.put, List.setIfInBounds_toArray, List.set_cons_zero, List.set_cons_succ]
  refine wpAnyH_take (i := 1) (oi := { dst := some 11, op := Op.call { callee := Callee.builtin Builtin.len, args := #[Operand.tmp 10], argTypes := #[31] }, type := 3, pos := "manifest.go:72", after := #[{ on := 0, ground := Ground.data }], guard := none }) (v := ?_) rfl (by kernel_rfl) (by kernel_rfl) (by kernel_rfl) (fun _ _ _ h => h) (Or.inl ⟨by rfl, ?_⟩) (by assumption) ?_
  rotate_left 1
  · intro ws hSw; (try dsimp only at hSw); go_simp; all_goals with_reducible rfl
  simp only [Act.put, List.setIfInBounds_toArray, List.set_cons_zero, List.set_cons_succ]
  refine wpAnyH_take (i := 2) (oi := { dst := some 12, op := Op.fieldAddr 35 (Operand.tmp 2) 0, type := 0, pos := "manifest.go:72", after := #[], guard := none }) (v := ?_) rfl (by kernel_rfl) (by kernel_rfl) (by kernel_rfl) (fun _ _ _ h => h) (Or.inl ⟨by rfl, ?_⟩) (by assumption) ?_
  rotate_left 1
  · intro ws hSw; (try dsimp only at hSw); go_simp; all_goals with_reducible rfl
  simp only [Act.put, List.setIfInBounds_toArray, List.set_cons_zero, List.set_cons_succ]
  refine wpAnyH_take (i := 3) (oi := { dst := some 13, op := Op.load 3 (Operand.tmp 12), type := 3, pos := "manifest.go:72", after := #[{ on := 2, ground := Ground.data }], guard := none }) (v := ?_) rfl (by kernel_rfl) (by kernel_rfl) (by kernel_rfl) (fun _ _ _ h => h) (Or.inl ⟨by rfl, ?_⟩) (by assumption) ?_
  rotate_left 1
  · intro ws hSw; (try dsimp only at hSw); go_simp; all_goals with_reducible rfl
  simp only [Act.put, List.setIfInBounds_toArray, List.set_cons_zero, List.set_cons_succ]
  refine wpAnyH_take (i := 4) (oi := { dst := some 14, op := Op.binOp BinOp.neq 3 (Operand.tmp 11) (Operand.tmp 13) 3, type := 4, pos := "manifest.go:72", after := #[{ on := 1, ground := Ground.data }, { on := 3, ground := Ground.data }], guard := none }) (v := ?_) rfl (by kernel_rfl) (by kernel_rfl) (by kernel_rfl) (fun _ _ _ h => h) (Or.inl ⟨by rfl, ?_⟩) (by assumption) ?_
  rotate_left 1
  · intro ws hSw; (try dsimp only at hSw); go_simp; all_goals with_reducible rfl
  simp only [Act.put, List.setIfInBounds_toArray, List.set_cons_zero, List.set_cons_succ]
  refine wpAnyH_take (i := 5) (oi := { dst := some 15, op := Op.move (Operand.tmp 14), type := 4, pos := "manifest.go:72", after := #[{ on := 4, ground := Ground.data }], guard := none }) (v := ?_) rfl (by kernel_rfl) (by kernel_rfl) (by kernel_rfl) (fun _ _ _ h => h) (Or.inl ⟨by rfl, ?_⟩) (by assumption) ?_
  rotate_left 1
  · intro ws hSw; (try dsimp only at hSw); go_simp; all_goals with_reducible rfl
  simp only [Act.put, List.setIfInBounds_toArray, List.set_cons_zero, List.set_cons_succ]
  refine wpAnyH_take (i := 6) (oi := { dst := some 16, op := Op.move (Operand.tmp 1), type := 31, pos := "manifest.go:72", after := #[{ on := 5, ground := Ground.guard }], guard := some (5, false) }) (v := ?_) rfl (by kernel_rfl) (by kernel_rfl) (by kernel_rfl) (fun _ _ _ h => h) (Or.inl ⟨by rfl, ?_⟩) (by assumption) ?_
  rotate_left 1
  · intro ws hSw; (try dsimp only at hSw); go_simp; all_goals with_reducible rfl
  simp only [Act.put, List.setIfInBounds_toArray, List.set_cons_zero, List.set_cons_succ]
  refine wpAnyH_take (i := 9) (oi := { dst := some 19, op := Op.fieldAddr 35 (Operand.tmp 2) 3, type := 0, pos := "manifest.go:72", after := #[{ on := 5, ground := Ground.guard }], guard := some (5, false) }) (v := ?_) rfl (by kernel_rfl) (by kernel_rfl) (by kernel_rfl) (fun _ _ _ h => h) (Or.inl ⟨by rfl, ?_⟩) (by assumption) ?_
  rotate_left 1
  · intro ws hSw; (try dsimp only at hSw); go_simp; all_goals with_reducible rfl
  simp only [Act.put, List.setIfInBounds_toArray, List.set_cons_zero, List.set_cons_succ]
  refine wpAnyH_take (i := 10) (oi := { dst := some 20, op := Op.load 33 (Operand.tmp 19), type := 33, pos := "manifest.go:72", after := #[{ on := 9, ground := Ground.data }, { on := 5, ground := Ground.guard }], guard := some (5, false) }) (v := .agg C) rfl (by kernel_rfl) (by kernel_rfl) (by kernel_rfl) (fun _ _ _ h => h) (by exact yieldsIf_load_mid (by rfl) 33 (.tmp 19) (by rfl) g 3 (by rfl) C.toList _ (fun w' hw' => HRW.out w' hw'.2.out) Try.underlying33 (by rfl) (by rw [Array.length_toList]; exact HCs.out)) (by assumption) ?_
  simp only [Act.put, List.setIfInBounds_toArray, List.set_cons_zero, List.set_cons_succ]
  clear hHeld
  obtain ⟨Xa, hWa⟩ : ∃ W, W = w1.drew := ⟨_, rfl⟩
  have HBx := Lib.hid (show _ from show Below w1.heap.size w1 Xa from by rw [hWa]; exact (Below.refl _ _).drew)
  rw [← hWa]
  clear hWa
  refine wpAnyH_ready (rs := [7]) (by kernel_rfl) (by simp) ?_
  refine AllReadyH.cons (o := { dst := some 17, op := Op.buildSlice 52 1 #[(0, Operand.tmp 16)], type := 52, pos := "manifest.go:72", after := #[{ on := 6, ground := Ground.data }, { on := 5, ground := Ground.guard }], guard := some (5, false) }) rfl (fun K hK => ?_) AllReadyH.nil
  go_simp
  have hal : Below Xa.heap.size Xa (Xa.alloc (.cells #[.slice A2 m c2] 31)) := (Below.refl _ _).alloc (Nat.le_refl _) _
  refine hK.out _ _ ?_ (fun hHeld => ?_)
  · exact HSS.out _ (below_chain HBx.out hal)
  clear hHeld hK K
  try simp only [Act.put, List.setIfInBounds_toArray, List.set_cons_zero, List.set_cons_succ]
  obtain ⟨X1, hW⟩ : ∃ W', W' = Xa.alloc (.cells #[.slice A2 m c2] 31) := ⟨_, rfl⟩
  change wpAnyH _ _ _ _ _ _ _ _ (Xa.alloc (.cells #[.slice A2 m c2] 31))
  rw [← hW]
  have hb : Below Xa.heap.size Xa X1 := by rw [hW]; exact hal
  clear hal
  have PR := Lib.hid (show Prt X1 (some ⟨Xa.heap.size, 0, none⟩) [.slice A2 m c2] [l] from by rw [hW]; exact HPR.out _ HBx.out)
  replace HBx := Lib.hid (below_chain HBx.out hb)
  obtain ⟨gb, hgb⟩ : ∃ g, g = Xa.heap.size := ⟨_, rfl⟩
  rw [← hgb] at PR ⊢
  clear hW hb hgb
  refine wpAnyH_ready (rs := [8]) (by kernel_rfl) (by simp) ?_
  refine AllReadyH.cons (o := { dst := some 18, op := Op.call { callee := Callee.value (Operand.func 29), args := #[Operand.tmp 17], argTypes := #[52] }, type := 33, pos := "manifest.go:72", after := #[{ on := 7, ground := Ground.data }, { on := 5, ground := Ground.chain }, { on := 5, ground := Ground.guard }], guard := some (5, false) }) rfl (fun K hK => ?_) AllReadyH.nil
  go_simp
  (with_reducible refine (show Calls _ _ #[.slice (some ⟨gb, 0, none⟩) 1 1] _ _ from sum_any _ 1 _ _ _ PR.out (by simp) (by simp) HLL.out).mono ?_)
  rintro e X2 ⟨rfl, hb⟩
  rw [HCV.out]
  refine hK.out _ _ ?_ (fun hHeld => ?_)
  · exact HSS.out _ (below_chain HBx.out hb)
  clear hHeld hK K
  try simp only [Act.put, List.setIfInBounds_toArray, List.set_cons_zero, List.set_cons_succ]
  replace HBx := Lib.hid (below_chain HBx.out hb)
  replace PR := Lib.hid (Prt.nextW PR.out hb)
  clear hb
  have hHeld : (fun w' => w'.cell? ⟨g, 0, none⟩ = some (.int .i64 (m : Int)) ∧ Hid (Below w1.heap.size w1 w')) X2 := HSS.out _ HBx.out
  refine wpAnyH_take (i := 11) (oi := { dst := some 21, op := Op.binOp BinOp.neq 33 (Operand.tmp 18) (Operand.tmp 20) 33, type := 4, pos := "manifest.go:72", after := #[{ on := 8, ground := Ground.data }, { on := 10, ground := Ground.data }, { on := 5, ground := Ground.guard }], guard := some (5, false) }) (v := ?_) rfl (by kernel_rfl) (by kernel_rfl) (by kernel_rfl) (fun _ _ _ h => h) (Or.inl ⟨by rfl, ?_⟩) (by assumption) ?_
  rotate_left 1
  · intro ws hSw; (try dsimp only at hSw); go_simp; all_goals with_reducible rfl
  simp only [Act.put, List.setIfInBounds_toArray, List.set_cons_zero, List.set_cons_succ]
  clear hHeld
  have hHeld : (fun w' => w'.cell? ⟨g, 0, none⟩ = some (.int .i64 (m : Int)) ∧ Hid (Below w1.heap.size w1 w')) X2 := HSS.out _ HBx.out
  refine wpAnyH_take (i := 12) (oi := { dst := some 22, op := Op.pick (Operand.tmp 15) (Operand.const (Value.bool true)) (Operand.tmp 21), type := 4, pos := "manifest.go:72", after := #[{ on := 5, ground := Ground.data }, { on := 11, ground := Ground.data }], guard := none }) (v := ?_) rfl (by kernel_rfl) (by kernel_rfl) (by kernel_rfl) (fun _ _ _ h => h) (Or.inl ⟨by rfl, ?_⟩) (by assumption) ?_
  rotate_left 1
  · intro ws hSw; (try dsimp only at hSw); go_simp; all_goals with_reducible rfl
  simp only [Act.put, List.setIfInBounds_toArray, List.set_cons_zero, List.set_cons_succ]
  clear hHeld
  have hHeld : (fun w' => w'.cell? ⟨g, 0, none⟩ = some (.int .i64 (m : Int)) ∧ Hid (Below w1.heap.size w1 w')) X2 := HSS.out _ HBx.out
  refine wpAnyH_take (i := 13) (oi := { dst := some 9, op := Op.assign (Operand.tmp 22), type := 4, pos := "manifest.go:72", after := #[{ on := 12, ground := Ground.data }, { on := 8, ground := Ground.chain }], guard := none }) (v := ?_) rfl (by kernel_rfl) (by kernel_rfl) (by kernel_rfl) (fun _ _ _ h => h) (Or.inl ⟨by rfl, ?_⟩) (by assumption) ?_
  rotate_left 1
  · intro ws hSw; (try dsimp only at hSw); go_simp; all_goals with_reducible rfl
  simp only [Act.put, List.setIfInBounds_toArray, List.set_cons_zero, List.set_cons_succ]
  clear hHeld
  refine wpAnyH_done (by kernel_rfl) ?_ _
  skip
  have HBF := Lib.hid (below_chain HB1.out HBx.out)
  clear HSS HPR HCV HLL HRW e1
  go_wp2_with fail
  go_ret
  exact ⟨rfl, HBF.out⟩
end Go.Proofs.Ytmpbimechgelfaa

/- awake: the head of all of Transfer's laws holds. -/
import Derived.Test.YtmpbimechgelfaaTLit
import Derived.Lib.SlBytesConst
namespace Go.Proofs.Ytmpbimechgelfaa
open Go Go.RowKit

theorem pick1_at (W : World) (c0 cp : Nat) (A0 A : Option Addr) (vs : List Value) (h : Bo W W.heap.size A0 [true, false, false]) (hp : Pb W W.heap.size A vs [[false, false, true]]) :
    Calls Try.prog 15 #[.slice A0 3 c0, .slice A 1 cp, .int .u64 0] W fun e w' => e = .returned (.tuple #[.int .i64 2, .int .i64 0, .bool true]) ∧ Below W.heap.size W w' := by
  have h1 := pick_any 0 [true, false, false] A0 c0 A cp vs [[false, false, true]] W h hp (by simp) (by simp) (by decide)
  rw [ev_pick1] at h1
  exact h1
theorem pick2_at (W : World) (c0 cp : Nat) (A0 A : Option Addr) (vs : List Value) (h : Bo W W.heap.size A0 [true, true]) (hp : Pb W W.heap.size A vs [[true, true]]) :
    Calls Try.prog 15 #[.slice A0 2 c0, .slice A 1 cp, .int .u64 0] W fun e w' => e = .returned (.tuple #[.int .i64 0, .int .i64 0, .bool false]) ∧ Below W.heap.size W w' := by
  have h1 := pick_any 0 [true, true] A0 c0 A cp vs [[true, true]] W h hp (by simp) (by simp) (by decide)
  rw [ev_pick2] at h1
  exact h1
theorem three_lits (w : World) (l m : List Bool) (C D : Array Value) (hC : C = (l.map Value.bool).toArray) (hD : D = (m.map Value.bool).toArray) (n : Nat) (hn : n = m.length) (hm : n ≤ 1000) (W : World)
    (hW : W = ((w.alloc (.cells C 4)).alloc (.cells D 4)).alloc (.cells #[.slice (some ⟨w.heap.size + 1, 0, none⟩) n n] 22)) :
    Bo W W.heap.size (some ⟨w.heap.size, 0, none⟩) l ∧ Pb W W.heap.size (some ⟨w.heap.size + 1 + 1, 0, none⟩) [.slice (some ⟨w.heap.size + 1, 0, none⟩) n n] [m] ∧ Below w.heap.size w W := by
  have e1 : (w.alloc (.cells C 4)).heap.size = w.heap.size + 1 := by simp
  have e2 : ((w.alloc (.cells C 4)).alloc (.cells D 4)).heap.size = w.heap.size + 1 + 1 := by simp
  have h1 := bo_lit w l C hC
  have h2 := bo_lit (w.alloc (.cells C 4)) m D hD
  rw [e1] at h2
  have hb : Below (w.alloc (.cells C 4)).heap.size (w.alloc (.cells C 4)) W := by rw [hW]; exact ((Below.refl _ _).alloc (Nat.le_refl _) _).alloc (by simp) _
  have hb0 : Below w.heap.size w W := by rw [hW]; exact (((Below.refl _ _).alloc (Nat.le_refl _) _).alloc (by simp) _).alloc (by simp; omega) _
  have h3 := pb_one (t := 22) (c := n) h2 (by unfold maxLen; omega)
  rw [e2, ← hn] at h3
  subst hW
  exact ⟨h1.next hb, h3, hb0⟩
set_option maxRecDepth 100000 in
set_option maxHeartbeats 8000000 in
theorem tawake_any (w : World) : Calls Try.prog 14 #[] w fun e w' => e = .returned (.bool true) ∧ Below w.heap.size w w' := by
  go_enter Try.func14, Try.ntmps14
  go_wp2_with fail
  obtain ⟨W1, hW1⟩ : ∃ W, W = ((w.alloc (.cells #[.bool true, .bool false, .bool false] 4)).alloc (.cells #[.bool false, .bool false, .bool true] 4)).alloc (.cells #[.slice (some ⟨w.heap.size + 1, 0, none⟩) 3 3] 22) := ⟨_, rfl⟩
  have HL1 := Lib.hid (three_lits w [true, false, false] [false, false, true] _ _ rfl rfl 3 rfl (by omega) W1 hW1)
  rw [← hW1]
  clear hW1
  refine (pick1_at W1 _ _ _ _ _ HL1.out.1 HL1.out.2.1).mono ?_
  rintro e w2 ⟨rfl, hb2⟩
  have HB2 := Lib.hid (below_chain HL1.out.2.2 hb2)
  clear hb2 HL1
  go_wp2_with fail
  obtain ⟨W3, hW3⟩ : ∃ W, W = ((w2.alloc (.cells #[.bool true, .bool true] 4)).alloc (.cells #[.bool true, .bool true] 4)).alloc (.cells #[.slice (some ⟨w2.heap.size + 1, 0, none⟩) 2 2] 22) := ⟨_, rfl⟩
  have HL3 := Lib.hid (three_lits w2 [true, true] [true, true] _ _ rfl rfl 2 rfl (by omega) W3 hW3)
  rw [← hW3]
  clear hW3
  refine (pick2_at W3 _ _ _ _ _ HL3.out.1 HL3.out.2.1).mono ?_
  rintro e w4 ⟨rfl, hb4⟩
  have HB4 := Lib.hid (below_chain HB2.out (below_chain HL3.out.2.2 hb4))
  clear hb4 HL3 HB2
  go_upto_region 3 with (fail)
  have hcv := Lib.run_convert_bytes_const (P := Try.prog) w4 31 5 #[.int .u8 97, .int .u8 98, .int .u8 99, .int .u8 100, .int .u8 101, .int .u8 102] 6 6 Try.underlying31 Try.underlying5
  refine wp_region_list ?_
  repeat (first | go_values | go_skip | go_guarded | go_step | go_upon)
  obtain ⟨W5, hW5⟩ : ∃ W, W = w4.alloc (.cells #[.int .u8 97, .int .u8 98, .int .u8 99, .int .u8 100, .int .u8 101, .int .u8 102] 5 (6, 7)) := ⟨_, rfl⟩
  have HBS5 := Lib.hid (show Bs W5 W5.heap.size (some ⟨w4.heap.size, 0, none⟩) abc6 from bs_lit (fr := (6, 7)) abc6 (by rw [hW5]; exact heap_alloc_new w4 _) rfl)
  have HB5 := Lib.hid (show Below w.heap.size w W5 from below_chain HB4.out (by rw [hW5]; exact (Below.refl _ _).alloc (Nat.le_refl _) _))
  rw [← hW5]
  clear hW5 hcv HB4
  refine (build6 _ 6 W5 HBS5.out (by omega)).mono ?_
  rintro e w6 ⟨M, rfl, hm6, hb6⟩
  have HB6 := Lib.hid (below_chain HB5.out hb6)
  have HM6 := Lib.hid hm6
  have HMs := Lib.hid hm6.size
  have HMz := Lib.hid hm6.size0
  have HMa := Lib.hid hm6.all
  clear hb6 HB5 HBS5 hm6
  dsimp only
  repeat (first
    | refine wpList_store_row (by rfl) 35 (.tmp 7) (.tmp 34) (by rfl) w6.heap.size M (by rfl) (by rfl) 35 mc0 (by exact heap_alloc_new w6 _) HMs.out HMz.out HMa.out ?_
    | go_values | go_skip | go_guarded | go_step | go_upon)
  obtain ⟨W7, hW7⟩ : ∃ W, W = (w6.alloc (.cells mc0 35)).setRow w6.heap.size M := ⟨_, rfl⟩
  change Code.wp _ _ _ _ ((w6.alloc (.cells mc0 35)).setRow w6.heap.size M)
  rw [← hW7]
  obtain ⟨hrow7, hb67⟩ := mbox_made hW7
  obtain ⟨g7, hg7⟩ : ∃ g, g = w6.heap.size := ⟨_, rfl⟩
  rw [← hg7] at hrow7 ⊢
  have hlt7 : g7 < W7.heap.size := (Array.getElem?_eq_some_iff.1 hrow7).1
  have HB7 := Lib.hid (below_chain HB6.out hb67)
  have HM7 := Lib.hid (HM6.out.next hb67)
  have HROW := Lib.hid (fun (W : World) (hb : Below W7.heap.size W7 W) => show W.heap[g7]? = some (.cells M 35 (0, 0)) from (hb.block _ hlt7).trans hrow7)
  have HRNG := Lib.hid (fun (W : World) (hb : Below W7.heap.size W7 W) => box_range (HROW.out W hb))
  clear hW7 hrow7 hb67 hg7 hlt7 HM6 HB6
  refine with_any (T := Nat × Nat × Nat × Nat × Nat) (fun x => ⟨#[.bool false, .int .i64 2, .int .i64 0, .bool true, .int .i64 0, .int .i64 0, .bool false, .pointer (some ⟨g7, 0, none⟩), .int .i64 0, .slice (some ⟨x.2.2.2.1, 0, none⟩) 2 x.2.2.2.2, .int .i64 0, undef, undef, undef, .tuple #[.int .i64 2, .int .i64 0, .bool true], .slice (some ⟨w.heap.size, 0, none⟩) 3 3, .slice (some ⟨w.heap.size + 1, 0, none⟩) 3 3, .slice (some ⟨w.heap.size + 1 + 1, 0, none⟩) 1 1, .tuple #[.int .i64 2, .int .i64 0, .bool true], .int .i64 2, .int .i64 0, .bool true, .tuple #[.int .i64 0, .int .i64 0, .bool false], .slice (some ⟨w2.heap.size, 0, none⟩) 2 2, .slice (some ⟨w2.heap.size + 1, 0, none⟩) 2 2, .slice (some ⟨w2.heap.size + 1 + 1, 0, none⟩) 1 1, .tuple #[.int .i64 0, .int .i64 0, .bool false], .int .i64 0, .int .i64 0, .bool false, .tuple #[.agg M, .int .i64 0], .slice (some ⟨w4.heap.size, 0, none⟩) 6 6, .slice (some ⟨w4.heap.size, 0, none⟩) 6 6, .tuple #[.agg M, .int .i64 0], .agg M, .int .i64 0, .tuple #[.slice (some ⟨x.2.2.2.1, 0, none⟩) 2 x.2.2.2.2, .int .i64 0], .agg M, .agg M, .slice (some ⟨x.1, 0, none⟩) 2 x.2.1, .slice (some ⟨x.2.2.1, 0, none⟩) 2 2, .slice (some ⟨x.2.2.1, 0, none⟩) 2 2, .tuple #[.slice (some ⟨x.2.2.2.1, 0, none⟩) 2 x.2.2.2.2, .int .i64 0], .slice (some ⟨x.2.2.2.1, 0, none⟩) 2 x.2.2.2.2, .int .i64 0, undef, undef, undef, undef, undef, undef, undef, undef, undef, undef, undef, undef, undef, undef, undef, undef, undef, undef, undef, undef, undef, undef, undef, undef, undef, undef, undef, undef, undef, undef, undef, undef, undef, undef, undef, undef, undef, undef, undef, undef, undef, undef, undef, undef, undef, undef, undef, undef, undef, undef, undef, undef, undef, undef, undef, undef, undef, undef, undef, undef, undef, undef, undef, undef, undef, undef, undef, undef, undef, undef, undef, undef, undef, undef, undef, undef, undef, undef, undef, undef, undef], []⟩)
    (fun x W => Bo W W.heap.size (some ⟨x.2.2.2.1, 0, none⟩) [false, true] ∧ Below W7.heap.size W7 W) (fun x W8 hf => ?_) (fun HEND => ?_)
  · obtain ⟨gN, cN, gb, gT, cT⟩ := x
    obtain ⟨hbo8, hb8⟩ := hf
    have HBO8 := Lib.hid hbo8
    have HB8 := Lib.hid hb8
    clear hbo8 hb8
    dsimp only
    go_upto_region 5 with (fail)
    have hcv := Lib.run_convert_bytes_const (P := Try.prog) W8 31 5 #[.int .u8 101, .int .u8 102] 2 2 Try.underlying31 Try.underlying5
    have HRW8 := Lib.hid (HROW.out W8 HB8.out)
    refine wp_region_list ?_
    repeat (first
      | refine wpList_load_row (by rfl) 35 (.tmp 7) (by rfl) g7 (by rfl) 35 M (0, 0) _ HRW8.out Try.underlying35 (by rfl) HMs.out ?_
      | go_values | go_skip | go_guarded | go_step | go_upon)
    obtain ⟨W9, hW9⟩ : ∃ W, W = W8.alloc (.cells #[.int .u8 101, .int .u8 102] 5 (2, 3)) := ⟨_, rfl⟩
    have HBS9 := Lib.hid (show Bs W9 W9.heap.size (some ⟨W8.heap.size, 0, none⟩) [101, 102] from bs_lit (fr := (2, 3)) [101, 102] (by rw [hW9]; exact heap_alloc_new W8 _) rfl)
    have hb89 : Below W8.heap.size W8 W9 := by rw [hW9]; exact (Below.refl _ _).alloc (Nat.le_refl _) _
    have HBO9 := Lib.hid (HBO8.out.next hb89)
    have HB9 := Lib.hid (below_chain HB8.out hb89)
    rw [← hW9]
    clear hW9 hcv hb89 HRW8 HBO8 HB8
    refine ((take6b (some ⟨gT, 0, none⟩) (some ⟨W8.heap.size, 0, none⟩) cT 2 W9 (HM7.out.next HB9.out) HBO9.out (Option.some_ne_none _) HBS9.out).mono fun _ _ h => tk2_of rfl h).mono ?_
    rintro e W10 ⟨g2, c2, rfl, -, hb10⟩
    have HBO10 := Lib.hid (HBO9.out.next hb10)
    have HB10 := Lib.hid (below_chain HB9.out hb10)
    clear hb10 HBO9 HB9 HBS9
    go_upto_region 6 with (fail)
    have hcv := Lib.run_convert_bytes_const (P := Try.prog) W10 31 5 #[.int .u8 97, .int .u8 98, .int .u8 99, .int .u8 100] 4 4 Try.underlying31 Try.underlying5
    have HRW10 := Lib.hid (HROW.out W10 HB10.out)
    refine wp_region_list ?_
    repeat (first
      | refine wpList_load_row (by rfl) 35 (.tmp 7) (by rfl) g7 (by rfl) 35 M (0, 0) _ HRW10.out Try.underlying35 (by rfl) HMs.out ?_
      | go_values | go_skip | go_guarded | go_step | go_upon)
    obtain ⟨W11, hW11⟩ : ∃ W, W = W10.alloc (.cells #[.int .u8 97, .int .u8 98, .int .u8 99, .int .u8 100] 5 (4, 5)) := ⟨_, rfl⟩
    have HBS11 := Lib.hid (show Bs W11 W11.heap.size (some ⟨W10.heap.size, 0, none⟩) [97, 98, 99, 100] from bs_lit (fr := (4, 5)) [97, 98, 99, 100] (by rw [hW11]; exact heap_alloc_new W10 _) rfl)
    have hb1011 : Below W10.heap.size W10 W11 := by rw [hW11]; exact (Below.refl _ _).alloc (Nat.le_refl _) _
    have HBO11 := Lib.hid (HBO10.out.next hb1011)
    have HB11 := Lib.hid (below_chain HB10.out hb1011)
    rw [← hW11]
    clear hW11 hcv hb1011 HRW10 HBO10 HB10
    refine ((find6 (some ⟨W10.heap.size, 0, none⟩) 4 W11 (HM7.out.next HB11.out) HBS11.out (by omega)).mono fun _ _ h => sl2_of rfl h).mono ?_
    rintro e W12 ⟨gF, cF, rfl, hbf, hb12⟩
    have HBO12 := Lib.hid (HBO11.out.next hb12)
    have HBF12 := Lib.hid hbf
    have HB12 := Lib.hid (below_chain HB7.out (below_chain HB11.out hb12))
    have ca0 : W12.cell? ⟨gT, 0, none⟩ = some (.bool false) := by
      obtain ⟨b, off, e, -, hc⟩ := HBO12.out (by simp)
      injection e with e; injection e with e1 e2; subst e1 e2
      exact hc 0 (by simp)
    have ca1 : W12.cell? ⟨gT, 1, none⟩ = some (.bool true) := by
      obtain ⟨b, off, e, -, hc⟩ := HBO12.out (by simp)
      injection e with e; injection e with e1 e2; subst e1 e2
      exact hc 1 (by simp)
    have cb0 : W12.cell? ⟨gF, 0, none⟩ = some (.bool true) := by
      obtain ⟨b, off, e, -, hc⟩ := HBF12.out (by simp)
      injection e with e; injection e with e1 e2; subst e1 e2
      exact hc 0 (by simp)
    have cb1 : W12.cell? ⟨gF, 1, none⟩ = some (.bool false) := by
      obtain ⟨b, off, e, -, hc⟩ := HBF12.out (by simp)
      injection e with e; injection e with e1 e2; subst e1 e2
      exact hc 1 (by simp)
    have HMI := Lib.hid (missing_any [false, true] (some ⟨gT, 0, none⟩) cT W12 HBO12.out (by simp))
    have HDN := Lib.hid (done_any [false, true] (some ⟨gT, 0, none⟩) cT W12 HBO12.out (by simp))
    have HD1 := Lib.hid (done_any [true] (some ⟨W12.heap.size, 0, none⟩) 1 _ (bo_one W12 true) (by simp))
    have HD0 := Lib.hid (done_any [] none 0 (W12.alloc (.cells #[.bool true] 4)) Bo.none (by simp))
    rw [show missB [false, true] = 1 from rfl] at HMI
    rw [show doneB [false, true] = false from rfl] at HDN
    rw [show doneB [true] = true from rfl] at HD1
    rw [show doneB [] = false from rfl] at HD0
    clear hbf hb12 HBO11 HBS11 HBO12 HBF12 HB11
    go_wp2_with fail
    refine HMI.out.mono ?_
    rintro e w' ⟨rfl, hw⟩
    have hw2 := hw.symm
    clear hw
    subst hw2
    go_wp2_with fail
    refine HDN.out.mono ?_
    rintro e w' ⟨rfl, hw⟩
    have hw2 := hw.symm
    clear hw
    subst hw2
    go_wp2_with fail
    refine HD1.out.mono ?_
    rintro e w' ⟨rfl, hw⟩
    subst hw
    go_wp2_with fail
    refine HD0.out.mono ?_
    rintro e w' ⟨rfl, hw⟩
    subst hw
    go_wp2_with fail
    go_ret
    exact ⟨rfl, HB12.out.alloc HB12.out.size _⟩
  · skip
    refine wp_region_held_drew (S := fun w' => Hid (Below W7.heap.size W7 w')) (by kernel_rfl) (Lib.hid (Below.refl _ _).drew) (fun hHeld => ?_)
    refine wpAnyH_take (i := 0) (oi := { dst := some 37, op := Op.load 35 (Operand.tmp 7), type := 35, pos := "law.go:16", after := #[], guard := none }) (v := .agg M) rfl (by kernel_rfl) (by kernel_rfl) (by kernel_rfl) (fun _ _ _ h => h) (by exact yieldsIf_load_mid (by rfl) 35 (.tmp 7) (by rfl) g7 0 (by rfl) M.toList _ (fun w' hw' => HRNG.out w' hw'.out) Try.underlying35 (by rfl) (by rw [Array.length_toList]; exact HMs.out)) (by assumption) ?_
    simp only [Act.put, List.setIfInBounds_toArray, List.set_cons_zero, List.set_cons_succ]
    refine wpAnyH_take (i := 1) (oi := { dst := some 38, op := Op.load 35 (Operand.tmp 7), type := 35, pos := "law.go:16", after := #[], guard := none }) (v := .agg M) rfl (by kernel_rfl) (by kernel_rfl) (by kernel_rfl) (fun _ _ _ h => h) (by exact yieldsIf_load_mid (by rfl) 35 (.tmp 7) (by rfl) g7 0 (by rfl) M.toList _ (fun w' hw' => HRNG.out w' hw'.out) Try.underlying35 (by rfl) (by rw [Array.length_toList]; exact HMs.out)) (by assumption) ?_
    simp only [Act.put, List.setIfInBounds_toArray, List.set_cons_zero, List.set_cons_succ]
    clear hHeld
    obtain ⟨Za, hWa⟩ : ∃ W, W = W7.drew := ⟨_, rfl⟩
    have HBx := Lib.hid (show _ from show Below W7.heap.size W7 Za from by rw [hWa]; exact (Below.refl _ _).drew)
    rw [← hWa]
    clear hWa
    refine wpAnyH_ready (rs := [2, 3]) (by kernel_rfl) (by simp) ?_
    refine AllReadyH.cons (o := { dst := some 39, op := Op.call { callee := Callee.value (Operand.func 26), args := #[Operand.tmp 38], argTypes := #[35] }, type := 22, pos := "law.go:16", after := #[{ on := 1, ground := Ground.data }], guard := none }) rfl (fun K hK => ?_) ?_
    · go_simp
      (with_reducible refine ((none6 Za (HM7.out.next HBx.out)).mono fun _ _ h => sl2_of rfl h).mono ?_)
      rintro e Z1 ⟨gN, cN, rfl, hbn, hb⟩
      refine hK.out _ _ ?_ (fun hHeld => ?_)
      · exact Lib.hid (below_chain HBx.out hb)
      clear hHeld hK K
      try simp only [Act.put, List.setIfInBounds_toArray, List.set_cons_zero, List.set_cons_succ]
      replace HBx := Lib.hid (below_chain HBx.out hb)
      have HNx := Lib.hid hbn
      clear hbn
      clear hb
      refine wpAnyH_ready (rs := [3]) (by kernel_rfl) (by simp) ?_
      refine AllReadyH.cons (o := { dst := some 40, op := Op.buildSlice 31 2 #[(0, Operand.const (Value.int IntKind.u8 101)), (1, Operand.const (Value.int IntKind.u8 102))], type := 31, pos := "law.go:16", after := #[], guard := none }) rfl (fun K hK => ?_) AllReadyH.nil
      go_simp
      have hal : Below Z1.heap.size Z1 (Z1.alloc (.cells #[.int .u8 101, .int .u8 102] 5)) := (Below.refl _ _).alloc (Nat.le_refl _) _
      refine hK.out _ _ ?_ (fun hHeld => ?_)
      · exact Lib.hid (below_chain HBx.out hal)
      clear hHeld hK K
      try simp only [Act.put, List.setIfInBounds_toArray, List.set_cons_zero, List.set_cons_succ]
      obtain ⟨Z2, hW⟩ : ∃ W', W' = Z1.alloc (.cells #[.int .u8 101, .int .u8 102] 5) := ⟨_, rfl⟩
      change wpAnyH _ _ _ _ _ _ _ _ (Z1.alloc (.cells #[.int .u8 101, .int .u8 102] 5))
      rw [← hW]
      have hb : Below Z1.heap.size Z1 Z2 := by rw [hW]; exact hal
      clear hal
      have HRB := Lib.hid (show Z2.heap[Z1.heap.size]? = some (.cells #[.int .u8 101, .int .u8 102] 5 (0, 0)) from by rw [hW]; exact heap_alloc_new _ _)
      have HGB := Lib.hid (show W7.heap.size ≤ Z1.heap.size from HBx.out.size)
      replace HBx := Lib.hid (below_chain HBx.out hb)
      replace HNx := Lib.hid (Bo.next HNx.out hb)
      obtain ⟨gb, hgb⟩ : ∃ g, g = Z1.heap.size := ⟨_, rfl⟩
      rw [← hgb] at HRB HGB ⊢
      clear hW hb hgb
      refine wpAnyH_ready (rs := [4]) (by kernel_rfl) (by simp) ?_
      refine AllReadyH.cons (o := { dst := some 41, op := Op.convert 31 31 (Operand.tmp 40), type := 31, pos := "law.go:16", after := #[{ on := 3, ground := Ground.data }], guard := none }) rfl (fun K hK => ?_) AllReadyH.nil
      rw [if_pos (by rfl)]
      refine wp_conv (.tmp 40) (by rfl) gb _ 2 2 HRB.out (by rfl) ?_
      refine hK.out _ _ ?_ (fun hHeld => ?_)
      · exact Lib.hid (HBx.out.trans (freeze_below _ HGB.out))
      clear hHeld hK K
      try simp only [Act.put, List.setIfInBounds_toArray, List.set_cons_zero, List.set_cons_succ]
      obtain ⟨Z3, hW⟩ : ∃ W', W' = Z2.freeze ⟨gb, 2, none⟩ 1 := ⟨_, rfl⟩
      change wpAnyH _ _ _ _ _ _ _ _ (Z2.freeze ⟨gb, 2, none⟩ 1)
      rw [← hW]
      replace HBx := Lib.hid (show Below W7.heap.size W7 Z3 from by rw [hW]; exact HBx.out.trans (freeze_below _ HGB.out))
      have HTB := Lib.hid (show Bs Z3 Z3.heap.size (some ⟨gb, 0, none⟩) [101, 102] from bs_lit [101, 102] (by rw [hW]; exact freeze_block 2 HRB.out) rfl)
      replace HNx := Lib.hid (show Bo Z3 Z3.heap.size (some ⟨gN, 0, none⟩) [false, false] from by rw [hW]; exact bo_freeze _ _ HNx.out)
      clear hW HRB HGB
      refine wpAnyH_ready (rs := [5]) (by kernel_rfl) (by simp) ?_
      refine AllReadyH.cons (o := { dst := some 42, op := Op.call { callee := Callee.value (Operand.func 21), args := #[Operand.tmp 37, Operand.tmp 39, Operand.const (Value.int IntKind.i64 1), Operand.tmp 41], argTypes := #[35, 22, 3, 31] }, type := 39, pos := "law.go:16", after := #[{ on := 0, ground := Ground.data }, { on := 2, ground := Ground.data }, { on := 4, ground := Ground.data }, { on := 2, ground := Ground.chain }], guard := none }) rfl (fun K hK => ?_) AllReadyH.nil
      go_simp
      (with_reducible refine ((take6a (some ⟨gN, 0, none⟩) (some ⟨gb, 0, none⟩) cN 2 Z3 (HM7.out.next HBx.out) HNx.out (Option.some_ne_none _) HTB.out).mono fun _ _ h => tk2_of rfl h).mono ?_)
      rintro e Z4 ⟨gT, cT, rfl, hbt, hb⟩
      refine hK.out _ _ ?_ (fun hHeld => ?_)
      · exact Lib.hid (below_chain HBx.out hb)
      clear hHeld hK K
      try simp only [Act.put, List.setIfInBounds_toArray, List.set_cons_zero, List.set_cons_succ]
      replace HBx := Lib.hid (below_chain HBx.out hb)
      replace HNx := Lib.hid (Bo.next HNx.out hb)
      replace HTB := Lib.hid (Bs.next HTB.out hb)
      have HTx := Lib.hid hbt
      clear hbt
      clear hb
      have hHeld : (fun w' => Hid (Below W7.heap.size W7 w')) Z4 := Lib.hid HBx.out
      refine wpAnyH_take (i := 6) (oi := { dst := some 36, op := Op.move (Operand.tmp 42), type := 39, pos := "law.go:16", after := #[{ on := 5, ground := Ground.data }], guard := none }) (v := ?_) rfl (by kernel_rfl) (by kernel_rfl) (by kernel_rfl) (fun _ _ _ h => h) (Or.inl ⟨by rfl, ?_⟩) (by assumption) ?_
      rotate_left 1
      · intro ws hSw; (try dsimp only at hSw); go_simp; all_goals with_reducible rfl
      simp only [Act.put, List.setIfInBounds_toArray, List.set_cons_zero, List.set_cons_succ]
      clear hHeld
      have hHeld : (fun w' => Hid (Below W7.heap.size W7 w')) Z4 := Lib.hid HBx.out
      refine wpAnyH_take (i := 7) (oi := { dst := some 43, op := Op.extract (Operand.tmp 36) 0, type := 22, pos := "law.go:16", after := #[{ on := 6, ground := Ground.data }], guard := none }) (v := ?_) rfl (by kernel_rfl) (by kernel_rfl) (by kernel_rfl) (fun _ _ _ h => h) (Or.inl ⟨by rfl, ?_⟩) (by assumption) ?_
      rotate_left 1
      · intro ws hSw; (try dsimp only at hSw); go_simp; all_goals with_reducible rfl
      simp only [Act.put, List.setIfInBounds_toArray, List.set_cons_zero, List.set_cons_succ]
      clear hHeld
      have hHeld : (fun w' => Hid (Below W7.heap.size W7 w')) Z4 := Lib.hid HBx.out
      refine wpAnyH_take (i := 8) (oi := { dst := some 44, op := Op.extract (Operand.tmp 36) 1, type := 36, pos := "law.go:16", after := #[{ on := 6, ground := Ground.data }, { on := 9, ground := Ground.gcOnly Departure.lateStores }], guard := none }) (v := ?_) rfl (by kernel_rfl) (by kernel_rfl) (by kernel_rfl) (fun _ _ _ h => h) (Or.inl ⟨by rfl, ?_⟩) (by assumption) ?_
      rotate_left 1
      · intro ws hSw; (try dsimp only at hSw); go_simp; all_goals with_reducible rfl
      simp only [Act.put, List.setIfInBounds_toArray, List.set_cons_zero, List.set_cons_succ]
      clear hHeld
      have hHeld : (fun w' => Hid (Below W7.heap.size W7 w')) Z4 := Lib.hid HBx.out
      refine wpAnyH_take (i := 9) (oi := { dst := some 9, op := Op.assign (Operand.tmp 43), type := 22, pos := "law.go:16", after := #[{ on := 7, ground := Ground.data }, { on := 5, ground := Ground.chain }, { on := 0, ground := Ground.phase }, { on := 1, ground := Ground.phase }, { on := 2, ground := Ground.phase }, { on := 3, ground := Ground.phase }, { on := 4, ground := Ground.phase }, { on := 5, ground := Ground.phase }, { on := 6, ground := Ground.phase }, { on := 7, ground := Ground.phase }, { on := 8, ground := Ground.textOnly Departure.lateStores }], guard := none }) (v := ?_) rfl (by kernel_rfl) (by kernel_rfl) (by kernel_rfl) (fun _ _ _ h => h) (Or.inl ⟨by rfl, ?_⟩) (by assumption) ?_
      rotate_left 1
      · intro ws hSw; (try dsimp only at hSw); go_simp; all_goals with_reducible rfl
      simp only [Act.put, List.setIfInBounds_toArray, List.set_cons_zero, List.set_cons_succ]
      clear hHeld
      have hHeld : (fun w' => Hid (Below W7.heap.size W7 w')) Z4 := Lib.hid HBx.out
      refine wpAnyH_take (i := 10) (oi := { dst := some 10, op := Op.assign (Operand.tmp 44), type := 36, pos := "law.go:16", after := #[{ on := 8, ground := Ground.data }, { on := 9, ground := Ground.chain }, { on := 0, ground := Ground.phase }, { on := 1, ground := Ground.phase }, { on := 2, ground := Ground.phase }, { on := 3, ground := Ground.phase }, { on := 4, ground := Ground.phase }, { on := 5, ground := Ground.phase }, { on := 6, ground := Ground.phase }, { on := 7, ground := Ground.phase }, { on := 8, ground := Ground.phase }, { on := 9, ground := Ground.phase }], guard := none }) (v := ?_) rfl (by kernel_rfl) (by kernel_rfl) (by kernel_rfl) (fun _ _ _ h => h) (Or.inl ⟨by rfl, ?_⟩) (by assumption) ?_
      rotate_left 1
      · intro ws hSw; (try dsimp only at hSw); go_simp; all_goals with_reducible rfl
      simp only [Act.put, List.setIfInBounds_toArray, List.set_cons_zero, List.set_cons_succ]
      clear hHeld
      refine wpAnyH_done (by kernel_rfl) ?_ _
      exact HEND (gN, cN, gb, gT, cT) _ ⟨HTx.out, HBx.out⟩
    refine AllReadyH.cons (o := { dst := some 40, op := Op.buildSlice 31 2 #[(0, Operand.const (Value.int IntKind.u8 101)), (1, Operand.const (Value.int IntKind.u8 102))], type := 31, pos := "law.go:16", after := #[], guard := none }) rfl (fun K hK => ?_) AllReadyH.nil
    go_simp
    have hal : Below Za.heap.size Za (Za.alloc (.cells #[.int .u8 101, .int .u8 102] 5)) := (Below.refl _ _).alloc (Nat.le_refl _) _
    refine hK.out _ _ ?_ (fun hHeld => ?_)
    · exact Lib.hid (below_chain HBx.out hal)
    clear hHeld hK K
    try simp only [Act.put, List.setIfInBounds_toArray, List.set_cons_zero, List.set_cons_succ]
    obtain ⟨Z5, hW⟩ : ∃ W', W' = Za.alloc (.cells #[.int .u8 101, .int .u8 102] 5) := ⟨_, rfl⟩
    change wpAnyH _ _ _ _ _ _ _ _ (Za.alloc (.cells #[.int .u8 101, .int .u8 102] 5))
    rw [← hW]
    have hb : Below Za.heap.size Za Z5 := by rw [hW]; exact hal
    clear hal
    have HRB := Lib.hid (show Z5.heap[Za.heap.size]? = some (.cells #[.int .u8 101, .int .u8 102] 5 (0, 0)) from by rw [hW]; exact heap_alloc_new _ _)
    have HGB := Lib.hid (show W7.heap.size ≤ Za.heap.size from HBx.out.size)
    replace HBx := Lib.hid (below_chain HBx.out hb)
    obtain ⟨gb, hgb⟩ : ∃ g, g = Za.heap.size := ⟨_, rfl⟩
    rw [← hgb] at HRB HGB ⊢
    clear hW hb hgb
    refine wpAnyH_ready (rs := [2, 4]) (by kernel_rfl) (by simp) ?_
    refine AllReadyH.cons (o := { dst := some 39, op := Op.call { callee := Callee.value (Operand.func 26), args := #[Operand.tmp 38], argTypes := #[35] }, type := 22, pos := "law.go:16", after := #[{ on := 1, ground := Ground.data }], guard := none }) rfl (fun K hK => ?_) ?_
    · go_simp
      (with_reducible refine ((none6 Z5 (HM7.out.next HBx.out)).mono fun _ _ h => sl2_of rfl h).mono ?_)
      rintro e Z6 ⟨gN, cN, rfl, hbn, hb⟩
      refine hK.out _ _ ?_ (fun hHeld => ?_)
      · exact Lib.hid (below_chain HBx.out hb)
      clear hHeld hK K
      try simp only [Act.put, List.setIfInBounds_toArray, List.set_cons_zero, List.set_cons_succ]
      replace HBx := Lib.hid (below_chain HBx.out hb)
      replace HRB := Lib.hid (row_next HRB.out hb)
      replace HGB := Lib.hid (same_fact HGB.out hb)
      have HNx := Lib.hid hbn
      clear hbn
      clear hb
      refine wpAnyH_ready (rs := [4]) (by kernel_rfl) (by simp) ?_
      refine AllReadyH.cons (o := { dst := some 41, op := Op.convert 31 31 (Operand.tmp 40), type := 31, pos := "law.go:16", after := #[{ on := 3, ground := Ground.data }], guard := none }) rfl (fun K hK => ?_) AllReadyH.nil
      rw [if_pos (by rfl)]
      refine wp_conv (.tmp 40) (by rfl) gb _ 2 2 HRB.out (by rfl) ?_
      refine hK.out _ _ ?_ (fun hHeld => ?_)
      · exact Lib.hid (HBx.out.trans (freeze_below _ HGB.out))
      clear hHeld hK K
      try simp only [Act.put, List.setIfInBounds_toArray, List.set_cons_zero, List.set_cons_succ]
      obtain ⟨Z7, hW⟩ : ∃ W', W' = Z6.freeze ⟨gb, 2, none⟩ 1 := ⟨_, rfl⟩
      change wpAnyH _ _ _ _ _ _ _ _ (Z6.freeze ⟨gb, 2, none⟩ 1)
      rw [← hW]
      replace HBx := Lib.hid (show Below W7.heap.size W7 Z7 from by rw [hW]; exact HBx.out.trans (freeze_below _ HGB.out))
      have HTB := Lib.hid (show Bs Z7 Z7.heap.size (some ⟨gb, 0, none⟩) [101, 102] from bs_lit [101, 102] (by rw [hW]; exact freeze_block 2 HRB.out) rfl)
      replace HNx := Lib.hid (show Bo Z7 Z7.heap.size (some ⟨gN, 0, none⟩) [false, false] from by rw [hW]; exact bo_freeze _ _ HNx.out)
      clear hW HRB HGB
      refine wpAnyH_ready (rs := [5]) (by kernel_rfl) (by simp) ?_
      refine AllReadyH.cons (o := { dst := some 42, op := Op.call { callee := Callee.value (Operand.func 21), args := #[Operand.tmp 37, Operand.tmp 39, Operand.const (Value.int IntKind.i64 1), Operand.tmp 41], argTypes := #[35, 22, 3, 31] }, type := 39, pos := "law.go:16", after := #[{ on := 0, ground := Ground.data }, { on := 2, ground := Ground.data }, { on := 4, ground := Ground.data }, { on := 2, ground := Ground.chain }], guard := none }) rfl (fun K hK => ?_) AllReadyH.nil
      go_simp
      (with_reducible refine ((take6a (some ⟨gN, 0, none⟩) (some ⟨gb, 0, none⟩) cN 2 Z7 (HM7.out.next HBx.out) HNx.out (Option.some_ne_none _) HTB.out).mono fun _ _ h => tk2_of rfl h).mono ?_)
      rintro e Z8 ⟨gT, cT, rfl, hbt, hb⟩
      refine hK.out _ _ ?_ (fun hHeld => ?_)
      · exact Lib.hid (below_chain HBx.out hb)
      clear hHeld hK K
      try simp only [Act.put, List.setIfInBounds_toArray, List.set_cons_zero, List.set_cons_succ]
      replace HBx := Lib.hid (below_chain HBx.out hb)
      replace HNx := Lib.hid (Bo.next HNx.out hb)
      replace HTB := Lib.hid (Bs.next HTB.out hb)
      have HTx := Lib.hid hbt
      clear hbt
      clear hb
      have hHeld : (fun w' => Hid (Below W7.heap.size W7 w')) Z8 := Lib.hid HBx.out
      refine wpAnyH_take (i := 6) (oi := { dst := some 36, op := Op.move (Operand.tmp 42), type := 39, pos := "law.go:16", after := #[{ on := 5, ground := Ground.data }], guard := none }) (v := ?_) rfl (by kernel_rfl) (by kernel_rfl) (by kernel_rfl) (fun _ _ _ h => h) (Or.inl ⟨by rfl, ?_⟩) (by assumption) ?_
      rotate_left 1
      · intro ws hSw; (try dsimp only at hSw); go_simp; all_goals with_reducible rfl
      simp only [Act.put, List.setIfInBounds_toArray, List.set_cons_zero, List.set_cons_succ]
      clear hHeld
      have hHeld : (fun w' => Hid (Below W7.heap.size W7 w')) Z8 := Lib.hid HBx.out
      refine wpAnyH_take (i := 7) (oi := { dst := some 43, op := Op.extract (Operand.tmp 36) 0, type := 22, pos := "law.go:16", after := #[{ on := 6, ground := Ground.data }], guard := none }) (v := ?_) rfl (by kernel_rfl) (by kernel_rfl) (by kernel_rfl) (fun _ _ _ h => h) (Or.inl ⟨by rfl, ?_⟩) (by assumption) ?_
      rotate_left 1
      · intro ws hSw; (try dsimp only at hSw); go_simp; all_goals with_reducible rfl
      simp only [Act.put, List.setIfInBounds_toArray, List.set_cons_zero, List.set_cons_succ]
      clear hHeld
      have hHeld : (fun w' => Hid (Below W7.heap.size W7 w')) Z8 := Lib.hid HBx.out
      refine wpAnyH_take (i := 8) (oi := { dst := some 44, op := Op.extract (Operand.tmp 36) 1, type := 36, pos := "law.go:16", after := #[{ on := 6, ground := Ground.data }, { on := 9, ground := Ground.gcOnly Departure.lateStores }], guard := none }) (v := ?_) rfl (by kernel_rfl) (by kernel_rfl) (by kernel_rfl) (fun _ _ _ h => h) (Or.inl ⟨by rfl, ?_⟩) (by assumption) ?_
      rotate_left 1
      · intro ws hSw; (try dsimp only at hSw); go_simp; all_goals with_reducible rfl
      simp only [Act.put, List.setIfInBounds_toArray, List.set_cons_zero, List.set_cons_succ]
      clear hHeld
      have hHeld : (fun w' => Hid (Below W7.heap.size W7 w')) Z8 := Lib.hid HBx.out
      refine wpAnyH_take (i := 9) (oi := { dst := some 9, op := Op.assign (Operand.tmp 43), type := 22, pos := "law.go:16", after := #[{ on := 7, ground := Ground.data }, { on := 5, ground := Ground.chain }, { on := 0, ground := Ground.phase }, { on := 1, ground := Ground.phase }, { on := 2, ground := Ground.phase }, { on := 3, ground := Ground.phase }, { on := 4, ground := Ground.phase }, { on := 5, ground := Ground.phase }, { on := 6, ground := Ground.phase }, { on := 7, ground := Ground.phase }, { on := 8, ground := Ground.textOnly Departure.lateStores }], guard := none }) (v := ?_) rfl (by kernel_rfl) (by kernel_rfl) (by kernel_rfl) (fun _ _ _ h => h) (Or.inl ⟨by rfl, ?_⟩) (by assumption) ?_
      rotate_left 1
      · intro ws hSw; (try dsimp only at hSw); go_simp; all_goals with_reducible rfl
      simp only [Act.put, List.setIfInBounds_toArray, List.set_cons_zero, List.set_cons_succ]
      clear hHeld
      have hHeld : (fun w' => Hid (Below W7.heap.size W7 w')) Z8 := Lib.hid HBx.out
      refine wpAnyH_take (i := 10) (oi := { dst := some 10, op := Op.assign (Operand.tmp 44), type := 36, pos := "law.go:16", after := #[{ on := 8, ground := Ground.data }, { on := 9, ground := Ground.chain }, { on := 0, ground := Ground.phase }, { on := 1, ground := Ground.phase }, { on := 2, ground := Ground.phase }, { on := 3, ground := Ground.phase }, { on := 4, ground := Ground.phase }, { on := 5, ground := Ground.phase }, { on := 6, ground := Ground.phase }, { on := 7, ground := Ground.phase }, { on := 8, ground := Ground.phase }, { on := 9, ground := Ground.phase }], guard := none }) (v := ?_) rfl (by kernel_rfl) (by kernel_rfl) (by kernel_rfl) (fun _ _ _ h => h) (Or.inl ⟨by rfl, ?_⟩) (by assumption) ?_
      rotate_left 1
      · intro ws hSw; (try dsimp only at hSw); go_simp; all_goals with_reducible rfl
      simp only [Act.put, List.setIfInBounds_toArray, List.set_cons_zero, List.set_cons_succ]
      clear hHeld
      refine wpAnyH_done (by kernel_rfl) ?_ _
      exact HEND (gN, cN, gb, gT, cT) _ ⟨HTx.out, HBx.out⟩
    refine AllReadyH.cons (o := { dst := some 41, op := Op.convert 31 31 (Operand.tmp 40), type := 31, pos := "law.go:16", after := #[{ on := 3, ground := Ground.data }], guard := none }) rfl (fun K hK => ?_) AllReadyH.nil
    rw [if_pos (by rfl)]
    refine wp_conv (.tmp 40) (by rfl) gb _ 2 2 HRB.out (by rfl) ?_
    refine hK.out _ _ ?_ (fun hHeld => ?_)
    · exact Lib.hid (HBx.out.trans (freeze_below _ HGB.out))
    clear hHeld hK K
    try simp only [Act.put, List.setIfInBounds_toArray, List.set_cons_zero, List.set_cons_succ]
    obtain ⟨Z9, hW⟩ : ∃ W', W' = Z5.freeze ⟨gb, 2, none⟩ 1 := ⟨_, rfl⟩
    change wpAnyH _ _ _ _ _ _ _ _ (Z5.freeze ⟨gb, 2, none⟩ 1)
    rw [← hW]
    replace HBx := Lib.hid (show Below W7.heap.size W7 Z9 from by rw [hW]; exact HBx.out.trans (freeze_below _ HGB.out))
    have HTB := Lib.hid (show Bs Z9 Z9.heap.size (some ⟨gb, 0, none⟩) [101, 102] from bs_lit [101, 102] (by rw [hW]; exact freeze_block 2 HRB.out) rfl)
    clear hW HRB HGB
    refine wpAnyH_ready (rs := [2]) (by kernel_rfl) (by simp) ?_
    refine AllReadyH.cons (o := { dst := some 39, op := Op.call { callee := Callee.value (Operand.func 26), args := #[Operand.tmp 38], argTypes := #[35] }, type := 22, pos := "law.go:16", after := #[{ on := 1, ground := Ground.data }], guard := none }) rfl (fun K hK => ?_) AllReadyH.nil
    go_simp
    (with_reducible refine ((none6 Z9 (HM7.out.next HBx.out)).mono fun _ _ h => sl2_of rfl h).mono ?_)
    rintro e Z10 ⟨gN, cN, rfl, hbn, hb⟩
    refine hK.out _ _ ?_ (fun hHeld => ?_)
    · exact Lib.hid (below_chain HBx.out hb)
    clear hHeld hK K
    try simp only [Act.put, List.setIfInBounds_toArray, List.set_cons_zero, List.set_cons_succ]
    replace HBx := Lib.hid (below_chain HBx.out hb)
    replace HTB := Lib.hid (Bs.next HTB.out hb)
    have HNx := Lib.hid hbn
    clear hbn
    clear hb
    refine wpAnyH_ready (rs := [5]) (by kernel_rfl) (by simp) ?_
    refine AllReadyH.cons (o := { dst := some 42, op := Op.call { callee := Callee.value (Operand.func 21), args := #[Operand.tmp 37, Operand.tmp 39, Operand.const (Value.int IntKind.i64 1), Operand.tmp 41], argTypes := #[35, 22, 3, 31] }, type := 39, pos := "law.go:16", after := #[{ on := 0, ground := Ground.data }, { on := 2, ground := Ground.data }, { on := 4, ground := Ground.data }, { on := 2, ground := Ground.chain }], guard := none }) rfl (fun K hK => ?_) AllReadyH.nil
    go_simp
    (with_reducible refine ((take6a (some ⟨gN, 0, none⟩) (some ⟨gb, 0, none⟩) cN 2 Z10 (HM7.out.next HBx.out) HNx.out (Option.some_ne_none _) HTB.out).mono fun _ _ h => tk2_of rfl h).mono ?_)
    rintro e Z11 ⟨gT, cT, rfl, hbt, hb⟩
    refine hK.out _ _ ?_ (fun hHeld => ?_)
    · exact Lib.hid (below_chain HBx.out hb)
    clear hHeld hK K
    try simp only [Act.put, List.setIfInBounds_toArray, List.set_cons_zero, List.set_cons_succ]
    replace HBx := Lib.hid (below_chain HBx.out hb)
    replace HTB := Lib.hid (Bs.next HTB.out hb)
    replace HNx := Lib.hid (Bo.next HNx.out hb)
    have HTx := Lib.hid hbt
    clear hbt
    clear hb
    have hHeld : (fun w' => Hid (Below W7.heap.size W7 w')) Z11 := Lib.hid HBx.out
    refine wpAnyH_take (i := 6) (oi := { dst := some 36, op := Op.move (Operand.tmp 42), type := 39, pos := "law.go:16", after := #[{ on := 5, ground := Ground.data }], guard := none }) (v := ?_) rfl (by kernel_rfl) (by kernel_rfl) (by kernel_rfl) (fun _ _ _ h => h) (Or.inl ⟨by rfl, ?_⟩) (by assumption) ?_
    rotate_left 1
    · intro ws hSw; (try dsimp only at hSw); go_simp; all_goals with_reducible rfl
    simp only [Act.put, List.setIfInBounds_toArray, List.set_cons_zero, List.set_cons_succ]
    clear hHeld
    have hHeld : (fun w' => Hid (Below W7.heap.size W7 w')) Z11 := Lib.hid HBx.out
    refine wpAnyH_take (i := 7) (oi := { dst := some 43, op := Op.extract (Operand.tmp 36) 0, type := 22, pos := "law.go:16", after := #[{ on := 6, ground := Ground.data }], guard := none }) (v := ?_) rfl (by kernel_rfl) (by kernel_rfl) (by kernel_rfl) (fun _ _ _ h => h) (Or.inl ⟨by rfl, ?_⟩) (by assumption) ?_
    rotate_left 1
    · intro ws hSw; (try dsimp only at hSw); go_simp; all_goals with_reducible rfl
    simp only [Act.put, List.setIfInBounds_toArray, List.set_cons_zero, List.set_cons_succ]
    clear hHeld
    have hHeld : (fun w' => Hid (Below W7.heap.size W7 w')) Z11 := Lib.hid HBx.out
    refine wpAnyH_take (i := 8) (oi := { dst := some 44, op := Op.extract (Operand.tmp 36) 1, type := 36, pos := "law.go:16", after := #[{ on := 6, ground := Ground.data }, { on := 9, ground := Ground.gcOnly Departure.lateStores }], guard := none }) (v := ?_) rfl (by kernel_rfl) (by kernel_rfl) (by kernel_rfl) (fun _ _ _ h => h) (Or.inl ⟨by rfl, ?_⟩) (by assumption) ?_
    rotate_left 1
    · intro ws hSw; (try dsimp only at hSw); go_simp; all_goals with_reducible rfl
    simp only [Act.put, List.setIfInBounds_toArray, List.set_cons_zero, List.set_cons_succ]
    clear hHeld
    have hHeld : (fun w' => Hid (Below W7.heap.size W7 w')) Z11 := Lib.hid HBx.out
    refine wpAnyH_take (i := 9) (oi := { dst := some 9, op := Op.assign (Operand.tmp 43), type := 22, pos := "law.go:16", after := #[{ on := 7, ground := Ground.data }, { on := 5, ground := Ground.chain }, { on := 0, ground := Ground.phase }, { on := 1, ground := Ground.phase }, { on := 2, ground := Ground.phase }, { on := 3, ground := Ground.phase }, { on := 4, ground := Ground.phase }, { on := 5, ground := Ground.phase }, { on := 6, ground := Ground.phase }, { on := 7, ground := Ground.phase }, { on := 8, ground := Ground.textOnly Departure.lateStores }], guard := none }) (v := ?_) rfl (by kernel_rfl) (by kernel_rfl) (by kernel_rfl) (fun _ _ _ h => h) (Or.inl ⟨by rfl, ?_⟩) (by assumption) ?_
    rotate_left 1
    · intro ws hSw; (try dsimp only at hSw); go_simp; all_goals with_reducible rfl
    simp only [Act.put, List.setIfInBounds_toArray, List.set_cons_zero, List.set_cons_succ]
    clear hHeld
    have hHeld : (fun w' => Hid (Below W7.heap.size W7 w')) Z11 := Lib.hid HBx.out
    refine wpAnyH_take (i := 10) (oi := { dst := some 10, op := Op.assign (Operand.tmp 44), type := 36, pos := "law.go:16", after := #[{ on := 8, ground := Ground.data }, { on := 9, ground := Ground.chain }, { on := 0, ground := Ground.phase }, { on := 1, ground := Ground.phase }, { on := 2, ground := Ground.phase }, { on := 3, ground := Ground.phase }, { on := 4, ground := Ground.phase }, { on := 5, ground := Ground.phase }, { on := 6, ground := Ground.phase }, { on := 7, ground := Ground.phase }, { on := 8, ground := Ground.phase }, { on := 9, ground := Ground.phase }], guard := none }) (v := ?_) rfl (by kernel_rfl) (by kernel_rfl) (by kernel_rfl) (fun _ _ _ h => h) (Or.inl ⟨by rfl, ?_⟩) (by assumption) ?_
    rotate_left 1
    · intro ws hSw; (try dsimp only at hSw); go_simp; all_goals with_reducible rfl
    simp only [Act.put, List.setIfInBounds_toArray, List.set_cons_zero, List.set_cons_succ]
    clear hHeld
    refine wpAnyH_done (by kernel_rfl) ?_ _
    exact HEND (gN, cN, gb, gT, cT) _ ⟨HTx.out, HBx.out⟩
end Go.Proofs.Ytmpbimechgelfaa

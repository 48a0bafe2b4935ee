/- transfer.Find. -/
import Derived.Test.YtmpbimechgelfaaTake2
import Derived.Test.YtmpbimechgelfaaNext
namespace Go.Proofs.Ytmpbimechgelfaa
open Go Go.RowKit

/-- What some bytes have of chunk i. -/
def fchunk (s k : Int) (n : Nat) (i : Nat) (l : List Nat) : List Nat := cutL l (min (fromI s k n i).toNat l.length) (min (toI s k n i).toNat l.length)
/-- Which of the first j chunks bytes hold. -/
def fndL (s k : Int) (hs : List (Nat → Nat)) (l : List Nat) (j : Nat) : List Bool := (List.range j).map fun (i : Nat) => decide (verI s k hs (i : Int) (fchunk s k hs.length i l) = 0)
theorem fndL_len (s k : Int) (hs : List (Nat → Nat)) (l : List Nat) (j : Nat) : (fndL s k hs l j).length = j := by simp [fndL]
theorem fndL_succ (s k : Int) (hs : List (Nat → Nat)) (l : List Nat) (j : Nat) : fndL s k hs l j ++ [decide (verI s k hs (j : Int) (fchunk s k hs.length j l) = 0)] = fndL s k hs l (j + 1) := by
  unfold fndL; rw [List.range_succ, List.map_append]; rfl
def findL (s k : Int) (hs : List (Nat → Nat)) (l : List Nat) : List Bool := match chkB s k hs.length with | false => [] | true => fndL s k hs l hs.length
/-- 'append' of Booleans, as one step of a region that draws. -/
theorem step_ol {w : World} {ops : Array Oper} {E : Prop} {o : Oper} {a : Act} {K : Act → World → Prop} {Q : Exit → Act → World → Prop} (hgd : o.guard = none) (s y : Operand)
    (ho : o.op = .call { callee := .builtin .append, args := #[s, y], argTypes := #[22, 22] }) (hty : o.type = 22) {base B : Nat} {v : Value} {l m : List Bool} (h : Ol w base v l) (A : Option Addr) (n c : Nat) (hn : n = m.length)
    (hs : a.eval s = v) (hy : a.eval y = .slice A n c) (hr : Bo w B A m) (hc : A = none → c = 0) (hlen : l.length + m.length ≤ 2000000) (hbase : base ≤ w.heap.size)
    (hk : ∀ v' w', Ol w' base v' (l ++ m) → Below base w w' → K (a.put o.dst v') w') : if Region.wanted o (yielded ops a.tmps) = true then Oper.wp Try.prog o a w K Q else E := by
  obtain ⟨i0, hi0, hz0, hz1, hz2⟩ := info_parts info_bool
  subst hn
  obtain ⟨v', w', hrun, h2, h3, _⟩ := run_app (P := Try.prog) w base 22 22 4 i0 _ 1 1 Try.underlying22 hi0 hz0 hz1 hz2 rfl (by omega) v l.length (bb l) h B A m.length c (bb m) hr hc (fun j _ => rfl) (by unfold maxLen; omega) (by omega) hbase
  have hbl : Below base w w' := (Below.refl _ _).grown h3 hbase (fun k hk => (Own.block h k hk).1)
  have hw : Region.wanted o (yielded ops a.tmps) = true := by simp [Region.wanted, hgd]
  rw [if_pos hw]
  unfold Oper.wp execOp
  simp only [ho, hty, resolve, invoke, builtin, Sem.run_bind, Sem.run_pure, Result.andThen_ok, List.map_toArray, List.map_cons, List.map_nil, hs, hy, hrun]
  refine hk v' w' ?_ hbl
  unfold Ol
  rw [List.length_append]
  exact Own.congr h2 fun j hj => bb_app l m j hj
theorem yieldsIf_slice3 {ops : Array Oper} {S : World → Prop} {op : Oper} {a : Act} (hw : Region.wanted op (yielded ops a.tmps) = true) (ty : TypeId) (x lo hi mx : Operand) (ho : op.op = .slice ty x (some lo) (some hi) (some mx))
    (ht : Try.prog.underlying ty = some (.slice (Try.prog.elem ty))) (v0 v1 v2 v3 v : Value) (hx : a.eval x = v0) (hl : a.eval lo = v1) (hh : a.eval hi = v2) (hm : a.eval mx = v3) (hrun : ∀ W, (Instr.slice ty v0 (some v1) (some v2) (some v3)).run Try.prog W = .ok v W) : YieldsIf Try.prog ops S op v a :=
  .inl ⟨hw, fun w _ => by
    unfold execOp
    simp only [ho, hx, hl, hh, hm, Option.map_some, Sem.run_bind, Sem.run_pure, Result.andThen_ok, run_sliceAt_slice (h := ht), hrun]⟩
theorem bo_one (w : World) (x : Bool) : Bo (w.alloc (.cells #[.bool x] 4)) (w.alloc (.cells #[.bool x] 4)).heap.size (some ⟨w.heap.size, 0, none⟩) [x] := fun _ =>
  ⟨w.heap.size, 0, rfl, by simp, fun j hj => by
    obtain rfl : j = 0 := by simp at hj; omega
    exact cell_of_one (heap_alloc_new w _)⟩
theorem under_slice : Try.prog.underlying 31 = some (.slice (Try.prog.elem 31)) := by simp [Program.elem, Try.underlying31]
/-- What the loop keeps. -/
def FInv (W0 : World) (s k : Int) (hs : List (Nat → Nat)) (l : List Nat) (v : Value) (j : Nat) (w : World) : Prop :=
  ∃ Av cv, v = .slice Av j cv ∧ Ol w W0.heap.size (.slice Av j cv) (fndL s k hs l j) ∧ Below W0.heap.size W0 w
set_option maxRecDepth 100000 in
set_option maxHeartbeats 4000000 in
theorem find_any (s k : Int) (A : Option Addr) (c : Nat) (hs : List (Nat → Nat)) (f : Nat → Nat) (A2 : Option Addr) (c2 : Nat) (l : List Nat) (w : World)
    (hh : Hs w w.heap.size A hs) (h : Bs w w.heap.size A2 l) (hlc : l.length ≤ c2) (hby : Byt l) :
    Calls Try.prog 24 #[.agg (mcv s k (.slice A hs.length c) f), .slice A2 l.length c2] w (OlEnd w.heap.size (findL s k hs l) w) := by
  obtain ⟨n, hn⟩ : ∃ n, n = hs.length := ⟨_, rfl⟩
  obtain ⟨m, hm⟩ : ∃ n, n = l.length := ⟨_, rfl⟩
  obtain ⟨M, hM⟩ : ∃ M, M = mcv s k (.slice A n c) f := ⟨_, rfl⟩
  obtain ⟨L, hL⟩ : ∃ L, L = findL s k hs l := ⟨_, rfl⟩
  obtain ⟨b, hb⟩ : ∃ b, b = chkB s k n := ⟨_, rfl⟩
  obtain ⟨W0, hW0⟩ : ∃ W0, W0 = w.alloc (.cells M 35) := ⟨_, rfl⟩
  have hB0 : Below w.heap.size w W0 := by rw [hW0]; exact (by repeat (first | exact Below.refl _ _ | assumption | refine below_drewN ?_ _ | refine Below.drew ?_ | refine Below.alloc ?_ (by simp; try omega) _ | refine Below.setCell ?_ (by simp; try omega) _))
  have hmb : MB W0 w.heap.size s k (.slice A n c) f := by rw [hW0, hM]; exact heap_alloc_new w _
  have hrow : W0.heap[w.heap.size]? = some (.cells M 35 (0, 0)) := by rw [hW0]; exact heap_alloc_new w _
  have hg0 : w.heap.size < W0.heap.size := hmb.lt
  have HCK := Lib.hid (fun w => check_any s k A n c f w)
  have HPT := Lib.hid (fun i w => part_any s k A n c f i w)
  rw [← hM, ← hb] at HCK
  rw [← hM] at HPT
  have HVF : Hid (∀ W, Below W0.heap.size W0 W → ∀ (i : Int) A5 c5 l5, Bs W W.heap.size A5 l5 → Byt l5 → Calls Try.prog 23 #[.agg M, .int .i64 i, .slice A5 l5.length c5] W fun e w' => e = .returned (.int .i64 (verI s k hs i l5)) ∧ Below W.heap.size W w') := Lib.hid fun W hb i A5 c5 l5 h5 hy5 => by
    have h1 := verify_any s k A c hs f i A5 c5 l5 W ((hh.next hB0).next hb) h5 hy5
    rw [← hn, ← hM] at h1
    exact h1
  have HMs : Hid ((Try.prog.info? 35).map (·.size) = some M.size) := Lib.hid (by rw [hM]; exact size_mcv)
  have HR0 := Lib.hid (fun (W : World) (hb : Below W0.heap.size W0 W) => show W.heap[w.heap.size]? = some (.cells M 35 (0, 0)) ∧ W.cell? ⟨w.heap.size, 2, none⟩ = some (.slice A n c) from
    ⟨(hb.block _ hg0).trans hrow, (hb.cell (p := ⟨w.heap.size, 2, none⟩) hg0).trans hmb.c2⟩)
  have HBS := Lib.hid (h.next hB0)
  rw [← hn, ← hm, ← hM, ← hL]
  rw [← hm] at hlc
  have HW0 := Lib.hid hW0
  have HB0 := Lib.hid hB0
  obtain ⟨g, hg⟩ : ∃ g, g = w.heap.size := ⟨_, rfl⟩
  rw [← hg] at HR0 hg0
  have HG := Lib.hid hg
  have HN := Lib.hid hn
  have HM := Lib.hid hm
  have HL := Lib.hid hL
  have HBY := Lib.hid hby
  have HBB := Lib.hid hb
  clear hn hm hM hL hb hW0 hB0 hmb hrow hg hh h hby
  go_enter Try.func24, Try.ntmps24
  go_upto_region 1 with (fail)
  change Code.wp _ _ _ _ (w.alloc (.cells M 35))
  rw [← HW0.out, ← HG.out]
  have HROW := Lib.hid (HR0.out W0 (Below.refl _ _)).1
  refine wp_region_list ?_
  repeat (first
    | refine wpList_load_row (by rfl) 35 (.tmp 2) (by rfl) g (by rfl) 35 M (0, 0) _ HROW.out Try.underlying35 (by rfl) HMs.out ?_
    | go_values | go_skip | go_guarded | go_step | go_upon)
  refine (HCK.out W0).mono ?_
  rintro e w1 ⟨rfl, hb1⟩
  have HB1 := Lib.hid hb1
  clear hb1 HROW HCK
  cases b with
  | false =>
    have HE := Lib.hid (show L = [] from by rw [HL.out]; unfold findL; rw [← HN.out, ← HBB.out])
    have HBF := Lib.hid (below_chain HB0.out HB1.out)
    unfold eno
    go_wp2_with fail
    go_ret
    exact ⟨_, rfl, by rw [HE.out]; exact Ol.nil, HBF.out⟩
  | true =>
    have HE := Lib.hid (show L = fndL s k hs l n from by rw [HL.out]; unfold findL; rw [← HN.out, ← HBB.out])
    obtain ⟨hs1, hs2, hk1, hk2, hn1, hn2, -⟩ := chk_facts HBB.out.symm
    have c2' := (HR0.out w1 HB1.out).2
    unfold eno
    go_wp2_with fail
    go_loopw [4, 14] (fun v i wr => ∃ j : Nat, i = .int .i64 (j : Int) ∧ j ≤ n ∧ FInv W0 s k hs l v j wr) (fun _ i _ => (n - intOf i).toNat)
    case atStart => exact ⟨0, rfl, Nat.zero_le _, none, 0, rfl, Ol.nil, HB1.out⟩
    case round =>
      obtain ⟨j, rfl, hj, Av, cv, rfl, hol, hbl⟩ := hrel
      have HOL := Lib.hid hol
      have HBL := Lib.hid hbl
      clear hol hbl
      by_cases hlt : j < n
      · have hin : partB s k n (j : Int) = true := by unfold partB; rw [← HBB.out, decide_eq_true (by omega), decide_eq_true (by omega)]; rfl
        obtain ⟨-, -, -, -, hy1, hy2, hx1, hx2, hxy⟩ := in_part hin
        obtain ⟨x, hx⟩ : ∃ x, x = fromI s k n (j : Int) := ⟨_, rfl⟩
        obtain ⟨y, hy⟩ : ∃ x, x = toI s k n (j : Int) := ⟨_, rfl⟩
        have HP := Lib.hid (fun W => HPT.out (j : Int) W)
        rw [← hx, ← hy] at HP
        have hxy2 : x ≤ y := by
          have e1 : x = (j : Int) * k := by rw [hx]; unfold fromI; rw [hin]
          have e2 : y = min (((j : Int) + 1) * k) s := by rw [hy]; unfold toI; rw [hin]
          have e3 : ((j : Int) + 1) * k = (j : Int) * k + k := by rw [Int.add_mul, Int.one_mul]
          have hnc := (chk_facts HBB.out.symm).2.2.2.2.2.2
          have h1 : (j : Int) * k ≤ ((n : Int) - 1) * k := Int.mul_le_mul_of_nonneg_right (by omega) (by omega)
          have h2 : (n : Int) * k ≤ s + k - 1 := by rw [hnc]; exact Int.ediv_mul_le _ (by omega)
          have h3 : ((n : Int) - 1) * k = (n : Int) * k - k := by rw [Int.sub_mul, Int.one_mul]
          rw [e1, e2, e3]
          omega
        rw [← hx] at hx1 hx2 hxy
        rw [← hy] at hy1 hy2 hxy
        obtain ⟨X, hX⟩ : ∃ X, X = min x.toNat m := ⟨_, rfl⟩
        obtain ⟨Y, hY⟩ : ∃ Y, Y = min y.toNat m := ⟨_, rfl⟩
        have eX : min x (m : Int) = (X : Int) := by omega
        have eY : min y (m : Int) = (Y : Int) := by omega
        have hXY : X ≤ Y := by omega
        have hYm : Y ≤ m := by omega
        obtain ⟨A5, hsl, hrd, -⟩ := slice_lhh Try.underlying31 size_5 A2 m c2 X Y hXY hYm hlc
        have hfc : fchunk s k n j l = cutL l X Y := by unfold fchunk; rw [← hx, ← hy, ← HM.out, ← hX, ← hY]
        obtain ⟨l5, hl5⟩ : ∃ x, x = cutL l X Y := ⟨_, rfl⟩
        have hlen5 : l5.length = Y - X := by rw [hl5]; exact cutL_len (by rw [← HM.out]; exact hYm)
        rw [← hlen5] at hsl
        have HB5 := Lib.hid (fun (W : World) (hb : Below W0.heap.size W0 W) => show Bs W W.heap.size A5 l5 from by
          have h := HBS.out.next hb
          unfold Bs at h
          rw [← HM.out] at h
          rw [hl5]
          exact cut_bs (by rw [← HM.out]; exact hYm) (hrd _ _ _ h))
        have HY5 := Lib.hid (show Byt l5 from by rw [hl5]; exact cutL_byt HBY.out _ _)
        obtain ⟨r, hr⟩ : ∃ r, r = verI s k hs (j : Int) l5 := ⟨_, rfl⟩
        obtain ⟨pb, hpb⟩ : ∃ p, p = decide (r = 0) := ⟨_, rfl⟩
        have hreq : (r == 0) = pb := by rw [hpb]; by_cases e : r = 0 <;> simp [e]
        have HFL := Lib.hid (show fndL s k hs l j ++ [pb] = fndL s k hs l (j + 1) from by rw [← fndL_succ, ← HN.out, hfc, ← hl5, ← hr, ← hpb])
        have HV5 := Lib.hid (fun (W : World) (hb : Below W0.heap.size W0 W) => HVF.out W hb (j : Int) A5 (l5.length) l5 (HB5.out W hb) HY5.out)
        rw [← hr] at HV5
        rw [← eX, ← eY] at hsl
        have HSL := Lib.hid hsl
        have HRNG := Lib.hid (fun (W : World) (hb : Below W0.heap.size W0 W) => box_range (HR0.out W hb).1)
        have HROW := Lib.hid (HR0.out wr HBL.out).1
        have hjn : (j : Int) < (n : Int) := by omega
        clear hin hX hY eX eY hXY hYm hsl hrd hfc hl5 hlen5 hr hpb hx hy
        go_upto_region 6 with (fail)
        refine wp_region_list ?_
        repeat (first
          | refine wpList_load_row (by rfl) 35 (.tmp 2) (by rfl) g (by rfl) 35 M (0, 0) _ HROW.out Try.underlying35 (by rfl) HMs.out ?_
          | go_values | go_skip | go_guarded | go_step | go_upon)
        refine (HP.out wr).mono ?_
        rintro e w2 ⟨rfl, hb2⟩
        have HBL2 := Lib.hid (below_chain HBL.out hb2)
        have HOL2 := Lib.hid (HOL.out.next hb2)
        clear hb2 HROW
        go_upto_region 8 with (fail)
        have hSL := HSL.out
        refine wp_region_held_drew (S := fun w' => Hid (Below W0.heap.size W0 w')) (by kernel_rfl) (Lib.hid HBL2.out.drew) (fun hHeld => ?_)
        refine wpAnyH_take (i := 0) (oi := { dst := some 31, op := Op.move (Operand.tmp 4), type := 22, pos := "transfer.go:70", after := #[], guard := none }) (v := ?_) rfl (by kernel_rfl) (by kernel_rfl) (by kernel_rfl) (fun _ _ _ h => h) (Or.inl ⟨by rfl, ?_⟩) (by assumption) ?_
        rotate_left 1
        · intro ws hSw; (try dsimp only at hSw); go_simp; all_goals with_reducible rfl
        simp only [Act.put, List.setIfInBounds_toArray, List.set_cons_zero, List.set_cons_succ]
        refine wpAnyH_take (i := 1) (oi := { dst := some 32, op := Op.load 35 (Operand.tmp 2), type := 35, pos := "transfer.go:70", after := #[], guard := none }) (v := .agg M) rfl (by kernel_rfl) (by kernel_rfl) (by kernel_rfl) (fun _ _ _ h => h) (by exact yieldsIf_load_mid (by rfl) 35 (.tmp 2) (by rfl) g 0 (by rfl) M.toList _ (fun w' hw' => HRNG.out w' hw'.out) Try.underlying35 (by rfl) (by rw [Array.length_toList]; exact HMs.out)) (by assumption) ?_
        simp only [Act.put, List.setIfInBounds_toArray, List.set_cons_zero, List.set_cons_succ]
        refine wpAnyH_take (i := 2) (oi := { dst := some 33, op := Op.move (Operand.tmp 5), type := 3, pos := "transfer.go:70", after := #[], guard := none }) (v := ?_) rfl (by kernel_rfl) (by kernel_rfl) (by kernel_rfl) (fun _ _ _ h => h) (Or.inl ⟨by rfl, ?_⟩) (by assumption) ?_
        rotate_left 1
        · intro ws hSw; (try dsimp only at hSw); go_simp; all_goals with_reducible rfl
        simp only [Act.put, List.setIfInBounds_toArray, List.set_cons_zero, List.set_cons_succ]
        refine wpAnyH_take (i := 3) (oi := { dst := some 34, op := Op.move (Operand.tmp 1), type := 31, pos := "transfer.go:70", after := #[], guard := none }) (v := ?_) rfl (by kernel_rfl) (by kernel_rfl) (by kernel_rfl) (fun _ _ _ h => h) (Or.inl ⟨by rfl, ?_⟩) (by assumption) ?_
        rotate_left 1
        · intro ws hSw; (try dsimp only at hSw); go_simp; all_goals with_reducible rfl
        simp only [Act.put, List.setIfInBounds_toArray, List.set_cons_zero, List.set_cons_succ]
        refine wpAnyH_take (i := 4) (oi := { dst := some 35, op := Op.move (Operand.tmp 6), type := 3, pos := "transfer.go:70", after := #[], guard := none }) (v := ?_) rfl (by kernel_rfl) (by kernel_rfl) (by kernel_rfl) (fun _ _ _ h => h) (Or.inl ⟨by rfl, ?_⟩) (by assumption) ?_
        rotate_left 1
        · intro ws hSw; (try dsimp only at hSw); go_simp; all_goals with_reducible rfl
        simp only [Act.put, List.setIfInBounds_toArray, List.set_cons_zero, List.set_cons_succ]
        refine wpAnyH_take (i := 5) (oi := { dst := some 36, op := Op.move (Operand.tmp 7), type := 3, pos := "transfer.go:70", after := #[], guard := none }) (v := ?_) rfl (by kernel_rfl) (by kernel_rfl) (by kernel_rfl) (fun _ _ _ h => h) (Or.inl ⟨by rfl, ?_⟩) (by assumption) ?_
        rotate_left 1
        · intro ws hSw; (try dsimp only at hSw); go_simp; all_goals with_reducible rfl
        simp only [Act.put, List.setIfInBounds_toArray, List.set_cons_zero, List.set_cons_succ]
        refine wpAnyH_take (i := 6) (oi := { dst := some 37, op := Op.move (Operand.tmp 7), type := 3, pos := "transfer.go:70", after := #[], guard := none }) (v := ?_) rfl (by kernel_rfl) (by kernel_rfl) (by kernel_rfl) (fun _ _ _ h => h) (Or.inl ⟨by rfl, ?_⟩) (by assumption) ?_
        rotate_left 1
        · intro ws hSw; (try dsimp only at hSw); go_simp; all_goals with_reducible rfl
        simp only [Act.put, List.setIfInBounds_toArray, List.set_cons_zero, List.set_cons_succ]
        refine wpAnyH_take (i := 7) (oi := { dst := some 38, op := Op.slice 31 (Operand.tmp 34) (some (Operand.tmp 35)) (some (Operand.tmp 36)) (some (Operand.tmp 37)), type := 31, pos := "transfer.go:70", after := #[{ on := 3, ground := Ground.data }, { on := 4, ground := Ground.data }, { on := 5, ground := Ground.data }, { on := 6, ground := Ground.data }], guard := none }) (v := .slice A5 l5.length l5.length) rfl (by kernel_rfl) (by kernel_rfl) (by kernel_rfl) (fun _ _ _ h => h) (by exact yieldsIf_slice3 (by rfl) 31 (.tmp 34) (.tmp 35) (.tmp 36) (.tmp 37) (by rfl) under_slice _ _ _ _ _ (by rfl) (by rfl) (by rfl) (by rfl) hSL) (by assumption) ?_
        simp only [Act.put, List.setIfInBounds_toArray, List.set_cons_zero, List.set_cons_succ]
        clear hHeld
        obtain ⟨Za, hWa⟩ : ∃ W, W = w2.drew := ⟨_, rfl⟩
        have HBx := Lib.hid (show _ from show Below W0.heap.size W0 Za from by rw [hWa]; exact HBL2.out.drew)
        have HOx := Lib.hid (show _ from show Ol Za W0.heap.size (.slice Av j cv) (fndL s k hs l j) from by rw [hWa]; exact HOL2.out)
        rw [← hWa]
        clear hWa
        refine wpAnyH_ready (rs := [8]) (by kernel_rfl) (by simp) ?_
        refine AllReadyH.cons (o := { dst := some 39, op := Op.call { callee := Callee.value (Operand.func 23), args := #[Operand.tmp 32, Operand.tmp 33, Operand.tmp 38], argTypes := #[35, 3, 31] }, type := 36, pos := "transfer.go:70", after := #[{ on := 1, ground := Ground.data }, { on := 2, ground := Ground.data }, { on := 7, ground := Ground.data }], guard := none }) rfl (fun K hK => ?_) AllReadyH.nil
        go_simp
        (with_reducible refine (HV5.out Za HBx.out).mono ?_)
        rintro e Z1 ⟨rfl, hb⟩
        refine hK.out _ _ ?_ (fun hHeld => ?_)
        · exact Lib.hid (below_chain HBx.out hb)
        clear hHeld hK K
        try simp only [Act.put, List.setIfInBounds_toArray, List.set_cons_zero, List.set_cons_succ]
        replace HBx := Lib.hid (below_chain HBx.out hb)
        replace HOx := Lib.hid (Ol.next HOx.out hb)
        clear hb
        have hHeld : (fun w' => Hid (Below W0.heap.size W0 w')) Z1 := Lib.hid HBx.out
        refine wpAnyH_take (i := 9) (oi := { dst := some 40, op := Op.binOp BinOp.eql 36 (Operand.tmp 39) (Operand.const (Value.int IntKind.i64 0)) 36, type := 4, pos := "transfer.go:70", after := #[{ on := 8, ground := Ground.data }], guard := none }) (v := ?_) rfl (by kernel_rfl) (by kernel_rfl) (by kernel_rfl) (fun _ _ _ h => h) (Or.inl ⟨by rfl, ?_⟩) (by assumption) ?_
        rotate_left 1
        · intro ws hSw; (try dsimp only at hSw); go_simp; all_goals with_reducible rfl
        simp only [Act.put, List.setIfInBounds_toArray, List.set_cons_zero, List.set_cons_succ]
        clear hHeld
        refine wpAnyH_ready (rs := [10]) (by kernel_rfl) (by simp) ?_
        refine AllReadyH.cons (o := { dst := some 41, op := Op.buildSlice 22 1 #[(0, Operand.tmp 40)], type := 22, pos := "transfer.go:70", after := #[{ on := 9, ground := Ground.data }], guard := none }) rfl (fun K hK => ?_) AllReadyH.nil
        go_simp
        have hal : Below Z1.heap.size Z1 (Z1.alloc (.cells #[.bool pb] 4)) := (Below.refl _ _).alloc (Nat.le_refl _) _
        refine hK.out _ _ ?_ (fun hHeld => ?_)
        · exact Lib.hid (below_chain HBx.out hal)
        clear hHeld hK K
        try simp only [Act.put, List.setIfInBounds_toArray, List.set_cons_zero, List.set_cons_succ]
        obtain ⟨Z2, hW⟩ : ∃ W', W' = Z1.alloc (.cells #[.bool pb] 4) := ⟨_, rfl⟩
        change wpAnyH _ _ _ _ _ _ _ _ (Z1.alloc (.cells #[.bool pb] 4))
        rw [← hW]
        have hb : Below Z1.heap.size Z1 Z2 := by rw [hW]; exact hal
        clear hal
        have HNB := Lib.hid (show Bo Z2 Z2.heap.size (some ⟨Z1.heap.size, 0, none⟩) [pb] from by rw [hW]; exact bo_one _ _)
        replace HBx := Lib.hid (below_chain HBx.out hb)
        replace HOx := Lib.hid (Ol.next HOx.out hb)
        obtain ⟨gn, hgn⟩ : ∃ g, g = Z1.heap.size := ⟨_, rfl⟩
        rw [← hgn] at HNB ⊢
        clear hW hb hgn
        refine wpAnyH_ready (rs := [11]) (by kernel_rfl) (by simp) ?_
        refine AllReadyH.cons (o := { dst := some 42, op := Op.call { callee := Callee.builtin Builtin.append, args := #[Operand.tmp 31, Operand.tmp 41], argTypes := #[22, 22] }, type := 22, pos := "transfer.go:70", after := #[{ on := 0, ground := Ground.data }, { on := 10, ground := Ground.data }, { on := 8, ground := Ground.chain }], guard := none }) rfl (fun K hK => ?_) AllReadyH.nil
        refine step_ol (by rfl) (.tmp 31) (.tmp 41) (by rfl) (by rfl) HOx.out (some ⟨gn, 0, none⟩) 1 1 rfl (by rfl) (by rfl) HNB.out (by intro e; cases e) (by rw [fndL_len]; simp; omega) HBx.out.size ?_
        intro v8 Z3 hw8 hb8
        rw [HFL.out] at hw8
        obtain ⟨A8, c8, rfl, -, -, -, -⟩ := hw8.rd
        rw [fndL_len] at hw8 ⊢
        refine hK.out _ _ ?_ (fun hHeld => ?_)
        · exact Lib.hid (HBx.out.trans hb8)
        clear hHeld hK K
        try simp only [Act.put, List.setIfInBounds_toArray, List.set_cons_zero, List.set_cons_succ]
        replace HBx := Lib.hid (HBx.out.trans hb8)
        have HO8 := Lib.hid hw8
        clear hw8 hb8 HOx HNB
        have hHeld : (fun w' => Hid (Below W0.heap.size W0 w')) Z3 := Lib.hid HBx.out
        refine wpAnyH_take (i := 12) (oi := { dst := some 4, op := Op.assign (Operand.tmp 42), type := 22, pos := "transfer.go:70", after := #[{ on := 11, ground := Ground.data }, { on := 11, ground := Ground.chain }, { on := 0, ground := Ground.phase }, { on := 1, ground := Ground.phase }, { on := 2, ground := Ground.phase }, { on := 3, ground := Ground.phase }, { on := 4, ground := Ground.phase }, { on := 5, ground := Ground.phase }, { on := 6, ground := Ground.phase }, { on := 7, ground := Ground.phase }, { on := 8, ground := Ground.phase }, { on := 9, ground := Ground.phase }, { on := 10, ground := Ground.phase }, { on := 11, ground := Ground.phase }], guard := none }) (v := ?_) rfl (by kernel_rfl) (by kernel_rfl) (by kernel_rfl) (fun _ _ _ h => h) (Or.inl ⟨by rfl, ?_⟩) (by assumption) ?_
        rotate_left 1
        · intro ws hSw; (try dsimp only at hSw); go_simp; all_goals with_reducible rfl
        simp only [Act.put, List.setIfInBounds_toArray, List.set_cons_zero, List.set_cons_succ]
        clear hHeld
        refine wpAnyH_done (by kernel_rfl) ?_ _
        clear hSL hreq
        go_wp2_with fail
        go_roundw
        case rel => exact ⟨j + 1, by go_num, by omega, A8, c8, rfl, HO8.out, HBx.out⟩
        case measure => simp [intOf]; omega
      · obtain rfl : j = n := by omega
        go_wp2_with fail
        go_ret
        exact ⟨_, rfl, by rw [HE.out]; exact HOL.out.mono HB0.out.size, HB0.out.trans (HBL.out.mono HB0.out.size)⟩
end Go.Proofs.Ytmpbimechgelfaa

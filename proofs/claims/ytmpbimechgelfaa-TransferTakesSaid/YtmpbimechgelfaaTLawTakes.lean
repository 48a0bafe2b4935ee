/- TransferTakes holds: chunks with one that came, and those that bytes hold, are what the document says, or its error. Conditions: none. -/
import Derived.Test.YtmpbimechgelfaaTAwake
import Derived.Test.YtmpbimechgelfaaTOpen
import Derived.Test.YtmpbimechgelfaaRTake
import Derived.Test.YtmpbimechgelfaaRFind
namespace Go.Proofs.Ytmpbimechgelfaa
open Go.ChangeShapes Go.WideShapes Go.ChangeAt Go.RowKit Go.Joins Go.Deep

/-- n Booleans come back. -/
def SlN (n : Nat) (L : List Bool) (w : World) (e : Ending) (w' : World) : Prop := ∃ A c, e = .returned (.slice A n c) ∧ Bo w' w'.heap.size A L ∧ Below w.heap.size w w'
theorem sln_of {L : List Bool} {n b : Nat} (hn : n = L.length) {w w' : World} {e : Ending} (h : OlEnd b L w e w') : SlN n L w e w' := by
  obtain ⟨v, rfl, ho, hb⟩ := h
  obtain ⟨A, c, rfl, hbo, -⟩ := ho.rd
  exact ⟨A, c, by rw [hn], hbo, hb⟩
set_option maxRecDepth 100000 in
/-- 'make([]bool, n)', as one operation. -/
theorem wp_make_bools {o : Oper} {a : Act} {w : World} {K : Act → World → Prop} {Q : Exit → Act → World → Prop} (x : Operand) (ho : o.op = .makeSlice 22 x x) (n : Nat) (hx : a.eval x = .int .i64 (n : Int)) (hn : n ≤ 1000)
    (hK : ∀ w' A c, Bo w' w'.heap.size A (List.replicate n false) → Below w.heap.size w w' → K (a.put o.dst (.slice A n c)) w') : o.wp Try.prog a w K Q := by
  obtain ⟨i0, hi0, hz0, hz1, hz2⟩ := info_parts info_bool
  obtain ⟨w', hrun, r1, r2⟩ := run_make_full (P := Try.prog) w w.heap.size 22 4 i0 _ 1 Try.underlying22 hi0 hz0 hz1 .i64 .i64 n (by rw [hz2]; omega) (by unfold maxLen; omega) (Nat.le_refl _)
  have hol : Ol w' w.heap.size (.slice (some ⟨w.heap.size, 0, none⟩) n n) (List.replicate n false) := by
    unfold Ol Own
    rw [List.length_replicate]
    refine cast ?_ r1
    congr 1
    rw [show (Value.bool false).cells = #[.bool false] from rfl, toList_madeCells_one]
    refine List.ext_getElem? fun i => ?_
    rw [List.getElem?_replicate, List.getElem?_map]
    by_cases hi : i < n * 1
    · rw [if_pos hi, List.getElem?_range hi]; exact congrArg some (bb_rep n i).symm
    · rw [if_neg hi, List.getElem?_eq_none (by simp; omega)]; rfl
  obtain ⟨A', c', e, hbo, -⟩ := hol.rd
  injection e with e1 e2 e3
  subst e1 e3
  have hbl : Below w.heap.size w w' := (Below.refl _ _).grown r2 (Nat.le_refl _) (by intro k hk; cases hk)
  unfold Oper.wp
  simp [execOp, ho, hx, hrun, Result.andThen]
  exact hK w' _ _ hbo hbl
set_option maxRecDepth 100000 in
set_option maxHeartbeats 8000000 in
theorem transferTakes_walk (w : World) (s k : Int) (A : Option Addr) (c : Nat) (hs : List (Nat → Nat)) (f : Nat → Nat) (hm : InM w s k A c hs f) (A1 : Option Addr) (c1 : Nat) (hv : List Bool) (hi1 : InO w A1 c1 hv) (iI : Int) (_hfi : Fit iI) (A3 : Option Addr) (c3 : Nat) (b : List Nat) (hi3 : InB w A3 c3 b) (A4 : Option Addr) (c4 : Nat) (im : List Nat) (hi4 : InB w A4 c4 im) :
    Calls Try.prog 11 #[.agg (mcv s k (.slice A hs.length c) f), .slice A1 hv.length c1, .int .i64 iI, .slice A3 b.length c3, .slice A4 im.length c4] w fun e w' => e = .returned (.bool true) ∧ Below w.heap.size w w' := by
  have hcm0 : hs.length ≤ maxLen := Nat.le_trans hm.cap.1 hm.cap.2
  have hcm1 : hv.length ≤ maxLen := Nat.le_trans hi1.cap.1 hi1.cap.2
  have hcm3 : b.length ≤ maxLen := Nat.le_trans hi3.cap.1 hi3.cap.2
  have hcm4 : im.length ≤ maxLen := Nat.le_trans hi4.cap.1 hi4.cap.2
  unfold maxLen at hcm0 hcm1 hcm3 hcm4
  have HM := Lib.hid hm
  have HI1 := Lib.hid hi1
  have HI3 := Lib.hid hi3
  have HI4 := Lib.hid hi4
  obtain ⟨nh, hnh⟩ : ∃ n, n = hs.length := ⟨_, rfl⟩
  obtain ⟨n1, hn1⟩ : ∃ n, n = hv.length := ⟨_, rfl⟩
  obtain ⟨n3, hn3⟩ : ∃ n, n = b.length := ⟨_, rfl⟩
  obtain ⟨n4, hn4⟩ : ∃ n, n = im.length := ⟨_, rfl⟩
  rw [← hnh] at hcm0 ⊢
  rw [← hn1] at hcm1 ⊢
  rw [← hn3] at hcm3 ⊢
  rw [← hn4] at hcm4 ⊢
  have HNH := Lib.hid hnh
  have HN1 := Lib.hid hn1
  have HN3 := Lib.hid hn3
  have HN4 := Lib.hid hn4
  obtain ⟨M, hM⟩ : ∃ M, M = mcv s k (.slice A nh c) f := ⟨_, rfl⟩
  rw [← hM]
  have HMs : Hid ((Try.prog.info? 35).map (·.size) = some M.size) := Lib.hid (by rw [hM]; exact size_mcv)
  obtain ⟨W0, hW0⟩ : ∃ W0, W0 = w.alloc (.cells M 35) := ⟨_, rfl⟩
  have hB0 : Below w.heap.size w W0 := by rw [hW0]; exact (by repeat (first | exact Below.refl _ _ | assumption | refine below_drewN ?_ _ | refine Below.drew ?_ | refine Below.alloc ?_ (by simp; try omega) _ | refine Below.setCell ?_ (by simp; try omega) _))
  have hmb : MB W0 w.heap.size s k (.slice A nh c) f := by rw [hW0, hM]; exact heap_alloc_new w _
  have hrow : W0.heap[w.heap.size]? = some (.cells M 35 (0, 0)) := by rw [hW0]; exact heap_alloc_new w _
  have hg0 : w.heap.size < W0.heap.size := hmb.lt
  have HR0 := Lib.hid (fun (W : World) (hb : Below W0.heap.size W0 W) => show W.heap[w.heap.size]? = some (.cells M 35 (0, 0)) ∧ W.cell? ⟨w.heap.size, 2, none⟩ = some (.slice A nh c) from
    ⟨(hb.block _ hg0).trans hrow, (hb.cell (p := ⟨w.heap.size, 2, none⟩) hg0).trans hmb.c2⟩)
  have HHS := Lib.hid (fun (W : World) (hb : Below W0.heap.size W0 W) => (hm.hs_.next hB0).next hb)
  have HJ1 := Lib.hid (fun (W : World) (hb : Below W0.heap.size W0 W) => (hi1.next hB0).next hb)
  have HJ3 := Lib.hid (fun (W : World) (hb : Below W0.heap.size W0 W) => (hi3.next hB0).next hb)
  have HJ4 := Lib.hid (fun (W : World) (hb : Below W0.heap.size W0 W) => (hi4.next hB0).next hb)
  have HMM := Lib.hid hM
  have HB0 := Lib.hid hB0
  have HW0 := Lib.hid hW0
  obtain ⟨g, hg⟩ : ∃ g, g = w.heap.size := ⟨_, rfl⟩
  rw [← hg] at HR0
  have HG := Lib.hid hg
  clear hm hi1 hi3 hi4 hnh hn1 hn3 hn4 _hfi hM hW0 hB0 hmb hrow hg0 hg
  go_enter Try.func11, Try.ntmps11
  go_upto_region 1 with (fail)
  change Code.wp _ _ _ _ (w.alloc (.cells M 35))
  rw [← HW0.out, ← HG.out]
  go_wp2_with fail
  refine (tawake_any _).mono ?_
  rintro e w1 ⟨rfl, hb1⟩
  have HB1 := Lib.hid hb1
  have HB01 := Lib.hid (below_chain HB0.out hb1)
  clear hb1
  have cg2 := (HR0.out w1 HB1.out).2
  by_cases h1 : 100 < nh
  · have d1 : decide ((100 : Int) < (nh : Int)) = true := by simp; omega
    go_wp2_with fail
    go_ret
    exact ⟨rfl, HB01.out⟩
  have d1 : decide ((100 : Int) < (nh : Int)) = false := by simp; omega
  by_cases h2 : 100 < n1
  · have d2 : decide ((100 : Int) < (n1 : Int)) = true := by simp; omega
    go_wp2_with fail
    go_ret
    exact ⟨rfl, HB01.out⟩
  have d2 : decide ((100 : Int) < (n1 : Int)) = false := by simp; omega
  by_cases h3 : 2000 < n3
  · have d3 : decide ((2000 : Int) < (n3 : Int)) = true := by simp; omega
    go_wp2_with fail
    go_ret
    exact ⟨rfl, HB01.out⟩
  have d3 : decide ((2000 : Int) < (n3 : Int)) = false := by simp; omega
  by_cases h4 : 2000 < n4
  · have d4 : decide ((2000 : Int) < (n4 : Int)) = true := by simp; omega
    go_wp2_with fail
    go_ret
    exact ⟨rfl, HB01.out⟩
  have d4 : decide ((2000 : Int) < (n4 : Int)) = false := by simp; omega
  obtain ⟨E, hE⟩ : ∃ E, E = tkE (verI s k hs iI b) (decide (hv.length = hs.length)) := ⟨_, rfl⟩
  obtain ⟨L, hL⟩ : ∃ L, L = tkL (verI s k hs iI b) (decide (hv.length = hs.length)) hv iI.toNat := ⟨_, rfl⟩
  have hLn : L.length = n1 := by
    rw [hL, HN1.out]
    unfold tkL
    split
    · rw [List.length_set]
    · rfl
  have HTK : Hid (∀ W, Below W0.heap.size W0 W → Calls Try.prog 21 #[.agg M, .slice A1 n1 c1, .int .i64 iI, .slice A3 n3 c3] W (TakeEnd W.heap.size E L W)) := Lib.hid fun W hb => by
    have h := take_any s k A c hs f A1 c1 hv iI A3 c3 b W (HHS.out W hb) (HJ1.out W hb).bo (fun e => ((HJ1.out W hb).none_ e).1) (by rw [← HN1.out]; omega) (HJ3.out W hb).bs (HJ3.out W hb).byt
    rw [← hE, ← hL, ← HNH.out, ← HN1.out, ← HN3.out, ← HMM.out] at h
    exact h
  have HRT : Hid (∀ W, Below W0.heap.size W0 W → Calls Try.prog 32 #[.agg M, .slice A1 n1 c1, .int .i64 iI, .slice A3 n3 c3] W (RTake E L W)) := Lib.hid fun W hb => by
    have h := rtake_any s k A c hs f A1 c1 hv iI A3 c3 b W (HHS.out W hb) (HJ1.out W hb).bo (fun e => ((HJ1.out W hb).none_ e).1) (by rw [← HN1.out]; omega) (HJ3.out W hb).bs (HJ3.out W hb).byt (fun e => ((HJ3.out W hb).none_ e).2) (fun e => ((HJ1.out W hb).none_ e).2)
    rw [← hE, ← hL, ← HNH.out, ← HN1.out, ← HN3.out, ← HMM.out] at h
    exact h
  obtain ⟨Lf, hLf⟩ : ∃ L, L = findL s k hs im := ⟨_, rfl⟩
  obtain ⟨nf, hnf⟩ : ∃ n, n = Lf.length := ⟨_, rfl⟩
  have HNF := Lib.hid hnf
  have hnf100 : nf ≤ 100 := by
    rw [hnf, hLf]
    unfold findL
    split
    · exact Nat.zero_le _
    · rw [fndL_len, ← HNH.out]; omega
  have HFD : Hid (∀ W, Below W0.heap.size W0 W → Calls Try.prog 24 #[.agg M, .slice A4 n4 c4] W (SlN nf Lf W)) := Lib.hid fun W hb => by
    have h := find_any s k A c hs f A4 c4 im W (HHS.out W hb) (HJ4.out W hb).bs (HJ4.out W hb).cap.1 (HJ4.out W hb).byt
    rw [← hLf, ← HNH.out, ← HN4.out, ← HMM.out] at h
    exact h.mono fun _ _ h => sln_of hnf h
  have HRF : Hid (∀ W, Below W0.heap.size W0 W → Calls Try.prog 33 #[.agg M, .slice A4 n4 c4] W (SlN nf Lf W)) := Lib.hid fun W hb => by
    have h := rfind_any s k A c hs f A4 c4 im W (HHS.out W hb) (HJ4.out W hb).bs (HJ4.out W hb).cap.1 (HJ4.out W hb).byt (fun e => ((HJ4.out W hb).none_ e).2)
    rw [← hLf, ← HNH.out, ← HN4.out, ← HMM.out] at h
    exact h.mono fun _ _ h => sln_of hnf h
  obtain ⟨Ln, hLn0⟩ : ∃ L, L = List.replicate nh false := ⟨_, rfl⟩
  have HLN : Hid (nh = Ln.length) := Lib.hid (by rw [hLn0, List.length_replicate])
  have HLN0 := Lib.hid hLn0
  have HNO : Hid (∀ W, Calls Try.prog 26 #[.agg M] W (SlN nh Ln W)) := Lib.hid fun W => by
    have h := none_any s k A nh c f W (by omega)
    rw [← hLn0, ← HMM.out] at h
    exact h.mono fun _ _ h => sln_of HLN.out h
  have HSM : Hid (∀ (n : Nat) (L : List Bool) (X Y : Option Addr) (cx cy : Nat) (W : World), n = L.length → n ≤ 1000 → Bo W W.heap.size X L → Bo W W.heap.size Y L → Calls Try.prog 22 #[.slice X n cx, .slice Y n cy] W fun e w' => e = .returned (.bool true) ∧ Below W.heap.size W w') := Lib.hid fun n L X Y cx cy W hn hl hx hy => by
    have h := same_any L L X Y cx cy W hx hy (by omega) (by omega)
    rw [decide_eq_true rfl, ← hn] at h
    exact h
  have HLL := Lib.hid hLn
  have HR1 := Lib.hid (HR0.out w1 HB1.out).1
  clear hE hL hLf hnf hLn0 hLn
  go_upto_region 4 with (fail)
  refine wp_region_list ?_
  repeat (first
    | refine wpList_load_row (by rfl) 35 (.tmp 5) (by rfl) g (by rfl) 35 M (0, 0) _ HR1.out Try.underlying35 (by rfl) HMs.out ?_
    | go_values | go_skip | go_guarded | go_step | go_upon)
  refine (HTK.out w1 HB1.out).mono ?_
  rintro e w2 ⟨v, rfl, hol, hb2⟩
  obtain ⟨A12, c12, rfl, hbo12, -, -, -⟩ := hol.rd
  rw [HLL.out]
  have HB2 := Lib.hid (below_chain HB1.out hb2)
  have HO12 := Lib.hid hbo12
  have HR2 := Lib.hid (HR0.out w2 HB2.out).1
  clear hol hbo12 hb2 HR1
  go_upto_region 5 with (fail)
  refine wp_region_list ?_
  repeat (first
    | refine wpList_load_row (by rfl) 35 (.tmp 5) (by rfl) g (by rfl) 35 M (0, 0) _ HR2.out Try.underlying35 (by rfl) HMs.out ?_
    | go_values | go_skip | go_guarded | go_step | go_upon)
  refine (HRT.out w2 HB2.out).mono ?_
  rintro e w3 ⟨A14, c14, rfl, hbo14, hb3⟩
  rw [HLL.out]
  have HB3 := Lib.hid (below_chain HB2.out hb3)
  have HS1 := Lib.hid (HSM.out n1 L A12 A14 c12 c14 w3 HLL.out.symm (by omega) (HO12.out.next hb3) hbo14)
  clear hbo14 hb3 HR2 HO12
  go_wp2_with fail
  refine HS1.out.mono ?_
  rintro e w4 ⟨rfl, hb4⟩
  have HB4 := Lib.hid (below_chain HB3.out hb4)
  clear hb4 HS1
  go_upto_region 7 with (fail)
  have HRNG := Lib.hid (fun (W : World) (hb : Below W0.heap.size W0 W) => box_range (HR0.out W hb).1)
  have HB4' := Lib.hid (fun (W : World) (hb : Below w4.heap.size w4 W) => below_chain HB4.out hb)
  refine wp_region_held_drew (S := fun w' => Hid (Below w4.heap.size w4 w')) (by kernel_rfl) (Lib.hid (Below.refl _ _).drew) (fun hHeld => ?_)
  refine wpAnyH_take (i := 0) (oi := { dst := some 59, op := Op.load 35 (Operand.tmp 5), type := 35, pos := "law.go:46", after := #[], guard := none }) (v := .agg M) rfl (by kernel_rfl) (by kernel_rfl) (by kernel_rfl) (fun _ _ _ h => h) (by exact yieldsIf_load_mid (by rfl) 35 (.tmp 5) (by rfl) g 0 (by rfl) M.toList _ (fun w' hw' => HRNG.out w' (HB4'.out w' hw'.out)) Try.underlying35 (by rfl) (by rw [Array.length_toList]; exact HMs.out)) (by assumption) ?_
  simp only [Act.put, List.setIfInBounds_toArray, List.set_cons_zero, List.set_cons_succ]
  refine wpAnyH_take (i := 1) (oi := { dst := some 60, op := Op.move (Operand.tmp 4), type := 31, pos := "law.go:46", after := #[], guard := none }) (v := ?_) rfl (by kernel_rfl) (by kernel_rfl) (by kernel_rfl) (fun _ _ _ h => h) (Or.inl ⟨by rfl, ?_⟩) (by assumption) ?_
  rotate_left 1
  · intro ws hSw; (try dsimp only at hSw); go_simp; all_goals with_reducible rfl
  simp only [Act.put, List.setIfInBounds_toArray, List.set_cons_zero, List.set_cons_succ]
  refine wpAnyH_take (i := 3) (oi := { dst := some 62, op := Op.load 35 (Operand.tmp 5), type := 35, pos := "law.go:46", after := #[], guard := none }) (v := .agg M) rfl (by kernel_rfl) (by kernel_rfl) (by kernel_rfl) (fun _ _ _ h => h) (by exact yieldsIf_load_mid (by rfl) 35 (.tmp 5) (by rfl) g 0 (by rfl) M.toList _ (fun w' hw' => HRNG.out w' (HB4'.out w' hw'.out)) Try.underlying35 (by rfl) (by rw [Array.length_toList]; exact HMs.out)) (by assumption) ?_
  simp only [Act.put, List.setIfInBounds_toArray, List.set_cons_zero, List.set_cons_succ]
  refine wpAnyH_take (i := 4) (oi := { dst := some 63, op := Op.move (Operand.tmp 4), type := 31, pos := "law.go:46", after := #[], guard := none }) (v := ?_) rfl (by kernel_rfl) (by kernel_rfl) (by kernel_rfl) (fun _ _ _ h => h) (Or.inl ⟨by rfl, ?_⟩) (by assumption) ?_
  rotate_left 1
  · intro ws hSw; (try dsimp only at hSw); go_simp; all_goals with_reducible rfl
  simp only [Act.put, List.setIfInBounds_toArray, List.set_cons_zero, List.set_cons_succ]
  clear hHeld
  obtain ⟨Xa, hWa⟩ : ∃ W, W = w4.drew := ⟨_, rfl⟩
  have HBx := Lib.hid (show _ from show Below w4.heap.size w4 Xa from by rw [hWa]; exact (Below.refl _ _).drew)
  rw [← hWa]
  clear hWa
  refine wpAnyH_ready (rs := [2]) (by kernel_rfl) (by simp) ?_
  refine AllReadyH.cons (o := { dst := some 61, op := Op.call { callee := Callee.value (Operand.func 24), args := #[Operand.tmp 59, Operand.tmp 60], argTypes := #[35, 31] }, type := 22, pos := "law.go:46", after := #[{ on := 0, ground := Ground.data }, { on := 1, ground := Ground.data }], guard := none }) rfl (fun K hK => ?_) AllReadyH.nil
  go_simp
  (with_reducible refine (HFD.out Xa (HB4'.out Xa HBx.out)).mono ?_)
  rintro e X1 ⟨A61, c61, rfl, hbo, hb⟩
  refine hK.out _ _ ?_ (fun hHeld => ?_)
  · exact Lib.hid (below_chain HBx.out hb)
  clear hHeld hK K
  try simp only [Act.put, List.setIfInBounds_toArray, List.set_cons_zero, List.set_cons_succ]
  replace HBx := Lib.hid (below_chain HBx.out hb)
  have HO61 := Lib.hid hbo
  clear hbo
  clear hb
  refine wpAnyH_ready (rs := [5]) (by kernel_rfl) (by simp) ?_
  refine AllReadyH.cons (o := { dst := some 64, op := Op.call { callee := Callee.value (Operand.func 33), args := #[Operand.tmp 62, Operand.tmp 63], argTypes := #[35, 31] }, type := 22, pos := "law.go:46", after := #[{ on := 3, ground := Ground.data }, { on := 4, ground := Ground.data }, { on := 2, ground := Ground.chain }], guard := none }) rfl (fun K hK => ?_) AllReadyH.nil
  go_simp
  (with_reducible refine (HRF.out X1 (HB4'.out X1 HBx.out)).mono ?_)
  rintro e X2 ⟨A64, c64, rfl, hbo, hb⟩
  refine hK.out _ _ ?_ (fun hHeld => ?_)
  · exact Lib.hid (below_chain HBx.out hb)
  clear hHeld hK K
  try simp only [Act.put, List.setIfInBounds_toArray, List.set_cons_zero, List.set_cons_succ]
  replace HBx := Lib.hid (below_chain HBx.out hb)
  replace HO61 := Lib.hid (Bo.next HO61.out hb)
  have HO64 := Lib.hid hbo
  clear hbo
  clear hb
  refine wpAnyH_ready (rs := [6]) (by kernel_rfl) (by simp) ?_
  refine AllReadyH.cons (o := { dst := some 65, op := Op.call { callee := Callee.value (Operand.func 22), args := #[Operand.tmp 61, Operand.tmp 64], argTypes := #[22, 22] }, type := 4, pos := "law.go:46", after := #[{ on := 2, ground := Ground.data }, { on := 5, ground := Ground.data }, { on := 5, ground := Ground.chain }], guard := none }) rfl (fun K hK => ?_) AllReadyH.nil
  go_simp
  (with_reducible refine (HSM.out nf Lf A61 A64 c61 c64 X2 HNF.out (by omega) HO61.out HO64.out).mono ?_)
  rintro e X3 ⟨rfl, hb⟩
  refine hK.out _ _ ?_ (fun hHeld => ?_)
  · exact Lib.hid (below_chain HBx.out hb)
  clear hHeld hK K
  try simp only [Act.put, List.setIfInBounds_toArray, List.set_cons_zero, List.set_cons_succ]
  replace HBx := Lib.hid (below_chain HBx.out hb)
  replace HO61 := Lib.hid (Bo.next HO61.out hb)
  replace HO64 := Lib.hid (Bo.next HO64.out hb)
  clear hb
  have hHeld : (fun w' => Hid (Below w4.heap.size w4 w')) X3 := Lib.hid HBx.out
  refine wpAnyH_take (i := 7) (oi := { dst := some 17, op := Op.assign (Operand.tmp 65), type := 4, pos := "law.go:46", after := #[{ on := 6, ground := Ground.data }, { on := 6, ground := Ground.chain }, { on := 0, ground := Ground.phase }, { on := 1, ground := Ground.phase }, { on := 2, ground := Ground.phase }, { on := 3, ground := Ground.phase }, { on := 4, ground := Ground.phase }, { on := 5, ground := Ground.phase }, { on := 6, ground := Ground.phase }], guard := none }) (v := ?_) rfl (by kernel_rfl) (by kernel_rfl) (by kernel_rfl) (fun _ _ _ h => h) (Or.inl ⟨by rfl, ?_⟩) (by assumption) ?_
  rotate_left 1
  · intro ws hSw; (try dsimp only at hSw); go_simp; all_goals with_reducible rfl
  simp only [Act.put, List.setIfInBounds_toArray, List.set_cons_zero, List.set_cons_succ]
  clear hHeld
  refine wpAnyH_done (by kernel_rfl) ?_ _
  skip
  have HB5 := Lib.hid (HB4'.out _ HBx.out)
  have HBy := HBx
  clear HO61 HO64 HB4' HBx
  have HSS := Lib.hid (fun (W : World) (hb : Below X3.heap.size X3 W) => show W.cell? ⟨g, 2, none⟩ = some (.slice A nh c) ∧ Hid (Below X3.heap.size X3 W) from ⟨(HR0.out W (below_chain HB5.out hb)).2, Lib.hid hb⟩)
  go_upto_region 8 with (fail)
  refine wp_region_held_drew (S := fun w' => w'.cell? ⟨g, 2, none⟩ = some (.slice A nh c) ∧ Hid (Below X3.heap.size X3 w')) (by kernel_rfl) (HSS.out _ (Below.refl _ _).drew) (fun hHeld => ?_)
  refine wpAnyH_take (i := 0) (oi := { dst := some 66, op := Op.load 35 (Operand.tmp 5), type := 35, pos := "law.go:47", after := #[], guard := none }) (v := .agg M) rfl (by kernel_rfl) (by kernel_rfl) (by kernel_rfl) (fun _ _ _ h => h) (by exact yieldsIf_load_mid (by rfl) 35 (.tmp 5) (by rfl) g 0 (by rfl) M.toList _ (fun w' hw' => HRNG.out w' (below_chain HB5.out hw'.2.out)) Try.underlying35 (by rfl) (by rw [Array.length_toList]; exact HMs.out)) (by assumption) ?_
  simp only [Act.put, List.setIfInBounds_toArray, List.set_cons_zero, List.set_cons_succ]
  refine wpAnyH_take (i := 2) (oi := { dst := some 68, op := Op.fieldAddr 35 (Operand.tmp 5) 2, type := 0, pos := "law.go:47", after := #[], guard := none }) (v := ?_) rfl (by kernel_rfl) (by kernel_rfl) (by kernel_rfl) (fun _ _ _ h => h) (Or.inl ⟨by rfl, ?_⟩) (by assumption) ?_
  rotate_left 1
  · intro ws hSw; (try dsimp only at hSw); go_simp; all_goals with_reducible rfl
  simp only [Act.put, List.setIfInBounds_toArray, List.set_cons_zero, List.set_cons_succ]
  refine wpAnyH_take (i := 3) (oi := { dst := some 69, op := Op.load 32 (Operand.tmp 68), type := 32, pos := "law.go:47", after := #[{ on := 2, ground := Ground.data }], guard := none }) (v := ?_) rfl (by kernel_rfl) (by kernel_rfl) (by kernel_rfl) (fun _ _ _ h => h) (Or.inl ⟨by rfl, ?_⟩) (by assumption) ?_
  rotate_left 1
  · intro ws hSw; (try dsimp only at hSw); go_simp; all_goals with_reducible rfl
  simp only [Act.put, List.setIfInBounds_toArray, List.set_cons_zero, List.set_cons_succ]
  refine wpAnyH_take (i := 4) (oi := { dst := some 70, op := Op.call { callee := Callee.builtin Builtin.len, args := #[Operand.tmp 69], argTypes := #[32] }, type := 3, pos := "law.go:47", after := #[{ on := 3, ground := Ground.data }], guard := none }) (v := ?_) rfl (by kernel_rfl) (by kernel_rfl) (by kernel_rfl) (fun _ _ _ h => h) (Or.inl ⟨by rfl, ?_⟩) (by assumption) ?_
  rotate_left 1
  · intro ws hSw; (try dsimp only at hSw); go_simp; all_goals with_reducible rfl
  simp only [Act.put, List.setIfInBounds_toArray, List.set_cons_zero, List.set_cons_succ]
  clear hHeld
  obtain ⟨Ya, hWa⟩ : ∃ W, W = X3.drew := ⟨_, rfl⟩
  have HBx := Lib.hid (show _ from show Below X3.heap.size X3 Ya from by rw [hWa]; exact (Below.refl _ _).drew)
  rw [← hWa]
  clear hWa
  refine wpAnyH_ready (rs := [1, 5]) (by kernel_rfl) (by simp) ?_
  refine AllReadyH.cons (o := { dst := some 67, op := Op.call { callee := Callee.value (Operand.func 26), args := #[Operand.tmp 66], argTypes := #[35] }, type := 22, pos := "law.go:47", after := #[{ on := 0, ground := Ground.data }], guard := none }) rfl (fun K hK => ?_) ?_
  · go_simp
    (with_reducible refine (HNO.out Ya).mono ?_)
    rintro e Y1 ⟨A67, c67, rfl, hbo, hb⟩
    refine hK.out _ _ ?_ (fun hHeld => ?_)
    · exact HSS.out _ (below_chain HBx.out hb)
    clear hHeld hK K
    try simp only [Act.put, List.setIfInBounds_toArray, List.set_cons_zero, List.set_cons_succ]
    replace HBx := Lib.hid (below_chain HBx.out hb)
    have HO67 := Lib.hid hbo
    clear hbo
    clear hb
    refine wpAnyH_ready (rs := [5]) (by kernel_rfl) (by simp) ?_
    refine AllReadyH.cons (o := { dst := some 71, op := Op.makeSlice 22 (Operand.tmp 70) (Operand.tmp 70), type := 22, pos := "law.go:47", after := #[{ on := 4, ground := Ground.data }, { on := 4, ground := Ground.data }], guard := none }) rfl (fun K hK => ?_) AllReadyH.nil
    rw [if_pos (by rfl)]
    refine wp_make_bools (.tmp 70) (by rfl) nh (by rfl) (by omega) ?_
    intro Y2 A71 c71 hbo hb
    refine hK.out _ _ ?_ (fun hHeld => ?_)
    · exact HSS.out _ (below_chain HBx.out hb)
    clear hHeld hK K
    try simp only [Act.put, List.setIfInBounds_toArray, List.set_cons_zero, List.set_cons_succ]
    replace HBx := Lib.hid (below_chain HBx.out hb)
    replace HO67 := Lib.hid (Bo.next HO67.out hb)
    have HO71 := Lib.hid hbo
    rw [← HLN0.out] at HO71
    clear hbo hb
    refine wpAnyH_ready (rs := [6]) (by kernel_rfl) (by simp) ?_
    refine AllReadyH.cons (o := { dst := some 72, op := Op.call { callee := Callee.value (Operand.func 22), args := #[Operand.tmp 67, Operand.tmp 71], argTypes := #[22, 22] }, type := 4, pos := "law.go:47", after := #[{ on := 1, ground := Ground.data }, { on := 5, ground := Ground.data }, { on := 1, ground := Ground.chain }], guard := none }) rfl (fun K hK => ?_) AllReadyH.nil
    go_simp
    (with_reducible refine (HSM.out nh Ln A67 A71 c67 c71 Y2 HLN.out (by omega) HO67.out HO71.out).mono ?_)
    rintro e Y3 ⟨rfl, hb⟩
    refine hK.out _ _ ?_ (fun hHeld => ?_)
    · exact HSS.out _ (below_chain HBx.out hb)
    clear hHeld hK K
    try simp only [Act.put, List.setIfInBounds_toArray, List.set_cons_zero, List.set_cons_succ]
    replace HBx := Lib.hid (below_chain HBx.out hb)
    replace HO67 := Lib.hid (Bo.next HO67.out hb)
    replace HO71 := Lib.hid (Bo.next HO71.out hb)
    clear hb
    have hHeld : (fun w' => w'.cell? ⟨g, 2, none⟩ = some (.slice A nh c) ∧ Hid (Below X3.heap.size X3 w')) Y3 := HSS.out _ HBx.out
    refine wpAnyH_take (i := 7) (oi := { dst := some 18, op := Op.assign (Operand.tmp 72), type := 4, pos := "law.go:47", after := #[{ on := 6, ground := Ground.data }, { on := 6, ground := Ground.chain }, { on := 0, ground := Ground.phase }, { on := 1, ground := Ground.phase }, { on := 2, ground := Ground.phase }, { on := 3, ground := Ground.phase }, { on := 4, ground := Ground.phase }, { on := 5, ground := Ground.phase }, { on := 6, ground := Ground.phase }], guard := none }) (v := ?_) rfl (by kernel_rfl) (by kernel_rfl) (by kernel_rfl) (fun _ _ _ h => h) (Or.inl ⟨by rfl, ?_⟩) (by assumption) ?_
    rotate_left 1
    · intro ws hSw; (try dsimp only at hSw); go_simp; all_goals with_reducible rfl
    simp only [Act.put, List.setIfInBounds_toArray, List.set_cons_zero, List.set_cons_succ]
    clear hHeld
    refine wpAnyH_done (by kernel_rfl) ?_ _
    have e9 : (E == E) = true := by simp
    have HBF := Lib.hid (below_chain HB0.out (below_chain HB5.out HBx.out))
    go_wp2_with fail
    go_ret
    exact ⟨rfl, HBF.out⟩
  refine AllReadyH.cons (o := { dst := some 71, op := Op.makeSlice 22 (Operand.tmp 70) (Operand.tmp 70), type := 22, pos := "law.go:47", after := #[{ on := 4, ground := Ground.data }, { on := 4, ground := Ground.data }], guard := none }) rfl (fun K hK => ?_) AllReadyH.nil
  rw [if_pos (by rfl)]
  refine wp_make_bools (.tmp 70) (by rfl) nh (by rfl) (by omega) ?_
  intro Y4 A71 c71 hbo hb
  refine hK.out _ _ ?_ (fun hHeld => ?_)
  · exact HSS.out _ (below_chain HBx.out hb)
  clear hHeld hK K
  try simp only [Act.put, List.setIfInBounds_toArray, List.set_cons_zero, List.set_cons_succ]
  replace HBx := Lib.hid (below_chain HBx.out hb)
  have HO71 := Lib.hid hbo
  rw [← HLN0.out] at HO71
  clear hbo hb
  refine wpAnyH_ready (rs := [1]) (by kernel_rfl) (by simp) ?_
  refine AllReadyH.cons (o := { dst := some 67, op := Op.call { callee := Callee.value (Operand.func 26), args := #[Operand.tmp 66], argTypes := #[35] }, type := 22, pos := "law.go:47", after := #[{ on := 0, ground := Ground.data }], guard := none }) rfl (fun K hK => ?_) AllReadyH.nil
  go_simp
  (with_reducible refine (HNO.out Y4).mono ?_)
  rintro e Y5 ⟨A67, c67, rfl, hbo, hb⟩
  refine hK.out _ _ ?_ (fun hHeld => ?_)
  · exact HSS.out _ (below_chain HBx.out hb)
  clear hHeld hK K
  try simp only [Act.put, List.setIfInBounds_toArray, List.set_cons_zero, List.set_cons_succ]
  replace HBx := Lib.hid (below_chain HBx.out hb)
  replace HO71 := Lib.hid (Bo.next HO71.out hb)
  have HO67 := Lib.hid hbo
  clear hbo
  clear hb
  refine wpAnyH_ready (rs := [6]) (by kernel_rfl) (by simp) ?_
  refine AllReadyH.cons (o := { dst := some 72, op := Op.call { callee := Callee.value (Operand.func 22), args := #[Operand.tmp 67, Operand.tmp 71], argTypes := #[22, 22] }, type := 4, pos := "law.go:47", after := #[{ on := 1, ground := Ground.data }, { on := 5, ground := Ground.data }, { on := 1, ground := Ground.chain }], guard := none }) rfl (fun K hK => ?_) AllReadyH.nil
  go_simp
  (with_reducible refine (HSM.out nh Ln A67 A71 c67 c71 Y5 HLN.out (by omega) HO67.out HO71.out).mono ?_)
  rintro e Y6 ⟨rfl, hb⟩
  refine hK.out _ _ ?_ (fun hHeld => ?_)
  · exact HSS.out _ (below_chain HBx.out hb)
  clear hHeld hK K
  try simp only [Act.put, List.setIfInBounds_toArray, List.set_cons_zero, List.set_cons_succ]
  replace HBx := Lib.hid (below_chain HBx.out hb)
  replace HO71 := Lib.hid (Bo.next HO71.out hb)
  replace HO67 := Lib.hid (Bo.next HO67.out hb)
  clear hb
  have hHeld : (fun w' => w'.cell? ⟨g, 2, none⟩ = some (.slice A nh c) ∧ Hid (Below X3.heap.size X3 w')) Y6 := HSS.out _ HBx.out
  refine wpAnyH_take (i := 7) (oi := { dst := some 18, op := Op.assign (Operand.tmp 72), type := 4, pos := "law.go:47", after := #[{ on := 6, ground := Ground.data }, { on := 6, ground := Ground.chain }, { on := 0, ground := Ground.phase }, { on := 1, ground := Ground.phase }, { on := 2, ground := Ground.phase }, { on := 3, ground := Ground.phase }, { on := 4, ground := Ground.phase }, { on := 5, ground := Ground.phase }, { on := 6, ground := Ground.phase }], guard := none }) (v := ?_) rfl (by kernel_rfl) (by kernel_rfl) (by kernel_rfl) (fun _ _ _ h => h) (Or.inl ⟨by rfl, ?_⟩) (by assumption) ?_
  rotate_left 1
  · intro ws hSw; (try dsimp only at hSw); go_simp; all_goals with_reducible rfl
  simp only [Act.put, List.setIfInBounds_toArray, List.set_cons_zero, List.set_cons_succ]
  clear hHeld
  refine wpAnyH_done (by kernel_rfl) ?_ _
  have e9 : (E == E) = true := by simp
  have HBF := Lib.hid (below_chain HB0.out (below_chain HB5.out HBx.out))
  go_wp2_with fail
  go_ret
  exact ⟨rfl, HBF.out⟩

set_option maxRecDepth 100000 in
theorem transferTakes_lifted (os : Os) (started : os.Started) (H : Type) (enc : TypeId × Value → H) :
    ReturnsInHanded {} Try.checked os 11 .any (Rows.transferTakesSpec.pre6 enc Try.prog Try.f11 Rows.transferTakesRow.domain false) (Rows.transferTakesSpec.post enc Try.prog Try.f11 false true false false) := by
  refine returnsInHanded_of_change (C := Try.checked) own started (by kernel_rfl) Try.func11
    (ChangeSpec.witness6 (enc := enc) (C := Try.checked) false ⟨#[], #[.agg #[.int .i64 0, .int .i64 0, .slice none 0 0, .int .u8 0, .int .u8 0, .int .u8 0, .int .u8 0, .int .u8 0, .int .u8 0, .int .u8 0, .int .u8 0, .int .u8 0, .int .u8 0, .int .u8 0, .int .u8 0, .int .u8 0, .int .u8 0, .int .u8 0, .int .u8 0, .int .u8 0, .int .u8 0, .int .u8 0, .int .u8 0, .int .u8 0, .int .u8 0, .int .u8 0, .int .u8 0, .int .u8 0, .int .u8 0, .int .u8 0, .int .u8 0, .int .u8 0, .int .u8 0, .int .u8 0, .int .u8 0], .slice none 0 0, .int .i64 0, .slice none 0 0, .slice none 0 0], []⟩ 8 (by kernel_rfl) (by kernel_rfl) (by kernel_rfl) (by kernel_rfl)) ?_
  intro W base args ds gs before hval0 hW _ _
  have hval : ∀ (j : Nat) t v, Try.f11.params[j]? = some t → args[j]? = some v → Value.okWide Try.prog W .any base t v := hval0
  have hW' := hW
  obtain ⟨p, q, hA0, hV, rfl, _, _⟩ := hW
  have hA : DataW.TrodAll enc Try.prog W 0 (fun _ => true) true Try.f11.params.toList args.toList ds p := hA0
  rw [Try.params11] at hA hval
  obtain ⟨v0, vs0, d0, ds0, p0, q0, hargs, rfl, rfl, h0, r0⟩ := trodAll_cons hA
  obtain ⟨v1, vs1, d1, ds1, p1, q1, rfl, rfl, rfl, h1, r1⟩ := trodAll_cons r0
  obtain ⟨v2, vs2, d2, ds2, p2, q2, rfl, rfl, rfl, h2, r2⟩ := trodAll_cons r1
  obtain ⟨v3, vs3, d3, ds3, p3, q3, rfl, rfl, rfl, h3, r3⟩ := trodAll_cons r2
  obtain ⟨v4, vs4, d4, ds4, p4, q4, rfl, rfl, rfl, h4, r4⟩ := trodAll_cons r3
  obtain ⟨rfl, rfl, rfl⟩ := trodAll_nil r4
  obtain rfl : args = #[v0, v1, v2, v3, v4] := by cases args; simp_all
  obtain ⟨rfl, rfl⟩ := trodVars_none hV
  have k0 := h0
  have lt0 : ∀ x ∈ p0, x.block < W.heap.size := by obtain ⟨m, hm⟩ := k0; exact DataW.trod_lt m _ _ _ hm
  obtain ⟨s0, q0', A0, c0, l0, f0, rfl, b0⟩ := open_M (hval 0 35 v0 rfl rfl) h0
  have k1 := h1
  have lt1 : ∀ x ∈ p1, x.block < W.heap.size := by obtain ⟨m, hm⟩ := k1; exact DataW.trod_lt m _ _ _ hm
  obtain ⟨A1, c1, l1, rfl, b1⟩ := open_O (hval 1 22 v1 rfl rfl) h1
  have k2 := h2
  have lt2 : ∀ x ∈ p2, x.block < W.heap.size := by obtain ⟨m, hm⟩ := k2; exact DataW.trod_lt m _ _ _ hm
  obtain ⟨n2, rfl, f2⟩ := open_i64 Try.underlying3 (hval 2 3 v2 rfl rfl) h2
  have k3 := h3
  have lt3 : ∀ x ∈ p3, x.block < W.heap.size := by obtain ⟨m, hm⟩ := k3; exact DataW.trod_lt m _ _ _ hm
  obtain ⟨A3, c3, l3, rfl, b3⟩ := open_B (hval 3 31 v3 rfl rfl) h3
  have k4 := h4
  have lt4 : ∀ x ∈ p4, x.block < W.heap.size := by obtain ⟨m, hm⟩ := k4; exact DataW.trod_lt m _ _ _ hm
  obtain ⟨A4, c4, l4, rfl, b4⟩ := open_B (hval 4 31 v4 rfl rfl) h4
  clear hA0 hval0 hval
  refine (transferTakes_walk W s0 q0' A0 c0 l0 f0 b0 A1 c1 l1 b1 n2 f2 A3 c3 l3 b3 A4 c4 l4 b4).mono fun e W' ⟨he, bel⟩ => ?_
  subst he
  exact ⟨_, rfl, _, _, _, [], _, [], hW', trodAll_mk1 (shut_bool Try.underlying4 _), (trodAll_cons_mk (Below.trod laidOut (by kernel_rfl) (of_decide_eq_true (by kernel_rfl)) k0 bel lt0) (trodAll_cons_mk (Below.trod laidOut (by kernel_rfl) (of_decide_eq_true (by kernel_rfl)) k1 bel lt1) (trodAll_cons_mk (Below.trod laidOut (by kernel_rfl) (of_decide_eq_true (by kernel_rfl)) k2 bel lt2) (trodAll_cons_mk (Below.trod laidOut (by kernel_rfl) (of_decide_eq_true (by kernel_rfl)) k3 bel lt3) (trodAll_cons_mk (Below.trod laidOut (by kernel_rfl) (of_decide_eq_true (by kernel_rfl)) k4 bel lt4) trodAll_mk0))))), rfl, bel.frame _, fun h => by cases h⟩

theorem transferTakes_holds : Rows.TransferTakesSaid :=
  OpenClaim.holds_of_wide 11 Try.f11 rfl rfl rfl rfl rfl rfl rfl ⟨rfl, rfl, rfl, rfl, rfl⟩ rfl rfl rfl rfl rfl (by kernel_rfl) Try.func11 (by kernel_rfl)
    (of_decide_eq_true (by kernel_rfl)) (by unfold Func.isWrapper; first | (rw [if_pos (by decide +kernel)]; kernel_rfl) | (rw [if_neg (by decide +kernel)]; exact ⟨rfl, rfl⟩))
    (fun os started H enc _ => transferTakes_lifted os started H enc)
#print axioms transferTakes_holds
end Go.Proofs.Ytmpbimechgelfaa

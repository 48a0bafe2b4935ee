/- ShaNests holds: a code is the digest of a key, changed, and of the digest of that key, changed otherwise, and the text. Conditions: none. -/
import Derived.Test.YtmpbimechgelfaaSOpen
namespace Go.Proofs.Ytmpbimechgelfaa
open Go.ChangeShapes Go.WideShapes Go.ChangeAt Go.RowKit Go.Joins Go.Deep

/-- A key, changed by x; the first q places are done. -/
def xq (k : List Nat) (x q : Nat) : List Nat := (List.range 64).map fun i => if i < q then (k[i]?.getD 0) ^^^ x else 0
theorem xq_len (k : List Nat) (x q : Nat) : (xq k x q).length = 64 := by simp [xq]
theorem xq_zero (k : List Nat) (x : Nat) : xq k x 0 = List.replicate 64 0 := by
  unfold xq
  refine List.ext_getElem (by simp) fun i h1 h2 => ?_
  rw [List.getElem_replicate, List.getElem_map, if_neg (Nat.not_lt_zero _)]
theorem xq_set (k : List Nat) (x q : Nat) : (xq k x q).set q ((k[q]?.getD 0) ^^^ x) = xq k x (q + 1) := by
  unfold xq
  refine List.ext_getElem (by simp) fun i h1 h2 => ?_
  rw [List.getElem_set]
  simp only [List.getElem_map, List.getElem_range]
  by_cases h : q = i
  · subst h; rw [if_pos rfl, if_pos (by omega)]
  · rw [if_neg h]
    by_cases h2 : i < q
    · rw [if_pos h2, if_pos (by omega)]
    · rw [if_neg h2, if_neg (by omega)]
theorem xq_all (k : List Nat) (x : Nat) : xq k x 64 = xorK k x := by
  unfold xq xorK
  refine List.map_congr_left fun i hi => ?_
  rw [if_pos (by simpa using hi), Nat.xor_comm]
theorem fr_zeros {w : World} {base : Nat} (hb : base ≤ w.heap.size) : Fr (w.alloc (.cells (Array.replicate 64 (.int .u8 0)) 5)) base (.slice (some ⟨w.heap.size, 0, none⟩) 64 64) (List.replicate 64 0) := by
  have hh := heap_alloc_new w (.cells (Array.replicate 64 (.int .u8 0)) 5)
  refine .inr ⟨w.heap.size, 64, by simp, hb, fun _ => by simp, by simp, by unfold maxLen; omega, fun j hj => ?_, fun j hj => ⟨?_, frozen_of_row _ _ _ _ _ hh⟩⟩
  · rw [List.length_replicate] at hj
    rw [cell_of_row _ _ _ _ _ _ hh]
    unfold bf
    rw [List.getElem?_replicate, if_pos hj]
    simp [hj]
  · rw [cell_of_row _ _ _ _ _ _ hh]
    simp [hj]
set_option maxRecDepth 100000 in
set_option maxHeartbeats 8000000 in
theorem shaNests_walk (w : World) (A1 : Option Addr) (c1 : Nat) (k : List Nat) (h1 : InB w A1 c1 k) (A2 : Option Addr) (c2 : Nat) (t : List Nat) (h2 : InB w A2 c2 t) :
    Calls Try.prog 10 #[.slice A1 k.length c1, .slice A2 t.length c2] w fun e w' => e = .returned (.bool true) ∧ Below w.heap.size w w' := by
  have HI1 := Lib.hid h1
  have HI2 := Lib.hid h2
  have hcm1 : k.length ≤ maxLen := by have := h1.cap; omega
  have hcm2 : t.length ≤ maxLen := by have := h2.cap; omega
  unfold maxLen at hcm1 hcm2
  obtain ⟨n, hn⟩ : ∃ n, n = k.length := ⟨_, rfl⟩
  obtain ⟨m, hm⟩ : ∃ m, m = t.length := ⟨_, rfl⟩
  rw [← hn] at hcm1 ⊢
  rw [← hm] at hcm2 ⊢
  have HN := Lib.hid hn
  have HM := Lib.hid hm
  clear h1 h2 hn hm
  go_enter Try.func10, Try.ntmps10
  go_wp2_with fail
  refine (awake_any _).mono ?_
  rintro e w1 ⟨rfl, hb1⟩
  have HB1 := Lib.hid hb1
  have HK := Lib.hid (HI1.out.next hb1)
  have HT := Lib.hid (HI2.out.next hb1)
  clear HI1 HI2 hb1
  by_cases hk64 : n ≤ 64
  · by_cases ht500 : m ≤ 500
    · have hmk : ∀ w : World, (Instr.makeSlice 31 (.int .i64 64) (.int .i64 64)).run Try.prog w = .ok (.slice (some ⟨w.heap.size, 0, none⟩) 64 64) (w.alloc (.cells (Array.replicate 64 (.int .u8 0)) 5)) := fun _ => by kernel_rfl
      have hd1 : decide ((64 : Int) < (n : Int)) = false := by simp; omega
      have hd2 : decide ((500 : Int) < (m : Int)) = false := by simp; omega
      go_wp2_with fail
      obtain ⟨g1, hg1⟩ : ∃ g, g = w1.heap.size := ⟨_, rfl⟩
      obtain ⟨g2, hg2⟩ : ∃ g, g = w1.heap.size + 1 := ⟨_, rfl⟩
      obtain ⟨W2, hW2⟩ : ∃ W, W = (w1.alloc (.cells (Array.replicate 64 (.int .u8 0)) 5)).alloc (.cells (Array.replicate 64 (.int .u8 0)) 5) := ⟨_, rfl⟩
      rw [← hW2, ← hg2, ← hg1]
      have HF1 := Lib.hid (show Fr W2 w1.heap.size (.slice (some ⟨g1, 0, none⟩) 64 64) (xq k 54 0) from by
        rw [xq_zero, hg1, hW2]
        exact Fr.below (fr_zeros (Nat.le_refl _)) ((Below.refl _ _).alloc (Nat.le_refl _) _))
      have HF2 := Lib.hid (show Fr W2 w1.heap.size (.slice (some ⟨g2, 0, none⟩) 64 64) (xq k 92 0) from by
        have h := fr_zeros (w := w1.alloc (.cells (Array.replicate 64 (.int .u8 0)) 5)) (base := w1.heap.size) (by simp)
        rw [World.size_alloc] at h
        rw [xq_zero, hg2, hW2]
        exact h)
      have HB2 := Lib.hid (show Below w1.heap.size w1 W2 from by rw [hW2]; exact (by repeat (first | exact Below.refl _ _ | assumption | refine below_drewN ?_ _ | refine Below.drew ?_ | refine Below.alloc ?_ (by simp; try omega) _ | refine Below.setCell ?_ (by simp; try omega) _)))
      have hne : g1 ≠ g2 := by omega
      have hge1 : w1.heap.size ≤ g1 := by omega
      have hge2 : w1.heap.size ≤ g2 := by omega
      clear hW2 hg1 hg2 hmk hd1 hd2
      go_loopw [8] (fun i wr => ∃ q : Nat, i = .int .i64 (q : Int) ∧ q ≤ 64 ∧ Fr wr w1.heap.size (.slice (some ⟨g1, 0, none⟩) 64 64) (xq k 54 q) ∧ Fr wr w1.heap.size (.slice (some ⟨g2, 0, none⟩) 64 64) (xq k 92 q) ∧ Below w1.heap.size w1 wr) (fun i _ => (64 - intOf i).toNat)
      case atStart => exact ⟨0, rfl, by omega, HF1.out, HF2.out, HB2.out⟩
      case round =>
        obtain ⟨q, rfl, hq, hf1, hf2, hb⟩ := hrel
        have HG1 := Lib.hid hf1
        have HG2 := Lib.hid hf2
        have HBR := Lib.hid hb
        clear hf1 hf2 hb
        by_cases hq64 : q < 64
        · obtain ⟨x, hx⟩ : ∃ x, x = k[q]?.getD 0 := ⟨_, rfl⟩
          have hx256 : x < 256 := by rw [hx]; exact HK.out.byt.at_ q
          have d0 : q < n → ∃ b off, A1 = some ⟨b, off, none⟩ ∧ wr.cell? ⟨b, off + q, none⟩ = some (.int .u8 (x : Int)) := fun hqn => by
            obtain ⟨b, off, e, hbl, hc⟩ := HK.out.bs (by rw [← HN.out]; omega)
            refine ⟨b, off, e, ?_⟩
            rw [HBR.out.cell (p := ⟨b, off + q, none⟩) hbl, hc q (by rw [← HN.out]; omega), hx]; rfl
          have d1 : ∃ v, wr.cell? ⟨g1, q, none⟩ = some v := ⟨_, (HG1.out.cellAt (j := q) (by rw [xq_len]; omega)).1⟩
          have d2 := (HG1.out.cellAt (j := q) (by rw [xq_len]; omega)).2
          have d3 : ∃ v, wr.cell? ⟨g2, q, none⟩ = some v := ⟨_, (HG2.out.cellAt (j := q) (by rw [xq_len]; omega)).1⟩
          have d4 := (HG2.out.cellAt (j := q) (by rw [xq_len]; omega)).2
          obtain ⟨v1, d1⟩ := d1
          obtain ⟨v3, d3⟩ := d3
          have HX := Lib.hid hx
          have hqI : (q : Int) < 64 := by omega
          by_cases hqn : q < n
          · obtain ⟨b, off, rfl, d0⟩ := d0 hqn
            have e1 : bits BinOp.xor IntKind.u8 (x : Int) 54 = ((x ^^^ 54 : Nat) : Int) := u8_xor_nat x 54 hx256 (by omega)
            have e2 : bits BinOp.xor IntKind.u8 (x : Int) 92 = ((x ^^^ 92 : Nat) : Int) := u8_xor_nat x 92 hx256 (by omega)
            clear hx
            go_wp2_with fail
            go_roundw
            case rel =>
              refine ⟨q + 1, by go_num, by omega, ?_, ?_, ?_⟩
              · rw [← xq_set, ← HX.out]
                exact (HG1.out.set q (x ^^^ 54) (by rw [xq_len]; omega)).far (p := ⟨g2, q, none⟩) hne _
              · rw [← xq_set, ← HX.out]
                exact (HG2.out.far (p := ⟨g1, q, none⟩) (fun e => hne e.symm) _).set q (x ^^^ 92) (by rw [xq_len]; omega)
              · exact (HBR.out.setCell (p := ⟨g1, q, none⟩) hge1 _).setCell (p := ⟨g2, q, none⟩) hge2 _
            case measure => simp [intOf]; omega
          · have hx0 : x = 0 := by rw [hx, List.getElem?_eq_none (by rw [← HN.out]; omega)]; rfl
            have e1 : bits BinOp.xor IntKind.u8 0 54 = 54 := by decide
            have e2 : bits BinOp.xor IntKind.u8 0 92 = 92 := by decide
            have HX0 := Lib.hid hx0
            clear hx hx0 d0
            go_wp2_with fail
            go_roundw
            case rel =>
              refine ⟨q + 1, by go_num, by omega, ?_, ?_, ?_⟩
              · rw [← xq_set, ← HX.out, HX0.out]
                exact (HG1.out.set q (0 ^^^ 54) (by rw [xq_len]; omega)).far (p := ⟨g2, q, none⟩) hne _
              · rw [← xq_set, ← HX.out, HX0.out]
                exact (HG2.out.far (p := ⟨g1, q, none⟩) (fun e => hne e.symm) _).set q (0 ^^^ 92) (by rw [xq_len]; omega)
              · exact (HBR.out.setCell (p := ⟨g1, q, none⟩) hge1 _).setCell (p := ⟨g2, q, none⟩) hge2 _
            case measure => simp [intOf]; omega
        · obtain rfl : q = 64 := by omega
          have HI := Lib.hid (show Fr wr w1.heap.size (.slice (some ⟨g1, 0, none⟩) 64 64) (xorK k 54) from by rw [← xq_all]; exact HG1.out)
          have HU := Lib.hid (show Fr wr w1.heap.size (.slice (some ⟨g2, 0, none⟩) 64 64) (xorK k 92) from by rw [← xq_all]; exact HG2.out)
          have HT5 := Lib.hid (HT.out.next HBR.out)
          have HK5 := Lib.hid (HK.out.next HBR.out)
          have HB5 := Lib.hid (show Below w.heap.size w wr from below_chain HB1.out HBR.out)
          clear HG1 HG2 HBR
          obtain ⟨W5, hW5⟩ : ∃ W5, W5 = wr := ⟨_, rfl⟩
          subst hW5
          go_upto_region 14 with (fail)
          refine wp_region_list ?_
          repeat (first | go_values | go_skip | go_guarded | go_step | go_upon)
          refine (sum_any _ 2 [.slice (some ⟨g1, 0, none⟩) 64 64, .slice A2 m c2] [xorK k 54, t] _ (by have h := Prt.two (t := 31) (c := 64) (c2 := c2) (HI.out.rdAt).1 (xorK_byt HK5.out.byt (by omega)) HT5.out.bs HT5.out.byt; rw [xorK_len, ← HM.out] at h; exact h) (Nat.le_refl _) (by simp) (by simp [xorK_len]; have := HM.out; omega)).mono ?_
          rintro e w6 ⟨rfl, hb6⟩
          obtain ⟨H1, hH1⟩ : ∃ h, h = sumH (xorK k 54 ++ t) := ⟨_, rfl⟩
          obtain ⟨C1, hC1⟩ : ∃ C, C = hc H1 := ⟨_, rfl⟩
          rw [show hc (sumH [xorK k 54, t].flatten) = C1 from by rw [hC1, hH1]; simp]
          have HC1s := Lib.hid (show (Try.prog.info? 33).map (·.size) = some C1.size from by rw [hC1]; exact size_hc)
          have HC1a := Lib.hid (show C1.all (·.oneCell') = true from by rw [hC1]; exact hc_all _)
          have HC1z := Lib.hid (show (hc fun _ => 0).size = C1.size from by rw [hC1, hc_size, hc_size])
          have HC1 := Lib.hid hC1
          have HH1 := Lib.hid hH1
          have HB6 := Lib.hid (show Below W5.heap.size W5 w6 from below_chain ((Below.refl _ _).alloc (Nat.le_refl _) _) hb6)
          clear hC1 hH1 hb6
          dsimp only
          repeat (first
            | refine wpList_store_row (by rfl) 33 (.tmp 10) (.tmp 48) (by rfl) w6.heap.size C1 (by rfl) (by rfl) 33 (hc fun _ => 0) (by exact heap_alloc_new w6 _) HC1s.out HC1z.out HC1a.out ?_
            | go_values | go_skip | go_guarded | go_step | go_upon)
          obtain ⟨W7, hW7⟩ : ∃ W, W = (w6.alloc (.cells (hc fun _ => 0) 33)).setRow w6.heap.size C1 := ⟨_, rfl⟩
          change Code.wp _ _ _ _ ((w6.alloc (.cells (hc fun _ => 0) 33)).setRow w6.heap.size C1)
          rw [← hW7]
          have HX7 := Lib.hid (show Bs W7 W7.heap.size (some ⟨w6.heap.size, 0, none⟩) (hl H1) from Bs.box (by rw [← HC1.out]; exact (box_made hW7).1) (by rw [hW7]; simp [World.setRow]))
          have HB67 := Lib.hid (show Below W5.heap.size W5 W7 from below_chain HB6.out (box_made hW7).2)
          obtain ⟨g, hg⟩ : ∃ g, g = w6.heap.size := ⟨_, rfl⟩
          rw [← hg] at HX7 ⊢
          have HU7 := Lib.hid (HU.out.below HB67.out)
          have HT7 := Lib.hid (HT5.out.next HB67.out)
          have HK7 := Lib.hid (HK5.out.next HB67.out)
          have HB7 := Lib.hid (show Below w.heap.size w W7 from below_chain HB5.out HB67.out)
          have HH1b := Lib.hid (show Byt (hl H1) from by rw [HH1.out]; exact hl_byt (sumH_lt _))
          obtain ⟨D, hD⟩ : ∃ D, D = hc (codeH k t) := ⟨_, rfl⟩
          have HC4 : Hid (∀ W, Below W7.heap.size W7 W → Calls Try.prog 30 #[.slice A1 n c1, .slice A2 m c2] W fun e w' => e = .returned (.agg D) ∧ Below W.heap.size W w') := Lib.hid fun W hb => by
            have h := code_any A1 A2 c1 c2 k t W (HK7.out.next hb).bs (HT7.out.next hb).bs HK7.out.byt HT7.out.byt (by rw [← HN.out]; omega) (by rw [← HM.out]; omega)
            rw [← HN.out, ← HM.out, ← hD] at h
            exact h
          have HPR : Hid (∀ W, Below W7.heap.size W7 W → Prt (W.alloc (.cells #[.slice (some ⟨g2, 0, none⟩) 64 64, .slice (some ⟨g, 0, none⟩) 32 32] 31)) (some ⟨W.heap.size, 0, none⟩) [.slice (some ⟨g2, 0, none⟩) 64 64, .slice (some ⟨g, 0, none⟩) 32 32] [xorK k 92, hl H1]) := Lib.hid fun W hb => by
            have h := Prt.two (t := 31) (c := 64) (c2 := 32) ((HU7.out.below hb).rdAt).1 (xorK_byt HK7.out.byt (by omega)) (Bs.next HX7.out hb) HH1b.out
            rw [xorK_len, hl_len] at h
            exact h
          have HDV := Lib.hid (show hc (sumH [xorK k 92, hl H1].flatten) = D from by
            rw [hD]; unfold codeH keyN; rw [if_neg (by rw [← HN.out]; omega), ← HH1.out]; simp)
          have hev : ∀ W, (Op.equalIn 10000 33 (.agg D) (.agg D)).run Try.prog W = .ok true W := fun W => by rw [hD, eq_hash, eqh_self]
          clear hD hW7 hg HX7 HB67 HU7 HT7 HK7 HH1b HC1 HC1s HC1a HC1z HB6 HU HI HT5 HK5
          simp only [Act.put]
          refine wp_region_held_drew (S := fun w' => Hid (Below W7.heap.size W7 w')) (by kernel_rfl) (Lib.hid (Below.drew (Below.refl _ _))) (fun hHeld => ?_)
          refine wpAnyH_take (i := 0) (oi := { dst := some 49, op := Op.move (Operand.tmp 5), type := 4, pos := "law.go:108", after := #[], guard := none }) (v := ?_) rfl (by kernel_rfl) (by kernel_rfl) (by kernel_rfl) (fun _ _ _ h => h) (Or.inl ⟨by rfl, ?_⟩) (by assumption) ?_
          rotate_left 1
          · intro ws hSw; (try dsimp only at hSw); go_simp; all_goals with_reducible rfl
          simp only [Act.put, List.setIfInBounds_toArray, List.set_cons_zero, List.set_cons_succ]
          refine wpAnyH_take (i := 1) (oi := { dst := some 50, op := Op.move (Operand.tmp 49), type := 4, pos := "law.go:108", after := #[{ on := 0, ground := Ground.data }], guard := none }) (v := ?_) rfl (by kernel_rfl) (by kernel_rfl) (by kernel_rfl) (fun _ _ _ h => h) (Or.inl ⟨by rfl, ?_⟩) (by assumption) ?_
          rotate_left 1
          · intro ws hSw; (try dsimp only at hSw); go_simp; all_goals with_reducible rfl
          simp only [Act.put, List.setIfInBounds_toArray, List.set_cons_zero, List.set_cons_succ]
          refine wpAnyH_take (i := 2) (oi := { dst := some 51, op := Op.move (Operand.tmp 0), type := 31, pos := "law.go:108", after := #[{ on := 1, ground := Ground.guard }], guard := some (1, true) }) (v := ?_) rfl (by kernel_rfl) (by kernel_rfl) (by kernel_rfl) (fun _ _ _ h => h) (Or.inl ⟨by rfl, ?_⟩) (by assumption) ?_
          rotate_left 1
          · intro ws hSw; (try dsimp only at hSw); go_simp; all_goals with_reducible rfl
          simp only [Act.put, List.setIfInBounds_toArray, List.set_cons_zero, List.set_cons_succ]
          refine wpAnyH_take (i := 3) (oi := { dst := some 52, op := Op.move (Operand.tmp 1), type := 31, pos := "law.go:108", after := #[{ on := 1, ground := Ground.guard }], guard := some (1, true) }) (v := ?_) rfl (by kernel_rfl) (by kernel_rfl) (by kernel_rfl) (fun _ _ _ h => h) (Or.inl ⟨by rfl, ?_⟩) (by assumption) ?_
          rotate_left 1
          · intro ws hSw; (try dsimp only at hSw); go_simp; all_goals with_reducible rfl
          simp only [Act.put, List.setIfInBounds_toArray, List.set_cons_zero, List.set_cons_succ]
          refine wpAnyH_take (i := 5) (oi := { dst := some 54, op := Op.move (Operand.tmp 7), type := 31, pos := "law.go:108", after := #[{ on := 1, ground := Ground.guard }], guard := some (1, true) }) (v := ?_) rfl (by kernel_rfl) (by kernel_rfl) (by kernel_rfl) (fun _ _ _ h => h) (Or.inl ⟨by rfl, ?_⟩) (by assumption) ?_
          rotate_left 1
          · intro ws hSw; (try dsimp only at hSw); go_simp; all_goals with_reducible rfl
          simp only [Act.put, List.setIfInBounds_toArray, List.set_cons_zero, List.set_cons_succ]
          refine wpAnyH_take (i := 6) (oi := { dst := some 55, op := Op.slice 33 (Operand.tmp 10) none none none, type := 31, pos := "law.go:108", after := #[{ on := 1, ground := Ground.guard }], guard := some (1, true) }) (v := ?_) rfl (by kernel_rfl) (by kernel_rfl) (by kernel_rfl) (fun _ _ _ h => h) (Or.inl ⟨by rfl, ?_⟩) (by assumption) ?_
          rotate_left 1
          · intro ws hSw; (try dsimp only at hSw); go_simp; all_goals with_reducible rfl
          simp only [Act.put, List.setIfInBounds_toArray, List.set_cons_zero, List.set_cons_succ]
          have HBr := hHeld
          clear hHeld
          obtain ⟨Za, hWa⟩ : ∃ W, W = W7.drew := ⟨_, rfl⟩
          rw [← hWa] at HBr ⊢
          clear hWa
          refine wpAnyH_ready (rs := [4, 7]) (by kernel_rfl) (by simp) ?_
          refine AllReadyH.cons (o := { dst := some 53, op := Op.call { callee := Callee.value (Operand.func 30), args := #[Operand.tmp 51, Operand.tmp 52], argTypes := #[31, 31] }, type := 33, pos := "law.go:108", after := #[{ on := 2, ground := Ground.data }, { on := 3, ground := Ground.data }, { on := 1, ground := Ground.chain }, { on := 1, ground := Ground.guard }], guard := some (1, true) }) rfl (fun K hK => ?_) ?_
          · go_simp
            (with_reducible refine (HC4.out _ HBr.out).mono ?_)
            rintro e Z1 ⟨rfl, hb⟩
            refine hK.out _ _ ?_ (fun hHeld => ?_)
            · exact Lib.hid (below_chain HBr.out hb)
            clear hK K
            try simp only [Act.put, List.setIfInBounds_toArray, List.set_cons_zero, List.set_cons_succ]
            clear hb HBr
            have HBr := hHeld
            clear hHeld
            refine wpAnyH_ready (rs := [7]) (by kernel_rfl) (by simp) ?_
            refine AllReadyH.cons (o := { dst := some 56, op := Op.buildSlice 52 2 #[(0, Operand.tmp 54), (1, Operand.tmp 55)], type := 52, pos := "law.go:108", after := #[{ on := 5, ground := Ground.data }, { on := 6, ground := Ground.data }, { on := 1, ground := Ground.guard }], guard := some (1, true) }) rfl (fun K hK => ?_) AllReadyH.nil
            go_simp
            refine hK.out _ _ ?_ (fun hHeld => ?_)
            · exact Lib.hid (HBr.out.alloc HBr.out.size _)
            clear hK K
            try simp only [Act.put, List.setIfInBounds_toArray, List.set_cons_zero, List.set_cons_succ]
            obtain ⟨Z2, hW⟩ : ∃ W', W' = Z1.alloc (.cells #[.slice (some ⟨g2, 0, none⟩) 64 64, .slice (some ⟨g, 0, none⟩) 32 32] 31) := ⟨_, rfl⟩
            change wpAnyH _ _ _ _ _ _ _ _ (Z1.alloc (.cells #[.slice (some ⟨g2, 0, none⟩) 64 64, .slice (some ⟨g, 0, none⟩) 32 32] 31))
            rw [← hW]
            have HBr' := Lib.hid (show Below W7.heap.size W7 Z2 from by rw [hW]; exact HBr.out.alloc HBr.out.size _)
            have hb : Below Z1.heap.size Z1 Z2 := by rw [hW]; exact (Below.refl _ _).alloc (Nat.le_refl _) _
            have PR := Lib.hid (show Prt Z2 (some ⟨Z1.heap.size, 0, none⟩) [.slice (some ⟨g2, 0, none⟩) 64 64, .slice (some ⟨g, 0, none⟩) 32 32] [xorK k 92, hl H1] from by rw [hW]; exact HPR.out _ HBr.out)
            obtain ⟨gk, hgk⟩ : ∃ g, g = Z1.heap.size := ⟨_, rfl⟩
            rw [← hgk] at PR ⊢
            clear hW hb hHeld HBr hgk
            have HBr := HBr'
            clear HBr'
            refine wpAnyH_ready (rs := [8]) (by kernel_rfl) (by simp) ?_
            refine AllReadyH.cons (o := { dst := some 57, op := Op.call { callee := Callee.value (Operand.func 29), args := #[Operand.tmp 56], argTypes := #[52] }, type := 33, pos := "law.go:108", after := #[{ on := 7, ground := Ground.data }, { on := 4, ground := Ground.chain }, { on := 1, ground := Ground.guard }], guard := some (1, true) }) rfl (fun K hK => ?_) AllReadyH.nil
            go_simp
            (with_reducible refine (show Calls _ _ #[.slice (some ⟨gk, 0, none⟩) 2 2] _ _ from sum_any _ 2 _ _ _ PR.out (by simp) (by simp) (by simp [xorK_len, hl_len])).mono ?_)
            rintro e Z3 ⟨rfl, hb⟩
            rw [HDV.out]
            refine hK.out _ _ ?_ (fun hHeld => ?_)
            · exact Lib.hid (below_chain HBr.out hb)
            clear hK K
            try simp only [Act.put, List.setIfInBounds_toArray, List.set_cons_zero, List.set_cons_succ]
            replace PR := Lib.hid (Prt.nextW PR.out hb)
            clear hb HBr
            have HBr := hHeld
            clear hHeld
            refine wpAnyH_take (i := 9) (oi := { dst := some 58, op := Op.binOp BinOp.eql 33 (Operand.tmp 53) (Operand.tmp 57) 33, type := 4, pos := "law.go:108", after := #[{ on := 4, ground := Ground.data }, { on := 8, ground := Ground.data }, { on := 1, ground := Ground.guard }], guard := some (1, true) }) (v := ?_) rfl (by kernel_rfl) (by kernel_rfl) (by kernel_rfl) (fun _ _ _ h => h) (Or.inl ⟨by rfl, ?_⟩) (by assumption) ?_
            rotate_left 1
            · intro ws hSw; (try dsimp only at hSw); go_simp; all_goals with_reducible rfl
            simp only [Act.put, List.setIfInBounds_toArray, List.set_cons_zero, List.set_cons_succ]
            refine wpAnyH_take (i := 10) (oi := { dst := some 59, op := Op.pick (Operand.tmp 50) (Operand.tmp 58) (Operand.const (Value.bool false)), type := 4, pos := "law.go:108", after := #[{ on := 1, ground := Ground.data }, { on := 9, ground := Ground.data }], guard := none }) (v := ?_) rfl (by kernel_rfl) (by kernel_rfl) (by kernel_rfl) (fun _ _ _ h => h) (Or.inl ⟨by rfl, ?_⟩) (by assumption) ?_
            rotate_left 1
            · intro ws hSw; (try dsimp only at hSw); go_simp; all_goals with_reducible rfl
            simp only [Act.put, List.setIfInBounds_toArray, List.set_cons_zero, List.set_cons_succ]
            refine wpAnyH_take (i := 11) (oi := { dst := some 4, op := Op.assign (Operand.tmp 59), type := 4, pos := "law.go:108", after := #[{ on := 10, ground := Ground.data }, { on := 8, ground := Ground.chain }, { on := 0, ground := Ground.phase }, { on := 1, ground := Ground.phase }, { on := 2, ground := Ground.phase }, { on := 3, ground := Ground.phase }, { on := 4, ground := Ground.phase }, { on := 5, ground := Ground.phase }, { on := 6, ground := Ground.phase }, { on := 7, ground := Ground.phase }, { on := 8, ground := Ground.phase }, { on := 9, ground := Ground.phase }, { on := 10, ground := Ground.phase }], guard := none }) (v := ?_) rfl (by kernel_rfl) (by kernel_rfl) (by kernel_rfl) (fun _ _ _ h => h) (Or.inl ⟨by rfl, ?_⟩) (by assumption) ?_
            rotate_left 1
            · intro ws hSw; (try dsimp only at hSw); go_simp; all_goals with_reducible rfl
            simp only [Act.put, List.setIfInBounds_toArray, List.set_cons_zero, List.set_cons_succ]
            refine wpAnyH_done (by kernel_rfl) ?_ _
            go_wp2_with fail
            go_ret
            exact ⟨rfl, below_chain HB7.out HBr.out⟩
          refine AllReadyH.cons (o := { dst := some 56, op := Op.buildSlice 52 2 #[(0, Operand.tmp 54), (1, Operand.tmp 55)], type := 52, pos := "law.go:108", after := #[{ on := 5, ground := Ground.data }, { on := 6, ground := Ground.data }, { on := 1, ground := Ground.guard }], guard := some (1, true) }) rfl (fun K hK => ?_) AllReadyH.nil
          go_simp
          refine hK.out _ _ ?_ (fun hHeld => ?_)
          · exact Lib.hid (HBr.out.alloc HBr.out.size _)
          clear hK K
          try simp only [Act.put, List.setIfInBounds_toArray, List.set_cons_zero, List.set_cons_succ]
          obtain ⟨Z4, hW⟩ : ∃ W', W' = Za.alloc (.cells #[.slice (some ⟨g2, 0, none⟩) 64 64, .slice (some ⟨g, 0, none⟩) 32 32] 31) := ⟨_, rfl⟩
          change wpAnyH _ _ _ _ _ _ _ _ (Za.alloc (.cells #[.slice (some ⟨g2, 0, none⟩) 64 64, .slice (some ⟨g, 0, none⟩) 32 32] 31))
          rw [← hW]
          have HBr' := Lib.hid (show Below W7.heap.size W7 Z4 from by rw [hW]; exact HBr.out.alloc HBr.out.size _)
          have hb : Below Za.heap.size Za Z4 := by rw [hW]; exact (Below.refl _ _).alloc (Nat.le_refl _) _
          have PR := Lib.hid (show Prt Z4 (some ⟨Za.heap.size, 0, none⟩) [.slice (some ⟨g2, 0, none⟩) 64 64, .slice (some ⟨g, 0, none⟩) 32 32] [xorK k 92, hl H1] from by rw [hW]; exact HPR.out _ HBr.out)
          obtain ⟨gk, hgk⟩ : ∃ g, g = Za.heap.size := ⟨_, rfl⟩
          rw [← hgk] at PR ⊢
          clear hW hb hHeld HBr hgk
          have HBr := HBr'
          clear HBr'
          refine wpAnyH_ready (rs := [4]) (by kernel_rfl) (by simp) ?_
          refine AllReadyH.cons (o := { dst := some 53, op := Op.call { callee := Callee.value (Operand.func 30), args := #[Operand.tmp 51, Operand.tmp 52], argTypes := #[31, 31] }, type := 33, pos := "law.go:108", after := #[{ on := 2, ground := Ground.data }, { on := 3, ground := Ground.data }, { on := 1, ground := Ground.chain }, { on := 1, ground := Ground.guard }], guard := some (1, true) }) rfl (fun K hK => ?_) AllReadyH.nil
          go_simp
          (with_reducible refine (HC4.out _ HBr.out).mono ?_)
          rintro e Z5 ⟨rfl, hb⟩
          refine hK.out _ _ ?_ (fun hHeld => ?_)
          · exact Lib.hid (below_chain HBr.out hb)
          clear hK K
          try simp only [Act.put, List.setIfInBounds_toArray, List.set_cons_zero, List.set_cons_succ]
          replace PR := Lib.hid (Prt.nextW PR.out hb)
          clear hb HBr
          have HBr := hHeld
          clear hHeld
          refine wpAnyH_ready (rs := [8]) (by kernel_rfl) (by simp) ?_
          refine AllReadyH.cons (o := { dst := some 57, op := Op.call { callee := Callee.value (Operand.func 29), args := #[Operand.tmp 56], argTypes := #[52] }, type := 33, pos := "law.go:108", after := #[{ on := 7, ground := Ground.data }, { on := 4, ground := Ground.chain }, { on := 1, ground := Ground.guard }], guard := some (1, true) }) rfl (fun K hK => ?_) AllReadyH.nil
          go_simp
          (with_reducible refine (show Calls _ _ #[.slice (some ⟨gk, 0, none⟩) 2 2] _ _ from sum_any _ 2 _ _ _ PR.out (by simp) (by simp) (by simp [xorK_len, hl_len])).mono ?_)
          rintro e Z6 ⟨rfl, hb⟩
          rw [HDV.out]
          refine hK.out _ _ ?_ (fun hHeld => ?_)
          · exact Lib.hid (below_chain HBr.out hb)
          clear hK K
          try simp only [Act.put, List.setIfInBounds_toArray, List.set_cons_zero, List.set_cons_succ]
          replace PR := Lib.hid (Prt.nextW PR.out hb)
          clear hb HBr
          have HBr := hHeld
          clear hHeld
          refine wpAnyH_take (i := 9) (oi := { dst := some 58, op := Op.binOp BinOp.eql 33 (Operand.tmp 53) (Operand.tmp 57) 33, type := 4, pos := "law.go:108", after := #[{ on := 4, ground := Ground.data }, { on := 8, ground := Ground.data }, { on := 1, ground := Ground.guard }], guard := some (1, true) }) (v := ?_) rfl (by kernel_rfl) (by kernel_rfl) (by kernel_rfl) (fun _ _ _ h => h) (Or.inl ⟨by rfl, ?_⟩) (by assumption) ?_
          rotate_left 1
          · intro ws hSw; (try dsimp only at hSw); go_simp; all_goals with_reducible rfl
          simp only [Act.put, List.setIfInBounds_toArray, List.set_cons_zero, List.set_cons_succ]
          refine wpAnyH_take (i := 10) (oi := { dst := some 59, op := Op.pick (Operand.tmp 50) (Operand.tmp 58) (Operand.const (Value.bool false)), type := 4, pos := "law.go:108", after := #[{ on := 1, ground := Ground.data }, { on := 9, ground := Ground.data }], guard := none }) (v := ?_) rfl (by kernel_rfl) (by kernel_rfl) (by kernel_rfl) (fun _ _ _ h => h) (Or.inl ⟨by rfl, ?_⟩) (by assumption) ?_
          rotate_left 1
          · intro ws hSw; (try dsimp only at hSw); go_simp; all_goals with_reducible rfl
          simp only [Act.put, List.setIfInBounds_toArray, List.set_cons_zero, List.set_cons_succ]
          refine wpAnyH_take (i := 11) (oi := { dst := some 4, op := Op.assign (Operand.tmp 59), type := 4, pos := "law.go:108", after := #[{ on := 10, ground := Ground.data }, { on := 8, ground := Ground.chain }, { on := 0, ground := Ground.phase }, { on := 1, ground := Ground.phase }, { on := 2, ground := Ground.phase }, { on := 3, ground := Ground.phase }, { on := 4, ground := Ground.phase }, { on := 5, ground := Ground.phase }, { on := 6, ground := Ground.phase }, { on := 7, ground := Ground.phase }, { on := 8, ground := Ground.phase }, { on := 9, ground := Ground.phase }, { on := 10, ground := Ground.phase }], guard := none }) (v := ?_) rfl (by kernel_rfl) (by kernel_rfl) (by kernel_rfl) (fun _ _ _ h => h) (Or.inl ⟨by rfl, ?_⟩) (by assumption) ?_
          rotate_left 1
          · intro ws hSw; (try dsimp only at hSw); go_simp; all_goals with_reducible rfl
          simp only [Act.put, List.setIfInBounds_toArray, List.set_cons_zero, List.set_cons_succ]
          refine wpAnyH_done (by kernel_rfl) ?_ _
          go_wp2_with fail
          go_ret
          exact ⟨rfl, below_chain HB7.out HBr.out⟩
    · go_wp2_with fail
      go_ret
      exact ⟨rfl, HB1.out⟩
  · go_wp2_with fail
    go_ret
    exact ⟨rfl, HB1.out⟩

set_option maxRecDepth 100000 in
theorem shaNests_lifted (os : Os) (started : os.Started) (H : Type) (enc : TypeId × Value → H) :
    ReturnsInHanded {} Try.checked os 10 .any (Rows.shaNestsSpec.pre6 enc Try.prog Try.f10 Rows.shaNestsRow.domain false) (Rows.shaNestsSpec.post enc Try.prog Try.f10 false true false false) := by
  refine returnsInHanded_of_change (C := Try.checked) own started (by kernel_rfl) Try.func10
    (ChangeSpec.witness6 (enc := enc) (C := Try.checked) false ⟨#[], #[.slice none 0 0, .slice none 0 0], []⟩ 8 (by kernel_rfl) (by kernel_rfl) (by kernel_rfl) (by kernel_rfl)) ?_
  intro W base args ds gs before hval0 hW _ _
  have hval : ∀ (j : Nat) t v, Try.f10.params[j]? = some t → args[j]? = some v → Value.okWide Try.prog W .any base t v := hval0
  have hW' := hW
  obtain ⟨p, q, hA0, hV, rfl, _, _⟩ := hW
  have hA : DataW.TrodAll enc Try.prog W 0 (fun _ => true) true Try.f10.params.toList args.toList ds p := hA0
  rw [Try.params10] at hA hval
  obtain ⟨v0, vs0, d0, ds0, p0, q0, hargs, rfl, rfl, h0, r0⟩ := trodAll_cons hA
  obtain ⟨v1, vs1, d1, ds1, p1, q1, rfl, rfl, rfl, h1, r1⟩ := trodAll_cons r0
  obtain ⟨rfl, rfl, rfl⟩ := trodAll_nil r1
  obtain rfl : args = #[v0, v1] := by cases args; simp_all
  obtain ⟨rfl, rfl⟩ := trodVars_none hV
  have k0 := h0
  have lt0 : ∀ x ∈ p0, x.block < W.heap.size := by obtain ⟨m, hm⟩ := k0; exact DataW.trod_lt m _ _ _ hm
  obtain ⟨A0, c0, l0, rfl, b0⟩ := open_B (hval 0 31 v0 rfl rfl) h0
  have k1 := h1
  have lt1 : ∀ x ∈ p1, x.block < W.heap.size := by obtain ⟨m, hm⟩ := k1; exact DataW.trod_lt m _ _ _ hm
  obtain ⟨A1, c1, l1, rfl, b1⟩ := open_B (hval 1 31 v1 rfl rfl) h1
  clear hA0 hval0 hval
  refine (shaNests_walk W A0 c0 l0 b0 A1 c1 l1 b1).mono fun e W' ⟨he, bel⟩ => ?_
  subst he
  exact ⟨_, rfl, _, _, _, [], _, [], hW', trodAll_mk1 (shut_bool Try.underlying4 _), (trodAll_cons_mk (Below.trod laidOut (by kernel_rfl) (of_decide_eq_true (by kernel_rfl)) k0 bel lt0) (trodAll_cons_mk (Below.trod laidOut (by kernel_rfl) (of_decide_eq_true (by kernel_rfl)) k1 bel lt1) trodAll_mk0)), rfl, bel.frame _, fun h => by cases h⟩

theorem shaNests_holds : Rows.ShaNestsSaid :=
  OpenClaim.holds_of_wide 10 Try.f10 rfl rfl rfl rfl rfl rfl rfl ⟨rfl, rfl, rfl, rfl, rfl⟩ rfl rfl rfl rfl rfl (by kernel_rfl) Try.func10 (by kernel_rfl)
    (of_decide_eq_true (by kernel_rfl)) (by unfold Func.isWrapper; first | (rw [if_pos (by decide +kernel)]; kernel_rfl) | (rw [if_neg (by decide +kernel)]; exact ⟨rfl, rfl⟩))
    (fun os started H enc _ => shaNests_lifted os started H enc)
#print axioms shaNests_holds
end Go.Proofs.Ytmpbimechgelfaa

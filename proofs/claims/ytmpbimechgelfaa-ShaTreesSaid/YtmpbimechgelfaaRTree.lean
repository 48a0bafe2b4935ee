/- The document's Tree. -/
import Derived.Test.YtmpbimechgelfaaRCode
import Derived.Test.YtmpbimechgelfaaTree
namespace Go.Proofs.Ytmpbimechgelfaa
open Go Go.RowKit

set_option maxRecDepth 100000 in
set_option maxHeartbeats 8000000 in
theorem rtree_small (k : Nat) (l : List (Nat → Nat)) (A : Option Addr) (c : Nat) (w : World) (h : Hs w w.heap.size A l) (hlen : l.length ≤ 1) :
    Calls Try.prog 36 #[.slice A l.length c] w fun e w' => e = .returned (.agg (hc (treeF k l))) ∧ Below w.heap.size w w' := by
  have HH := Lib.hid h
  have HAL := Lib.hid (heap_alloc_new w (.cells (hc fun _ => 0) 33))
  clear h
  match l, hlen, HH with
  | [], hlen, HH =>
    go_enter Try.func36, Try.ntmps36
    go_upto_region 2 with (fail)
    refine wp_region_list ?_
    repeat (first | go_values | go_skip | go_guarded | go_step | go_upon)
    refine (rsum_any none 0 0 [] _ Bs.nil rfl (by unfold Byt; simp) (by simp) (fun _ => rfl)).mono ?_
    rintro e w1 ⟨rfl, hb1⟩
    obtain ⟨C2, hC2⟩ : ∃ C, C = hc (treeF k []) := ⟨_, rfl⟩
    rw [show hc (sumH []) = C2 from by rw [hC2]; cases k <;> rfl]
    have HC2s := Lib.hid (show (Try.prog.info? 33).map (·.size) = some C2.size from by rw [hC2]; exact size_hc)
    have HC2a := Lib.hid (show C2.all (·.oneCell') = true from by rw [hC2]; exact hc_all _)
    have HC2z := Lib.hid (show (hc fun _ => 0).size = C2.size from by rw [hC2, hc_size, hc_size])
    have HO7 := Lib.hid (show w1.heap[w.heap.size]? = some (.cells (hc fun _ => 0) 33 (0, 0)) from by rw [hb1.block _ (by simp)]; exact HAL.out)
    have HB7 := Lib.hid (show Below w.heap.size w w1 from below_chain ((Below.refl _ _).alloc (Nat.le_refl _) _) hb1)
    have HFIN := Lib.hid hC2.symm
    clear hC2 hb1
    dsimp only
    repeat (first
      | refine wpList_store_row (by rfl) 33 (.tmp 2) (.tmp 9) (by rfl) w.heap.size C2 (by rfl) (by rfl) 33 (hc fun _ => 0) HO7.out HC2s.out HC2z.out HC2a.out ?_
      | go_values | go_skip | go_guarded | go_step | go_upon)
    exact bodyPost_ret (v := .agg C2) (results_cell_row (by rfl) _ _ w.heap.size 33 _ (0, 0) _ (by rfl) (setRow_heap _ _ _ _ _ _ HO7.out) Try.underlying33 (by rfl) HC2s.out) rfl ⟨by rw [HFIN.out], below_setRow HB7.out (Nat.le_refl _) C2⟩
  | [h0], hlen, HH =>
    obtain ⟨b, off, rfl, hb, hr⟩ := HH.out.at_ (k := 0) (by simp)
    obtain ⟨C2, hC2⟩ : ∃ C, C = hc (treeF k [h0]) := ⟨_, rfl⟩
    have HR := Lib.hid (show (w.alloc (.cells (hc fun _ => 0) 33)).rangeAt b off C2.toList from by
      refine World.rangeAt_alloc ?_ _
      rw [Nat.zero_mul, Nat.add_zero] at hr
      rw [hC2]
      have : treeF k [h0] = h0 := by cases k <;> rfl
      rw [this]; exact hr)
    have HC2s := Lib.hid (show (Try.prog.info? 33).map (·.size) = some C2.size from by rw [hC2]; exact size_hc)
    have HC2a := Lib.hid (show C2.all (·.oneCell') = true from by rw [hC2]; exact hc_all _)
    have HC2z := Lib.hid (show (hc fun _ => 0).size = C2.size from by rw [hC2, hc_size, hc_size])
    have HFIN := Lib.hid hC2.symm
    clear hC2 hr
    go_enter Try.func36, Try.ntmps36
    go_upto_region 4 with (fail)
    refine wp_region_list ?_
    repeat (first
      | refine wpList_load_mid (by rfl) 33 (.tmp 14) (by rfl) b off (by rfl) C2.toList _ HR.out Try.underlying33 (by rfl) (by rw [Array.length_toList]; exact HC2s.out) ?_
      | refine wpList_store_row (by rfl) 33 (.tmp 2) (.tmp 15) (by rfl) w.heap.size C2 (by rfl) (by rfl) 33 (hc fun _ => 0) HAL.out HC2s.out HC2z.out HC2a.out ?_
      | go_values | go_skip | go_guarded | go_step | go_upon)
    exact bodyPost_ret (v := .agg C2) (results_cell_row (by rfl) _ _ w.heap.size 33 _ (0, 0) _ (by rfl) (setRow_heap _ _ _ _ _ _ HAL.out) Try.underlying33 (by rfl) HC2s.out) rfl ⟨by rw [HFIN.out], below_setRow ((Below.refl _ _).alloc (Nat.le_refl _) _) (Nat.le_refl _) C2⟩
  | a :: b :: r, hlen, HH => simp at hlen
set_option maxRecDepth 100000 in
theorem tp_fin : ∀ x : Fin 1001, ∀ i : Fin 11, 2 ^ i.val < x.val → x.val ≤ 2 ^ (i.val + 1) → tp x.val = 2 ^ i.val := by decide +kernel
theorem tp_of {n i p : Nat} (hn : n ≤ 1000) (hp : p = 2 ^ i) (h1 : p < n) (h2 : n ≤ 2 * p) : tp n = p := by
  have hi : i < 11 := by
    by_cases h : i < 11
    · exact h
    · have := Nat.pow_le_pow_right (n := 2) (by omega) (show 11 ≤ i by omega)
      omega
  subst hp
  exact tp_fin ⟨n, by omega⟩ ⟨i, hi⟩ h1 (by show n ≤ 2 ^ (i + 1); rw [Nat.pow_succ]; omega)
set_option maxRecDepth 100000 in
set_option maxHeartbeats 8000000 in
theorem rtree_any (k : Nat) : ∀ (l : List (Nat → Nat)) (A : Option Addr) (c : Nat) (w : World), Hs w w.heap.size A l → (∀ h ∈ l, ∀ j, h j < 256) → l.length ≤ k → l.length ≤ 1000 → l.length ≤ c → c ≤ maxLen →
    Calls Try.prog 36 #[.slice A l.length c] w fun e w' => e = .returned (.agg (hc (treeF k l))) ∧ Below w.heap.size w w' := by
  induction k with
  | zero => intro l A c w h _ hk _ _ _; exact rtree_small 0 l A c w h (by omega)
  | succ k ih =>
    intro l A c w h hok hk hlen hc' hcm
    by_cases h2 : l.length ≤ 1
    · exact rtree_small (k + 1) l A c w h h2
    · have IH := Lib.hid ih
      have HH := Lib.hid h
      have HOK := Lib.hid hok
      obtain ⟨b, off, rfl, hbw, -⟩ := h (by omega)
      obtain ⟨n, hn⟩ : ∃ n, n = l.length := ⟨_, rfl⟩
      rw [← hn] at hk hlen hc' h2 ⊢
      have HTW := Lib.hid (treeF_two (k := k) (l := l) (by omega))
      rw [← hn] at HTW
      have HN := Lib.hid hn
      have hn2 : 2 ≤ n := by omega
      clear ih h hok hn h2
      go_enter Try.func36, Try.ntmps36
      go_upto_region 5 with (fail)
      obtain ⟨W0, hW0⟩ : ∃ W0, W0 = w.alloc (.cells (hc fun _ => 0) 33) := ⟨_, rfl⟩
      change Code.wp _ _ _ _ (w.alloc (.cells (hc fun _ => 0) 33))
      rw [← hW0]
      have HS0 := Lib.hid (show W0.heap.size = w.heap.size + 1 from by rw [hW0]; simp)
      have HB0 := Lib.hid (show Below w.heap.size w W0 from by rw [hW0]; exact (by repeat (first | exact Below.refl _ _ | assumption | refine below_drewN ?_ _ | refine Below.drew ?_ | refine Below.alloc ?_ (by simp; try omega) _ | refine Below.setCell ?_ (by simp; try omega) _)))
      have HO0 := Lib.hid (show W0.heap[w.heap.size]? = some (.cells (hc fun _ => 0) 33 (0, 0)) from by rw [hW0]; exact heap_alloc_new w _)
      have HH0 := Lib.hid (show Hs W0 W0.heap.size (some ⟨b, off, none⟩) l from Hs.next HH.out HB0.out)
      clear hW0
      go_wp2_with fail
      go_loop [3] (fun v => ∃ p i : Nat, v = .int .i64 (p : Int) ∧ p = 2 ^ i ∧ p < n) (fun v => n - (intOf v).toNat)
      case atStart => exact ⟨1, 0, rfl, rfl, by omega⟩
      case round =>
        obtain ⟨p, i, rfl, hp, hpn⟩ := hrel
        have HP := Lib.hid hp
        have hp1 : 1 ≤ p := by rw [hp]; exact Nat.one_le_two_pow
        clear hp
        by_cases h2p : 2 * p < n
        · have hI : 2 * (p : Int) < (n : Int) := by omega
          go_wp2_with fail
          go_round
          case rel => exact ⟨2 * p, i + 1, by first | rfl | go_num, by rw [HP.out, Nat.pow_succ]; omega, h2p⟩
          case measure => simp [intOf]; omega
        · have HTP := Lib.hid (tp_of hlen HP.out hpn (by omega))
          have hI : ¬ 2 * (p : Int) < (n : Int) := by omega
          rw [HTP.out] at HTW
          have HNH := Lib.hid HH0.out
          obtain ⟨C1, hC1⟩ : ∃ C, C = hc (treeF k (l.take p)) := ⟨_, rfl⟩
          obtain ⟨C2, hC2⟩ : ∃ C, C = hc (treeF k (l.drop p)) := ⟨_, rfl⟩
          have HC1s := Lib.hid (show (Try.prog.info? 33).map (·.size) = some C1.size from by rw [hC1]; exact size_hc)
          have HC1a := Lib.hid (show C1.all (·.oneCell') = true from by rw [hC1]; exact hc_all _)
          have HC1z := Lib.hid (show (hc fun _ => 0).size = C1.size from by rw [hC1, hc_size, hc_size])
          have HC2s := Lib.hid (show (Try.prog.info? 33).map (·.size) = some C2.size from by rw [hC2]; exact size_hc)
          have HC2a := Lib.hid (show C2.all (·.oneCell') = true from by rw [hC2]; exact hc_all _)
          have HC2z := Lib.hid (show (hc fun _ => 0).size = C2.size from by rw [hC2, hc_size, hc_size])
          have HC1 : Hid (∀ W, Below W0.heap.size W0 W → Calls Try.prog 36 #[.slice (some ⟨b, off, none⟩) p c] W fun e w' => e = .returned (.agg C1) ∧ Below W.heap.size W w') := Lib.hid fun W hb => by
            have h1 := IH.out (l.take p) (some ⟨b, off, none⟩) c W (Hs.take (Hs.next HH0.out hb) p) (fun h hh => HOK.out h (List.mem_of_mem_take hh)) (by rw [List.length_take, ← HN.out]; omega) (by rw [List.length_take, ← HN.out]; omega) (by rw [List.length_take, ← HN.out]; omega) (by unfold maxLen; unfold maxLen at hcm; omega)
            rw [List.length_take, ← HN.out, Nat.min_eq_left (by omega), ← hC1] at h1
            exact h1
          have HC2 : Hid (∀ W, Below W0.heap.size W0 W → Calls Try.prog 36 #[.slice (some ⟨b, off + p * 32, none⟩) (n - p) (c - p)] W fun e w' => e = .returned (.agg C2) ∧ Below W.heap.size W w') := Lib.hid fun W hb => by
            have h1 := IH.out (l.drop p) (some ⟨b, off + p * 32, none⟩) (c - p) W (Hs.drop (Hs.next HH0.out hb) p) (fun h hh => HOK.out h (List.mem_of_mem_drop hh)) (by rw [List.length_drop, ← HN.out]; omega) (by rw [List.length_drop, ← HN.out]; omega) (by rw [List.length_drop, ← HN.out]; omega) (by unfold maxLen; unfold maxLen at hcm; omega)
            rw [List.length_drop, ← HN.out, ← hC2] at h1
            exact h1
          have hpc : (p : Int) < (c : Int) := by omega
          have hpc' : (p : Int) ≤ (c : Int) := by omega
          have hpc0 : (0 : Int) ≤ (p : Int) := by omega
          have hpn' : (p : Int) ≤ (n : Int) := by omega
          have hcne : ¬ c = p := by omega
          have hcm' : (c : Int) ≤ 9223372036854775807 := by unfold maxLen at hcm; omega
          have HD1 := Lib.hid hC1
          have HD2 := Lib.hid hC2
          clear hC1 hC2 hcm
          go_upto_region 8 with (fail)
          refine wp_region_list ?_
          repeat (first | go_values | go_skip | go_guarded | go_step | go_upon)
          refine (HC1.out W0 (Below.refl _ _)).mono ?_
          rintro e w1 ⟨rfl, hb1⟩
          have HB1 := Lib.hid hb1
          clear hb1
          dsimp only
          repeat (first
            | refine wpList_store_row (by rfl) 33 (.tmp 4) (.tmp 26) (by rfl) w1.heap.size C1 (by rfl) (by rfl) 33 (hc fun _ => 0) (by exact heap_alloc_new w1 _) HC1s.out HC1z.out HC1a.out ?_
            | go_values | go_skip | go_guarded | go_step | go_upon)
          obtain ⟨W2, hW2⟩ : ∃ W, W = (w1.alloc (.cells (hc fun _ => 0) 33)).setRow w1.heap.size C1 := ⟨_, rfl⟩
          change Calls _ _ _ ((w1.alloc (.cells (hc fun _ => 0) 33)).setRow w1.heap.size C1) _
          rw [← hW2]
          have HX1 := Lib.hid (box_made hW2).1
          have HB2 := Lib.hid (show Below W0.heap.size W0 W2 from below_chain HB1.out (box_made hW2).2)
          obtain ⟨g4, hg4⟩ : ∃ g, g = w1.heap.size := ⟨_, rfl⟩
          rw [← hg4] at HX1 ⊢
          have hg4' : W0.heap.size ≤ g4 := by rw [hg4]; exact HB1.out.size
          clear hW2 hg4 HB1 HC1s HC1a HC1z
          refine (HC2.out W2 HB2.out).mono ?_
          rintro e w3 ⟨rfl, hb3⟩
          have HB3 := Lib.hid hb3
          clear hb3
          dsimp only
          repeat (first
            | refine wpList_store_row (by rfl) 33 (.tmp 5) (.tmp 30) (by rfl) w3.heap.size C2 (by rfl) (by rfl) 33 (hc fun _ => 0) (by exact heap_alloc_new w3 _) HC2s.out HC2z.out HC2a.out ?_
            | go_values | go_skip | go_guarded | go_step | go_upon)
          obtain ⟨W4, hW4⟩ : ∃ W, W = (w3.alloc (.cells (hc fun _ => 0) 33)).setRow w3.heap.size C2 := ⟨_, rfl⟩
          change Code.wp _ _ _ _ ((w3.alloc (.cells (hc fun _ => 0) 33)).setRow w3.heap.size C2)
          rw [← hW4]
          have HX2 := Lib.hid (box_made hW4).1
          have HB24 := Lib.hid (show Below W2.heap.size W2 W4 from below_chain HB3.out (box_made hW4).2)
          have HX1' := Lib.hid (show W4.heap[g4]? = some (.cells C1 33 (0, 0)) from (HB24.out.block _ (Array.getElem?_eq_some_iff.1 HX1.out).1).trans HX1.out)
          have HB4 := Lib.hid (show Below W0.heap.size W0 W4 from below_chain HB2.out HB24.out)
          obtain ⟨g5, hg5⟩ : ∃ g, g = w3.heap.size := ⟨_, rfl⟩
          rw [← hg5] at HX2 ⊢
          clear hW4 hg5 HB3 HC2s HC2a HC2z HX1 HB24 HB2
          have hs0 := HS0.out
          have HBW := Lib.hid (show Below w.heap.size w W4 from HB0.out.trans (HB4.out.mono (by omega)))
          have HOR := Lib.hid (show W4.heap[w.heap.size]? = some (.cells (hc fun _ => 0) 33 (0, 0)) from (HB4.out.block _ (by omega)).trans HO0.out)
          clear hs0
          obtain ⟨H1, hH1⟩ : ∃ H, H = treeF k (l.take p) := ⟨_, rfl⟩
          obtain ⟨H2, hH2⟩ : ∃ H, H = treeF k (l.drop p) := ⟨_, rfl⟩
          rw [← hH1] at HD1 HTW
          rw [← hH2] at HD2 HTW
          have hby1 : Byt (hl H1) := by rw [hH1]; exact hl_byt (treeF_lt k _ (fun h hh => HOK.out h (List.mem_of_mem_take hh)))
          have hby2 : Byt (hl H2) := by rw [hH2]; exact hl_byt (treeF_lt k _ (fun h hh => HOK.out h (List.mem_of_mem_drop hh)))
          have HBS1 := Lib.hid (show Bs W4 W4.heap.size (some ⟨g4, 0, none⟩) (hl H1) from Bs.box (by rw [← HD1.out]; exact HX1'.out) (Array.getElem?_eq_some_iff.1 HX1'.out).1)
          have HBS2 := Lib.hid (show Bs W4 W4.heap.size (some ⟨g5, 0, none⟩) (hl H2) from Bs.box (by rw [← HD2.out]; exact HX2.out) (Array.getElem?_eq_some_iff.1 HX2.out).1)
          have HL1 := Lib.hid (hl_len H1).symm
          have HL2 := Lib.hid (hl_len H2).symm
          obtain ⟨T, hT⟩ : ∃ T, T = [1] ++ hl H1 ++ hl H2 := ⟨_, rfl⟩
          have HTB := Lib.hid (show Byt T from by rw [hT]; exact (Byt.app (Byt.app (by intro x hx; simp at hx; omega) hby1) hby2))
          have HTL := Lib.hid (show T.length = 65 from by rw [hT]; simp [hl_len])
          obtain ⟨C3, hC3⟩ : ∃ C, C = hc (sumH T) := ⟨_, rfl⟩
          have HC3s := Lib.hid (show (Try.prog.info? 33).map (·.size) = some C3.size from by rw [hC3]; exact size_hc)
          have HC3a := Lib.hid (show C3.all (·.oneCell') = true from by rw [hC3]; exact hc_all _)
          have HC3z := Lib.hid (show (hc fun _ => 0).size = C3.size from by rw [hC3, hc_size, hc_size])
          have HFIN := Lib.hid (show hc (treeF (k + 1) l) = C3 from by rw [HTW.out, hC3, hT])
          have HTT := Lib.hid hT
          have HC3 := Lib.hid hC3
          clear hC3 hT hH1 hH2 hby1 hby2
          refine wp_region_held_drew (S := (fun w' => Hid (Below w.heap.size w w'))) (by kernel_rfl) ?_ (fun hHeld => ?_)
          · (first | exact Lib.hid (below_setRow HW7.out (Nat.le_refl _) C3) | exact HW7 | exact HW6 | exact HW5 | exact Lib.hid (HBW.out.drew.alloc HBW.out.size _) | exact Lib.hid HBW.out.drew | assumption)
          refine wpAnyH_take (i := 1) (oi := { dst := some 32, op := Op.slice 33 (Operand.tmp 4) none none none, type := 31, pos := "ref.go:162", after := #[], guard := none }) (v := ?_) rfl (by kernel_rfl) (by kernel_rfl) (by kernel_rfl) (fun _ _ _ h => h) (Or.inl ⟨by rfl, ?_⟩) (by assumption) ?_
          rotate_left 1
          · intro ws hSw; (try dsimp only at hSw); go_simp; all_goals with_reducible rfl
          simp only [Act.put, List.setIfInBounds_toArray, List.set_cons_zero, List.set_cons_succ]
          refine wpAnyH_take (i := 3) (oi := { dst := some 34, op := Op.slice 33 (Operand.tmp 5) none none none, type := 31, pos := "ref.go:162", after := #[], guard := none }) (v := ?_) rfl (by kernel_rfl) (by kernel_rfl) (by kernel_rfl) (fun _ _ _ h => h) (Or.inl ⟨by rfl, ?_⟩) (by assumption) ?_
          rotate_left 1
          · intro ws hSw; (try dsimp only at hSw); go_simp; all_goals with_reducible rfl
          simp only [Act.put, List.setIfInBounds_toArray, List.set_cons_zero, List.set_cons_succ]
          refine wpAnyH_ready (rs := [0]) (by kernel_rfl) (by simp) ?_
          refine AllReadyH.cons (o := { dst := some 31, op := Op.buildSlice 31 1 #[(0, Operand.const (Value.int IntKind.u8 1))], type := 31, pos := "ref.go:162", after := #[], guard := none }) rfl (fun K hK => ?_) AllReadyH.nil
          go_simp
          refine hK.out _ _ ?_ (fun hHeld => ?_)
          · (first | exact Lib.hid (below_setRow HW7.out (Nat.le_refl _) C3) | exact HW7 | exact HW6 | exact HW5 | exact Lib.hid (HBW.out.drew.alloc HBW.out.size _) | exact Lib.hid HBW.out.drew | assumption)
          clear hK K
          try simp only [Act.put, List.setIfInBounds_toArray, List.set_cons_zero, List.set_cons_succ]
          refine wpAnyH_ready (rs := [2]) (by kernel_rfl) (by simp) ?_
          refine AllReadyH.cons (o := { dst := some 33, op := Op.call { callee := Callee.builtin Builtin.append, args := #[Operand.tmp 31, Operand.tmp 32], argTypes := #[31, 31] }, type := 31, pos := "ref.go:162", after := #[{ on := 0, ground := Ground.data }, { on := 1, ground := Ground.data }], guard := none }) rfl (fun K hK => ?_) AllReadyH.nil
          (refine step_ob rfl (.tmp 31) (.tmp 32) rfl rfl (Ob.ofOne W4.drew (Nat.le_refl W4.drew.heap.size) 1) (some ⟨g4, 0, none⟩) 32 32 HL1.out (by rfl) (by rfl) (Bs.below HBS1.out ((Below.refl _ _).drew.alloc (Nat.le_refl _) _)) (by intro h; cases h) (by rw [← HL1.out]; simp) (by simp) ?_; intro v5 w5 hob5 hg5 hbl5; have HOB5 := Lib.hid hob5; have HB45 := Lib.hid (show Below W4.heap.size W4 w5 from (((Below.refl _ _).drew.alloc (Nat.le_refl _) _).trans hbl5)); have HW5 := Lib.hid (show Below w.heap.size w w5 from below_chain HBW.out HB45.out); clear hob5 hg5 hbl5)
          refine hK.out _ _ ?_ (fun hHeld => ?_)
          · (first | exact Lib.hid (below_setRow HW7.out (Nat.le_refl _) C3) | exact HW7 | exact HW6 | exact HW5 | exact Lib.hid (HBW.out.drew.alloc HBW.out.size _) | exact Lib.hid HBW.out.drew | assumption)
          clear hK K
          try simp only [Act.put, List.setIfInBounds_toArray, List.set_cons_zero, List.set_cons_succ]
          refine wpAnyH_ready (rs := [4]) (by kernel_rfl) (by simp) ?_
          refine AllReadyH.cons (o := { dst := some 35, op := Op.call { callee := Callee.builtin Builtin.append, args := #[Operand.tmp 33, Operand.tmp 34], argTypes := #[31, 31] }, type := 31, pos := "ref.go:162", after := #[{ on := 2, ground := Ground.data }, { on := 3, ground := Ground.data }, { on := 2, ground := Ground.chain }], guard := none }) rfl (fun K hK => ?_) AllReadyH.nil
          (refine step_ob rfl (.tmp 33) (.tmp 34) rfl rfl HOB5.out (some ⟨g5, 0, none⟩) 32 32 HL2.out (by rfl) (by rfl) (Bs.below HBS2.out HB45.out) (by intro h; cases h) (by rw [← HL2.out]; simp [hl_len]) (HB45.out.size) ?_; intro v6 w6 hob6 hg6 hbl6; rw [← HTT.out] at hob6; have HB46 := Lib.hid (HB45.out.trans hbl6); have HW6 := Lib.hid (show Below w.heap.size w w6 from below_chain HBW.out HB46.out); obtain ⟨A6, c6, rfl, hbs6, -, -, hn6⟩ := hob6.rd; have HBS6 := Lib.hid hbs6; have HN6 := Lib.hid hn6; clear hob6 hg6 hbl6 hbs6 hn6)
          refine hK.out _ _ ?_ (fun hHeld => ?_)
          · (first | exact Lib.hid (below_setRow HW7.out (Nat.le_refl _) C3) | exact HW7 | exact HW6 | exact HW5 | exact Lib.hid (HBW.out.drew.alloc HBW.out.size _) | exact Lib.hid HBW.out.drew | assumption)
          clear hK K
          try simp only [Act.put, List.setIfInBounds_toArray, List.set_cons_zero, List.set_cons_succ]
          refine wpAnyH_ready (rs := [5]) (by kernel_rfl) (by simp) ?_
          refine AllReadyH.cons (o := { dst := some 36, op := Op.call { callee := Callee.value (Operand.func 34), args := #[Operand.tmp 35], argTypes := #[31] }, type := 33, pos := "ref.go:162", after := #[{ on := 4, ground := Ground.data }, { on := 4, ground := Ground.chain }], guard := none }) rfl (fun K hK => ?_) AllReadyH.nil
          go_simp
          (go_at_call 34; refine (rsum_any A6 _ c6 T _ HBS6.out rfl HTB.out (by rw [HTL.out]; omega) HN6.out).mono ?_; rintro e w7 ⟨rfl, hb7⟩; rw [← HC3.out]; have HW7 := Lib.hid (show Below w.heap.size w w7 from below_chain HW6.out hb7); have HOR7 := Lib.hid (show w7.heap[w.heap.size]? = some (.cells (hc fun _ => 0) 33 (0, 0)) from ((below_chain HB46.out hb7).block _ (Array.getElem?_eq_some_iff.1 HOR.out).1).trans HOR.out); clear hb7)
          refine hK.out _ _ ?_ (fun hHeld => ?_)
          · (first | exact Lib.hid (below_setRow HW7.out (Nat.le_refl _) C3) | exact HW7 | exact HW6 | exact HW5 | exact Lib.hid (HBW.out.drew.alloc HBW.out.size _) | exact Lib.hid HBW.out.drew | assumption)
          clear hK K
          refine wpAnyH_ready (rs := [6]) (by kernel_rfl) (by simp) ?_
          refine AllReadyH.cons (o := { dst := none, op := Op.store 33 (Operand.tmp 2) (Operand.tmp 36), type := 0, pos := "ref.go:162", after := #[{ on := 5, ground := Ground.data }, { on := 5, ground := Ground.chain }, { on := 0, ground := Ground.phase }, { on := 1, ground := Ground.phase }, { on := 2, ground := Ground.phase }, { on := 3, ground := Ground.phase }, { on := 4, ground := Ground.phase }, { on := 5, ground := Ground.phase }], guard := none }) rfl (fun K hK => ?_) AllReadyH.nil
          rw [if_pos (by rfl)]
          (refine wp_store_row 33 (.tmp 2) (.tmp 36) (by rfl) w.heap.size C3 (by rfl) (by rfl) 33 (hc fun _ => 0) HOR7.out HC3s.out HC3z.out HC3a.out ?_)
          refine hK.out _ _ ?_ (fun hHeld => ?_)
          · (first | exact Lib.hid (below_setRow HW7.out (Nat.le_refl _) C3) | exact HW7 | exact HW6 | exact HW5 | exact Lib.hid (HBW.out.drew.alloc HBW.out.size _) | exact Lib.hid HBW.out.drew | assumption)
          clear hK K
          try simp only [Act.put]
          refine wpAnyH_done (by kernel_rfl) ?_ _
          go_wp2_with fail
          exact bodyPost_ret (v := .agg C3) (results_cell_row (by rfl) _ _ w.heap.size 33 _ (0, 0) _ (by rfl) (setRow_heap _ _ _ _ _ _ HOR7.out) Try.underlying33 (by rfl) HC3s.out) rfl ⟨by rw [HFIN.out], below_setRow HW7.out (Nat.le_refl _) C3⟩
end Go.Proofs.Ytmpbimechgelfaa

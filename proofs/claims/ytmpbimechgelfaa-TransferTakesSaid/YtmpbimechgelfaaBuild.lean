/- manifest.Build. -/
import Derived.Test.YtmpbimechgelfaaMk
namespace Go.Proofs.Ytmpbimechgelfaa
open Go Go.RowKit

/-- The digests of an image's chunks. -/
def bldHs (l : List Nat) (k n : Nat) : List (Nat → Nat) := (List.range n).map fun i => digH i (chunkL l k i)
theorem bldHs_len (l : List Nat) (k n : Nat) : (bldHs l k n).length = n := by simp [bldHs]
theorem bldHs_succ (l : List Nat) (k n : Nat) : bldHs l k (n + 1) = bldHs l k n ++ [digH n (chunkL l k n)] := by
  unfold bldHs; rw [List.range_succ, List.map_append]; rfl
/-- What the loop keeps. -/
def BInv (l : List Nat) (k : Nat) (g7 : Nat) (W5 : World) (j : Nat) (w : World) : Prop :=
  ∃ Av cv, MB w g7 (l.length : Int) (k : Int) (.slice Av j cv) (sumH l) ∧ Hw w (g7 + 1) (.slice Av j cv) (bldHs l k j) ∧ Below g7 W5 w
/-- How Build ends. -/
def BuildEnd (l : List Nat) (kI : Int) (w : World) (e : Ending) (w' : World) : Prop :=
  Below w.heap.size w w' ∧ ((chN (l.length : Int) kI = 0 ∧ e = .returned (.tuple #[.agg mc0, .int .i64 1])) ∨
    (0 < chN (l.length : Int) kI ∧ ∃ A' c', e = .returned (.tuple #[.agg (mcv (l.length : Int) kI (.slice A' (chN (l.length : Int) kI) c') (sumH l)), .int .i64 0]) ∧
      Hs w' w'.heap.size A' (bldHs l kI.toNat (chN (l.length : Int) kI)) ∧ chN (l.length : Int) kI ≤ c' ∧ c' ≤ maxLen))
set_option maxRecDepth 100000 in
set_option maxHeartbeats 8000000 in
theorem build_any (A : Option Addr) (c : Nat) (l : List Nat) (kI : Int) (w : World) (h : Bs w w.heap.size A l) (hc : l.length ≤ c) (hby : Byt l) :
    Calls Try.prog 20 #[.slice A l.length c, .int .i64 kI] w (BuildEnd l kI w) := by
  obtain ⟨m, hm⟩ : ∃ m, m = l.length := ⟨_, rfl⟩
  obtain ⟨n, hn⟩ : ∃ n, n = chN (m : Int) kI := ⟨_, rfl⟩
  have HCK := Lib.hid (chunks_any (m : Int) kI)
  rw [← hn] at HCK
  rw [← hm]
  obtain ⟨W2, hW2⟩ : ∃ W, W = ((w.alloc (.cells #[.slice A m c] 31)).alloc (.cells #[.int .i64 kI] 3)).alloc (.cells mc0 35) := ⟨_, rfl⟩
  have hB2 : Below w.heap.size w W2 := by rw [hW2]; exact (by repeat (first | exact Below.refl _ _ | assumption | refine below_drewN ?_ _ | refine Below.drew ?_ | refine Below.alloc ?_ (by simp; try omega) _ | refine Below.setCell ?_ (by simp; try omega) _))
  have hs2 : W2.heap.size = w.heap.size + 3 := by rw [hW2]; simp
  have hh2 : W2.heap[w.heap.size]? = some (.cells #[.slice A m c] 31 (0, 0)) := by
    rw [hW2, Below.heap_alloc _ _ _ (by simp; omega), Below.heap_alloc _ _ _ (by simp)]; exact heap_alloc_new w _
  have hh3 : W2.heap[w.heap.size + 1]? = some (.cells #[.int .i64 kI] 3 (0, 0)) := by
    rw [hW2, Below.heap_alloc _ _ _ (by simp)]
    have := heap_alloc_new (w.alloc (.cells #[.slice A m c] 31)) (.cells #[.int .i64 kI] 3)
    simpa using this
  have hh4 : W2.heap[w.heap.size + 1 + 1]? = some (.cells mc0 35 (0, 0)) := by
    rw [hW2]
    have := heap_alloc_new ((w.alloc (.cells #[.slice A m c] 31)).alloc (.cells #[.int .i64 kI] 3)) (.cells mc0 35)
    simpa using this
  have HW2 := Lib.hid hW2
  obtain ⟨g4, hg4⟩ : ∃ g, g = w.heap.size + 1 + 1 := ⟨_, rfl⟩
  obtain ⟨g3, hg3⟩ : ∃ g, g = w.heap.size + 1 := ⟨_, rfl⟩
  obtain ⟨g2, hg2⟩ : ∃ g, g = w.heap.size := ⟨_, rfl⟩
  rw [← hg4] at hh4
  rw [← hg3] at hh3
  rw [← hg2] at hh2
  have HN := Lib.hid hn
  have HM := Lib.hid hm
  have HBS := Lib.hid (h.next hB2)
  have HBY := Lib.hid hby
  have HB2 := Lib.hid hB2
  have HS2 := Lib.hid hs2
  have HG4 := Lib.hid hg4
  have HG3 := Lib.hid hg3
  have HG2 := Lib.hid hg2
  have HH2 := Lib.hid hh2
  have HH3 := Lib.hid hh3
  have HH4 := Lib.hid hh4
  have HMC : Hid ((Try.prog.info? 35).map (·.size) = some mc0.size) := Lib.hid size_mcv
  have k2 : W2.cell? ⟨g2, 0, none⟩ = some (.slice A m c) := cell_of_one hh2
  have k3 : W2.cell? ⟨g3, 0, none⟩ = some (.int .i64 kI) := cell_of_one hh3
  have HC := Lib.hid hc
  clear hW2 hB2 hs2 hh2 hh3 hh4 hg4 hg3 hg2 hn hm h hby hc
  go_enter Try.func20, Try.ntmps20
  go_upto_region 1 with (fail)
  change Code.wp _ _ _ _ (((w.alloc (.cells #[.slice A m c] 31)).alloc (.cells #[.int .i64 kI] 3)).alloc (.cells mc0 35))
  rw [← HW2.out, ← HG4.out, ← HG3.out, ← HG2.out]
  clear HW2
  go_wp2_with fail
  refine (HCK.out W2).mono ?_
  rintro e w' ⟨rfl, hw⟩
  have hw2 := hw.symm
  clear hw
  subst hw2
  by_cases hn0 : n = 0
  · have HE := Lib.hid (show chN (l.length : Int) kI = 0 from by rw [← HM.out, ← HN.out]; exact hn0)
    subst hn0
    go_upto_region 3 with (fail)
    refine wp_region_list ?_
    refine wpl_build_0 (by rfl) (by rfl) ?_
    simp only [Act.put, List.setIfInBounds_toArray, List.set_cons_zero, List.set_cons_succ]
    repeat (first
      | refine wpList_store_row (by rfl) 35 (.tmp 4) (.tmp 16) (by rfl) g4 mc0 (by rfl) (by rfl) 35 mc0 HH4.out HMC.out rfl (by exact mcv_all 0 0 none 0 0 (fun _ => 0)) ?_
      | go_values | go_skip | go_guarded | go_step | go_upon)
    go_wp2_with fail
    exact bodyPost_ret (v := .tuple #[.agg mc0, .int .i64 1]) (results_mt (fn := Try.f20) (p := 4) (u := 5) (by rfl) _ _ g4 mc0 (by rfl) (setRow_heap _ _ _ _ _ _ HH4.out) HMC.out) rfl ⟨below_setRow HB2.out (by rw [HG4.out]; omega) mc0, .inl ⟨HE.out, rfl⟩⟩
  · have hchk : chkB (m : Int) kI n = true := by unfold chkB; rw [← HN.out]; simp [hn0]
    obtain ⟨k, rfl⟩ : ∃ k : Nat, kI = (k : Int) := ⟨kI.toNat, by have := (chk_facts hchk).2.2.1; omega⟩
    have HCHK := Lib.hid hchk
    clear hchk
    have hd0 : ((n : Int) == 0) = false := by simp; omega
    have hnp : 0 < n := by omega
    have HNP := Lib.hid hnp
    obtain ⟨M, hMM⟩ : ∃ M, M = mcv (m : Int) (k : Int) (.slice none 0 0) (sumH l) := ⟨_, rfl⟩
    obtain ⟨C, hCC⟩ : ∃ C, C = hc (sumH l) := ⟨_, rfl⟩
    have HMs : Hid ((Try.prog.info? 35).map (·.size) = some M.size) := Lib.hid (by rw [hMM]; exact size_mcv)
    have HMz : Hid (mc0.size = M.size) := Lib.hid (by rw [hMM, mcv_size, mc0_size])
    have HMa : Hid (M.all (·.oneCell') = true) := Lib.hid (by rw [hMM]; exact mcv_all _ _ none 0 0 _)
    have HMM := Lib.hid hMM
    have HCC := Lib.hid hCC
    have HSS := Lib.hid (fun (W : World) (hb : Below W2.heap.size W2 W) => show (W.cell? ⟨g2, 0, none⟩ = some (.slice A m c) ∧ W.cell? ⟨g3, 0, none⟩ = some (.int .i64 (k : Int))) ∧ Hid (Below W2.heap.size W2 W) from
      ⟨⟨(hb.cell (p := ⟨g2, 0, none⟩) (by rw [HS2.out, HG2.out]; exact Nat.lt_add_of_pos_right (by omega))).trans k2, (hb.cell (p := ⟨g3, 0, none⟩) (by rw [HS2.out, HG3.out]; exact Nat.add_lt_add_left (by omega) _)).trans k3⟩, Lib.hid hb⟩)
    have HPR := Lib.hid (fun (W : World) (hb : Below W2.heap.size W2 W) => show Prt (W.alloc (.cells #[.slice A m c] 31)) (some ⟨W.heap.size, 0, none⟩) [.slice A m c] [l] from by
      have h := Prt.one (t := 31) (c := c) (HBS.out.next hb) HBY.out
      rw [← HM.out] at h
      exact h)
    have HLL := Lib.hid (show [l].flatten.length ≤ 900000 from by
      have := (chk_facts (s := (m : Int)) (k := (k : Int)) (n := n) HCHK.out).2.1
      rw [HM.out] at this
      simp
      omega)
    have HCV := Lib.hid (show hc (sumH [l].flatten) = C from by rw [hCC]; simp)
    clear hMM hCC hn0 hnp HMC
    go_upto_region 4 with (fail)
    refine with_end (fun g21 g7 => ⟨#[.slice A m c, .int .i64 (k : Int), .pointer (some ⟨g2, 0, none⟩), .pointer (some ⟨g3, 0, none⟩), .pointer (some ⟨g4, 0, none⟩), .int .i64 0, .int .i64 (n : Int), .pointer (some ⟨g7, 0, none⟩), undef, undef, .slice A m c, .int .i64 (m : Int), .int .i64 (k : Int), .int .i64 (n : Int), .int .i64 (n : Int), .bool false, undef, .slice A m c, .int .i64 (m : Int), .int .i64 (k : Int), .slice A m c, .slice (some ⟨g21, 0, none⟩) 1 1, .agg C, .agg M, undef, undef, undef, undef, undef, undef, undef, undef, undef, undef, undef, undef, undef, undef, undef, undef, undef], []⟩)
      (fun _ g7 W => MB W g7 (m : Int) (k : Int) (.slice none 0 0) (sumH l) ∧ Below W2.heap.size W2 W ∧ W2.heap.size ≤ g7) (fun g21 g7 W5 hf => ?_) (fun HEND => ?_)
    · obtain ⟨hmb, hbf, hge⟩ := hf
      have HGE := Lib.hid hge
      have HBF := Lib.hid hbf
      have HMB5 := Lib.hid hmb
      clear hmb hbf hge HSS HPR HCV HLL HMs HMz HMa HMM HCC HCK
      dsimp only
      go_wp2_with fail
      go_loopw [26] (fun i wr => ∃ j : Nat, i = .int .i64 (j : Int) ∧ j ≤ n ∧ BInv l k g7 W5 j wr) (fun i _ => (n - intOf i).toNat)
      case atStart => exact ⟨0, rfl, Nat.zero_le _, none, 0, by rw [← HM.out]; exact HMB5.out, Hw.nil, Below.refl _ _⟩
      case round =>
        obtain ⟨j, rfl, hj, hinv⟩ := hrel
        have HINV := Lib.hid hinv
        clear hinv
        by_cases hlt : j < n
        · obtain ⟨Av, cv, hmb, hhw, hbl⟩ := HINV.out
          obtain ⟨D, hD⟩ : ∃ D, D = hc (digH j (chunkL l k j)) := ⟨_, rfl⟩
          have HDE := Lib.hid hD
          have HMB := Lib.hid hmb
          have HHW := Lib.hid hhw
          have HBL0 := Lib.hid (show Below g7 W5 wr ∧ g7 < wr.heap.size from ⟨hbl, hmb.lt⟩)
          have hg2 : g2 < W2.heap.size := by rw [HS2.out, HG2.out]; omega
          have hg3 : g3 < W2.heap.size := by rw [HS2.out, HG3.out]; omega
          have hn64 : n ≤ 64 := (chk_facts HCHK.out).2.2.2.2.2.1
          have hm64 : m ≤ 65536 := by have := (chk_facts HCHK.out).2.1; omega
          have HNX := Lib.hid (fun (W : World) (hb : Below g7 W5 W) => show Calls Try.prog 45 #[.int .i64 (j : Int), .pointer (some ⟨g2, 0, none⟩), .pointer (some ⟨g3, 0, none⟩)] W (NextEnd l k j W) from by
            have hb2 := HBF.out.trans (hb.mono HGE.out)
            exact next_any A c l k j n g2 g3 W ((hb2.cell (p := ⟨g2, 0, none⟩) hg2).trans (by rw [← HM.out]; exact k2)) ((hb2.cell (p := ⟨g3, 0, none⟩) hg3).trans k3) (HBS.out.next hb2) HC.out (by rw [← HM.out]; exact HCHK.out) hlt)
          have HCB := Lib.hid (show Byt (chunkL l k j) from cutL_byt HBY.out _ _)
          have HCL := Lib.hid (show (chunkL l k j).length ≤ 800000 from by
            unfold chunkL cutL
            rw [List.length_take, List.length_drop, ← HM.out]
            omega)
          clear hD hmb hhw hbl hg2 hg3 hm64 HINV
          go_upto_region 9 with (fail)
          refine wp_region_held_drew (S := fun _ => True) (by kernel_rfl) (trivial) (fun hHeld => ?_)
          refine wpAnyH_take (i := 0) (oi := { dst := some 29, op := Op.fieldAddr 35 (Operand.tmp 7) 2, type := 0, pos := "manifest.go:50", after := #[], guard := none }) (v := ?_) rfl (by kernel_rfl) (by kernel_rfl) (by kernel_rfl) (fun _ _ _ h => h) (Or.inl ⟨by rfl, ?_⟩) (by assumption) ?_
          rotate_left 1
          · intro ws hSw; (try dsimp only at hSw); go_simp; all_goals with_reducible rfl
          simp only [Act.put, List.setIfInBounds_toArray, List.set_cons_zero, List.set_cons_succ]
          refine wpAnyH_take (i := 2) (oi := { dst := some 31, op := Op.move (Operand.tmp 9), type := 3, pos := "manifest.go:50", after := #[], guard := none }) (v := ?_) rfl (by kernel_rfl) (by kernel_rfl) (by kernel_rfl) (fun _ _ _ h => h) (Or.inl ⟨by rfl, ?_⟩) (by assumption) ?_
          rotate_left 1
          · intro ws hSw; (try dsimp only at hSw); go_simp; all_goals with_reducible rfl
          simp only [Act.put, List.setIfInBounds_toArray, List.set_cons_zero, List.set_cons_succ]
          refine wpAnyH_take (i := 3) (oi := { dst := some 32, op := Op.move (Operand.tmp 8), type := 70, pos := "manifest.go:50", after := #[], guard := none }) (v := ?_) rfl (by kernel_rfl) (by kernel_rfl) (by kernel_rfl) (fun _ _ _ h => h) (Or.inl ⟨by rfl, ?_⟩) (by assumption) ?_
          rotate_left 1
          · intro ws hSw; (try dsimp only at hSw); go_simp; all_goals with_reducible rfl
          simp only [Act.put, List.setIfInBounds_toArray, List.set_cons_zero, List.set_cons_succ]
          refine wpAnyH_take (i := 4) (oi := { dst := some 33, op := Op.move (Operand.tmp 9), type := 3, pos := "manifest.go:50", after := #[], guard := none }) (v := ?_) rfl (by kernel_rfl) (by kernel_rfl) (by kernel_rfl) (fun _ _ _ h => h) (Or.inl ⟨by rfl, ?_⟩) (by assumption) ?_
          rotate_left 1
          · intro ws hSw; (try dsimp only at hSw); go_simp; all_goals with_reducible rfl
          simp only [Act.put, List.setIfInBounds_toArray, List.set_cons_zero, List.set_cons_succ]
          clear hHeld
          obtain ⟨Za, hWa⟩ : ∃ W, W = wr.drew := ⟨_, rfl⟩
          have HMB := Lib.hid (show _ from show MB Za g7 (m : Int) (k : Int) (.slice Av j cv) (sumH l) from by rw [hWa, HM.out]; exact HMB.out.drew)
          have HHW := Lib.hid (show _ from show Hw Za (g7 + 1) (.slice Av j cv) (bldHs l k j) from by rw [hWa]; exact HHW.out)
          have HBL := Lib.hid (show _ from show Below g7 W5 Za ∧ g7 < Za.heap.size from by rw [hWa]; exact ⟨HBL0.out.1.drew, HBL0.out.2⟩)
          rw [← hWa]
          clear hWa
          refine wpAnyH_ready (rs := [1, 5]) (by kernel_rfl) (by simp) ?_
          refine AllReadyH.cons (o := { dst := some 30, op := Op.load 32 (Operand.tmp 29), type := 32, pos := "manifest.go:50", after := #[{ on := 0, ground := Ground.data }], guard := none }) rfl (fun K hK => ?_) ?_
          · have ck := HMB.out.c2
            go_simp
            refine hK.out _ _ ?_ (fun hHeld => ?_)
            · exact trivial
            clear hHeld hK K
            try simp only [Act.put, List.setIfInBounds_toArray, List.set_cons_zero, List.set_cons_succ]
            clear ck
            refine wpAnyH_ready (rs := [5]) (by kernel_rfl) (by simp) ?_
            refine AllReadyH.cons (o := { dst := some 34, op := Op.call { callee := Callee.value (Operand.tmp 32), args := #[Operand.tmp 33], argTypes := #[3] }, type := 31, pos := "manifest.go:50", after := #[{ on := 3, ground := Ground.data }, { on := 4, ground := Ground.data }], guard := none }) rfl (fun K hK => ?_) AllReadyH.nil
            go_simp
            (with_reducible refine (HNX.out Za HBL.out.1).mono ?_)
            rintro e Z2 ⟨A5, c5, rfl, hbs, hb⟩
            refine hK.out _ _ ?_ (fun hHeld => ?_)
            · exact trivial
            clear hHeld hK K
            try simp only [Act.put, List.setIfInBounds_toArray, List.set_cons_zero, List.set_cons_succ]
            replace HMB := Lib.hid (MB.next HMB.out hb)
            replace HHW := Lib.hid (Hw.next HHW.out hb)
            replace HBL := Lib.hid (below_both HBL.out hb)
            have HCH := Lib.hid (Bs.next hbs hb)
            clear hbs
            clear hb
            refine wpAnyH_ready (rs := [6]) (by kernel_rfl) (by simp) ?_
            refine AllReadyH.cons (o := { dst := some 35, op := Op.call { callee := Callee.value (Operand.func 46), args := #[Operand.tmp 31, Operand.tmp 34], argTypes := #[3, 31] }, type := 33, pos := "manifest.go:50", after := #[{ on := 2, ground := Ground.data }, { on := 5, ground := Ground.data }, { on := 5, ground := Ground.chain }], guard := none }) rfl (fun K hK => ?_) AllReadyH.nil
            go_simp
            (with_reducible refine (digest_any j A5 c5 (chunkL l k j) Z2 HCH.out HCB.out (by omega) HCL.out).mono ?_)
            rintro e Z3 ⟨rfl, hb⟩
            rw [← HDE.out]
            refine hK.out _ _ ?_ (fun hHeld => ?_)
            · exact trivial
            clear hHeld hK K
            try simp only [Act.put, List.setIfInBounds_toArray, List.set_cons_zero, List.set_cons_succ]
            replace HMB := Lib.hid (MB.next HMB.out hb)
            replace HHW := Lib.hid (Hw.next HHW.out hb)
            replace HBL := Lib.hid (below_both HBL.out hb)
            replace HCH := Lib.hid (Bs.next HCH.out hb)
            clear hb
            refine wpAnyH_ready (rs := [7]) (by kernel_rfl) (by simp) ?_
            refine AllReadyH.cons (o := { dst := some 36, op := Op.buildSlice 32 1 #[(0, Operand.tmp 35)], type := 32, pos := "manifest.go:50", after := #[{ on := 6, ground := Ground.data }], guard := none }) rfl (fun K hK => ?_) AllReadyH.nil
            rw [if_pos (by rfl)]
            refine wp_bs_hash (.tmp 35) (by rfl) (digH j (chunkL l k j)) D HDE.out (by rfl) ?_
            have hal : Below Z3.heap.size Z3 (Z3.alloc (.cells D 33)) := (Below.refl _ _).alloc (Nat.le_refl _) _
            refine hK.out _ _ ?_ (fun hHeld => ?_)
            · exact trivial
            clear hHeld hK K
            try simp only [Act.put, List.setIfInBounds_toArray, List.set_cons_zero, List.set_cons_succ]
            obtain ⟨Z4, hW⟩ : ∃ W', W' = Z3.alloc (.cells D 33) := ⟨_, rfl⟩
            change wpAnyH _ _ _ _ _ _ _ _ (Z3.alloc (.cells D 33))
            rw [← hW]
            have hb : Below Z3.heap.size Z3 Z4 := by rw [hW]; exact hal
            clear hal
            have HNB := Lib.hid (show Z4.heap[Z3.heap.size]? = some (.cells D 33 (0, 0)) from by rw [hW]; exact heap_alloc_new _ _)
            replace HMB := Lib.hid (MB.next HMB.out hb)
            replace HHW := Lib.hid (Hw.next HHW.out hb)
            replace HBL := Lib.hid (below_both HBL.out hb)
            replace HCH := Lib.hid (Bs.next HCH.out hb)
            obtain ⟨gn, hgn⟩ : ∃ g, g = Z3.heap.size := ⟨_, rfl⟩
            rw [← hgn] at HNB ⊢
            clear hW hb hgn
            refine wpAnyH_ready (rs := [8]) (by kernel_rfl) (by simp) ?_
            refine AllReadyH.cons (o := { dst := some 37, op := Op.call { callee := Callee.builtin Builtin.append, args := #[Operand.tmp 30, Operand.tmp 36], argTypes := #[32, 32] }, type := 32, pos := "manifest.go:50", after := #[{ on := 1, ground := Ground.data }, { on := 7, ground := Ground.data }, { on := 6, ground := Ground.chain }], guard := none }) rfl (fun K hK => ?_) AllReadyH.nil
            rw [HDE.out] at HNB
            refine step_hw (by rfl) (.tmp 30) (.tmp 36) (by rfl) (by rfl) HHW.out gn 1 (digH j (chunkL l k j)) HNB.out (by rfl) (by rfl) (by rw [bldHs_len]; omega) (by exact HBL.out.2) ?_
            intro v8 Z5 hw8 hb8
            rw [← bldHs_succ] at hw8
            obtain ⟨A8, c8, rfl, -, -, -, -⟩ := hw8.sl
            rw [bldHs_len] at hw8 ⊢
            refine hK.out _ _ ?_ (fun hHeld => ?_)
            · exact trivial
            clear hHeld hK K
            try simp only [Act.put, List.setIfInBounds_toArray, List.set_cons_zero, List.set_cons_succ]
            replace HMB := Lib.hid (MB.nextB HMB.out (Nat.lt_succ_self _) hb8)
            replace HBL := Lib.hid (show Below g7 W5 Z5 ∧ g7 < Z5.heap.size from ⟨HBL.out.1.trans (hb8.mono (Nat.le_succ _)), Nat.lt_of_lt_of_le HBL.out.2 hb8.size⟩)
            have HH8 := Lib.hid hw8
            clear hw8 hb8 HHW HNB HCH
            have hHeld : (fun _ => True) Z5 := trivial
            refine wpAnyH_take (i := 9) (oi := { dst := some 38, op := Op.fieldAddr 35 (Operand.tmp 7) 2, type := 0, pos := "manifest.go:50", after := #[{ on := 0, ground := Ground.phase }, { on := 1, ground := Ground.phase }, { on := 2, ground := Ground.phase }, { on := 3, ground := Ground.phase }, { on := 4, ground := Ground.phase }, { on := 5, ground := Ground.phase }, { on := 6, ground := Ground.phase }, { on := 7, ground := Ground.phase }, { on := 8, ground := Ground.phase }], guard := none }) (v := ?_) rfl (by kernel_rfl) (by kernel_rfl) (by kernel_rfl) (fun _ _ _ h => h) (Or.inl ⟨by rfl, ?_⟩) (by assumption) ?_
            rotate_left 1
            · intro ws hSw; (try dsimp only at hSw); go_simp; all_goals with_reducible rfl
            simp only [Act.put, List.setIfInBounds_toArray, List.set_cons_zero, List.set_cons_succ]
            clear hHeld
            refine wpAnyH_ready (rs := [10]) (by kernel_rfl) (by simp) ?_
            refine AllReadyH.cons (o := { dst := none, op := Op.store 32 (Operand.tmp 38) (Operand.tmp 37), type := 0, pos := "manifest.go:50", after := #[{ on := 9, ground := Ground.data }, { on := 8, ground := Ground.data }, { on := 8, ground := Ground.chain }, { on := 0, ground := Ground.phase }, { on := 1, ground := Ground.phase }, { on := 2, ground := Ground.phase }, { on := 3, ground := Ground.phase }, { on := 4, ground := Ground.phase }, { on := 5, ground := Ground.phase }, { on := 6, ground := Ground.phase }, { on := 7, ground := Ground.phase }, { on := 8, ground := Ground.phase }], guard := none }) rfl (fun K hK => ?_) AllReadyH.nil
            have ck := HMB.out.c2
            have cf := HMB.out.free 2
            go_simp
            refine hK.out _ _ ?_ (fun hHeld => ?_)
            · exact trivial
            clear hHeld hK K
            try simp only [Act.put]
            obtain ⟨Z6, hW⟩ : ∃ W', W' = Z5.setCell ⟨g7, 2, none⟩ (.slice A8 (j + 1) c8) := ⟨_, rfl⟩
            change wpAnyH _ _ _ _ _ _ _ _ (Z5.setCell ⟨g7, 2, none⟩ (.slice A8 (j + 1) c8))
            rw [← hW]
            have HXI := Lib.hid (show BInv l k g7 W5 (j + 1) Z6 from by rw [hW]; exact ⟨A8, c8, by rw [← HM.out]; exact HMB.out.set2 _, HH8.out.farCell (Nat.lt_succ_self _) _, HBL.out.1.setCell (Nat.le_refl _) _⟩)
            clear hW ck cf
            refine wpAnyH_done (by kernel_rfl) ?_ _
            go_wp2_with fail
            go_roundw
            case rel => exact ⟨j + 1, by go_num, by omega, HXI.out⟩
            case measure => simp [intOf]; omega
          refine AllReadyH.cons (o := { dst := some 34, op := Op.call { callee := Callee.value (Operand.tmp 32), args := #[Operand.tmp 33], argTypes := #[3] }, type := 31, pos := "manifest.go:50", after := #[{ on := 3, ground := Ground.data }, { on := 4, ground := Ground.data }], guard := none }) rfl (fun K hK => ?_) AllReadyH.nil
          go_simp
          (with_reducible refine (HNX.out Za HBL.out.1).mono ?_)
          rintro e Z7 ⟨A5, c5, rfl, hbs, hb⟩
          refine hK.out _ _ ?_ (fun hHeld => ?_)
          · exact trivial
          clear hHeld hK K
          try simp only [Act.put, List.setIfInBounds_toArray, List.set_cons_zero, List.set_cons_succ]
          replace HMB := Lib.hid (MB.next HMB.out hb)
          replace HHW := Lib.hid (Hw.next HHW.out hb)
          replace HBL := Lib.hid (below_both HBL.out hb)
          have HCH := Lib.hid (Bs.next hbs hb)
          clear hbs
          clear hb
          refine wpAnyH_ready (rs := [1, 6]) (by kernel_rfl) (by simp) ?_
          refine AllReadyH.cons (o := { dst := some 30, op := Op.load 32 (Operand.tmp 29), type := 32, pos := "manifest.go:50", after := #[{ on := 0, ground := Ground.data }], guard := none }) rfl (fun K hK => ?_) ?_
          · have ck := HMB.out.c2
            go_simp
            refine hK.out _ _ ?_ (fun hHeld => ?_)
            · exact trivial
            clear hHeld hK K
            try simp only [Act.put, List.setIfInBounds_toArray, List.set_cons_zero, List.set_cons_succ]
            clear ck
            refine wpAnyH_ready (rs := [6]) (by kernel_rfl) (by simp) ?_
            refine AllReadyH.cons (o := { dst := some 35, op := Op.call { callee := Callee.value (Operand.func 46), args := #[Operand.tmp 31, Operand.tmp 34], argTypes := #[3, 31] }, type := 33, pos := "manifest.go:50", after := #[{ on := 2, ground := Ground.data }, { on := 5, ground := Ground.data }, { on := 5, ground := Ground.chain }], guard := none }) rfl (fun K hK => ?_) AllReadyH.nil
            go_simp
            (with_reducible refine (digest_any j A5 c5 (chunkL l k j) Z7 HCH.out HCB.out (by omega) HCL.out).mono ?_)
            rintro e Z9 ⟨rfl, hb⟩
            rw [← HDE.out]
            refine hK.out _ _ ?_ (fun hHeld => ?_)
            · exact trivial
            clear hHeld hK K
            try simp only [Act.put, List.setIfInBounds_toArray, List.set_cons_zero, List.set_cons_succ]
            replace HMB := Lib.hid (MB.next HMB.out hb)
            replace HHW := Lib.hid (Hw.next HHW.out hb)
            replace HBL := Lib.hid (below_both HBL.out hb)
            replace HCH := Lib.hid (Bs.next HCH.out hb)
            clear hb
            refine wpAnyH_ready (rs := [7]) (by kernel_rfl) (by simp) ?_
            refine AllReadyH.cons (o := { dst := some 36, op := Op.buildSlice 32 1 #[(0, Operand.tmp 35)], type := 32, pos := "manifest.go:50", after := #[{ on := 6, ground := Ground.data }], guard := none }) rfl (fun K hK => ?_) AllReadyH.nil
            rw [if_pos (by rfl)]
            refine wp_bs_hash (.tmp 35) (by rfl) (digH j (chunkL l k j)) D HDE.out (by rfl) ?_
            have hal : Below Z9.heap.size Z9 (Z9.alloc (.cells D 33)) := (Below.refl _ _).alloc (Nat.le_refl _) _
            refine hK.out _ _ ?_ (fun hHeld => ?_)
            · exact trivial
            clear hHeld hK K
            try simp only [Act.put, List.setIfInBounds_toArray, List.set_cons_zero, List.set_cons_succ]
            obtain ⟨Z10, hW⟩ : ∃ W', W' = Z9.alloc (.cells D 33) := ⟨_, rfl⟩
            change wpAnyH _ _ _ _ _ _ _ _ (Z9.alloc (.cells D 33))
            rw [← hW]
            have hb : Below Z9.heap.size Z9 Z10 := by rw [hW]; exact hal
            clear hal
            have HNB := Lib.hid (show Z10.heap[Z9.heap.size]? = some (.cells D 33 (0, 0)) from by rw [hW]; exact heap_alloc_new _ _)
            replace HMB := Lib.hid (MB.next HMB.out hb)
            replace HHW := Lib.hid (Hw.next HHW.out hb)
            replace HBL := Lib.hid (below_both HBL.out hb)
            replace HCH := Lib.hid (Bs.next HCH.out hb)
            obtain ⟨gn, hgn⟩ : ∃ g, g = Z9.heap.size := ⟨_, rfl⟩
            rw [← hgn] at HNB ⊢
            clear hW hb hgn
            refine wpAnyH_ready (rs := [8]) (by kernel_rfl) (by simp) ?_
            refine AllReadyH.cons (o := { dst := some 37, op := Op.call { callee := Callee.builtin Builtin.append, args := #[Operand.tmp 30, Operand.tmp 36], argTypes := #[32, 32] }, type := 32, pos := "manifest.go:50", after := #[{ on := 1, ground := Ground.data }, { on := 7, ground := Ground.data }, { on := 6, ground := Ground.chain }], guard := none }) rfl (fun K hK => ?_) AllReadyH.nil
            rw [HDE.out] at HNB
            refine step_hw (by rfl) (.tmp 30) (.tmp 36) (by rfl) (by rfl) HHW.out gn 1 (digH j (chunkL l k j)) HNB.out (by rfl) (by rfl) (by rw [bldHs_len]; omega) (by exact HBL.out.2) ?_
            intro v8 Z11 hw8 hb8
            rw [← bldHs_succ] at hw8
            obtain ⟨A8, c8, rfl, -, -, -, -⟩ := hw8.sl
            rw [bldHs_len] at hw8 ⊢
            refine hK.out _ _ ?_ (fun hHeld => ?_)
            · exact trivial
            clear hHeld hK K
            try simp only [Act.put, List.setIfInBounds_toArray, List.set_cons_zero, List.set_cons_succ]
            replace HMB := Lib.hid (MB.nextB HMB.out (Nat.lt_succ_self _) hb8)
            replace HBL := Lib.hid (show Below g7 W5 Z11 ∧ g7 < Z11.heap.size from ⟨HBL.out.1.trans (hb8.mono (Nat.le_succ _)), Nat.lt_of_lt_of_le HBL.out.2 hb8.size⟩)
            have HH8 := Lib.hid hw8
            clear hw8 hb8 HHW HNB HCH
            have hHeld : (fun _ => True) Z11 := trivial
            refine wpAnyH_take (i := 9) (oi := { dst := some 38, op := Op.fieldAddr 35 (Operand.tmp 7) 2, type := 0, pos := "manifest.go:50", after := #[{ on := 0, ground := Ground.phase }, { on := 1, ground := Ground.phase }, { on := 2, ground := Ground.phase }, { on := 3, ground := Ground.phase }, { on := 4, ground := Ground.phase }, { on := 5, ground := Ground.phase }, { on := 6, ground := Ground.phase }, { on := 7, ground := Ground.phase }, { on := 8, ground := Ground.phase }], guard := none }) (v := ?_) rfl (by kernel_rfl) (by kernel_rfl) (by kernel_rfl) (fun _ _ _ h => h) (Or.inl ⟨by rfl, ?_⟩) (by assumption) ?_
            rotate_left 1
            · intro ws hSw; (try dsimp only at hSw); go_simp; all_goals with_reducible rfl
            simp only [Act.put, List.setIfInBounds_toArray, List.set_cons_zero, List.set_cons_succ]
            clear hHeld
            refine wpAnyH_ready (rs := [10]) (by kernel_rfl) (by simp) ?_
            refine AllReadyH.cons (o := { dst := none, op := Op.store 32 (Operand.tmp 38) (Operand.tmp 37), type := 0, pos := "manifest.go:50", after := #[{ on := 9, ground := Ground.data }, { on := 8, ground := Ground.data }, { on := 8, ground := Ground.chain }, { on := 0, ground := Ground.phase }, { on := 1, ground := Ground.phase }, { on := 2, ground := Ground.phase }, { on := 3, ground := Ground.phase }, { on := 4, ground := Ground.phase }, { on := 5, ground := Ground.phase }, { on := 6, ground := Ground.phase }, { on := 7, ground := Ground.phase }, { on := 8, ground := Ground.phase }], guard := none }) rfl (fun K hK => ?_) AllReadyH.nil
            have ck := HMB.out.c2
            have cf := HMB.out.free 2
            go_simp
            refine hK.out _ _ ?_ (fun hHeld => ?_)
            · exact trivial
            clear hHeld hK K
            try simp only [Act.put]
            obtain ⟨Z12, hW⟩ : ∃ W', W' = Z11.setCell ⟨g7, 2, none⟩ (.slice A8 (j + 1) c8) := ⟨_, rfl⟩
            change wpAnyH _ _ _ _ _ _ _ _ (Z11.setCell ⟨g7, 2, none⟩ (.slice A8 (j + 1) c8))
            rw [← hW]
            have HXI := Lib.hid (show BInv l k g7 W5 (j + 1) Z12 from by rw [hW]; exact ⟨A8, c8, by rw [← HM.out]; exact HMB.out.set2 _, HH8.out.farCell (Nat.lt_succ_self _) _, HBL.out.1.setCell (Nat.le_refl _) _⟩)
            clear hW ck cf
            refine wpAnyH_done (by kernel_rfl) ?_ _
            go_wp2_with fail
            go_roundw
            case rel => exact ⟨j + 1, by go_num, by omega, HXI.out⟩
            case measure => simp [intOf]; omega
          refine AllReadyH.cons (o := { dst := some 35, op := Op.call { callee := Callee.value (Operand.func 46), args := #[Operand.tmp 31, Operand.tmp 34], argTypes := #[3, 31] }, type := 33, pos := "manifest.go:50", after := #[{ on := 2, ground := Ground.data }, { on := 5, ground := Ground.data }, { on := 5, ground := Ground.chain }], guard := none }) rfl (fun K hK => ?_) AllReadyH.nil
          go_simp
          (with_reducible refine (digest_any j A5 c5 (chunkL l k j) Z7 HCH.out HCB.out (by omega) HCL.out).mono ?_)
          rintro e Z13 ⟨rfl, hb⟩
          rw [← HDE.out]
          refine hK.out _ _ ?_ (fun hHeld => ?_)
          · exact trivial
          clear hHeld hK K
          try simp only [Act.put, List.setIfInBounds_toArray, List.set_cons_zero, List.set_cons_succ]
          replace HMB := Lib.hid (MB.next HMB.out hb)
          replace HHW := Lib.hid (Hw.next HHW.out hb)
          replace HBL := Lib.hid (below_both HBL.out hb)
          replace HCH := Lib.hid (Bs.next HCH.out hb)
          clear hb
          refine wpAnyH_ready (rs := [1, 7]) (by kernel_rfl) (by simp) ?_
          refine AllReadyH.cons (o := { dst := some 30, op := Op.load 32 (Operand.tmp 29), type := 32, pos := "manifest.go:50", after := #[{ on := 0, ground := Ground.data }], guard := none }) rfl (fun K hK => ?_) ?_
          · have ck := HMB.out.c2
            go_simp
            refine hK.out _ _ ?_ (fun hHeld => ?_)
            · exact trivial
            clear hHeld hK K
            try simp only [Act.put, List.setIfInBounds_toArray, List.set_cons_zero, List.set_cons_succ]
            clear ck
            refine wpAnyH_ready (rs := [7]) (by kernel_rfl) (by simp) ?_
            refine AllReadyH.cons (o := { dst := some 36, op := Op.buildSlice 32 1 #[(0, Operand.tmp 35)], type := 32, pos := "manifest.go:50", after := #[{ on := 6, ground := Ground.data }], guard := none }) rfl (fun K hK => ?_) AllReadyH.nil
            rw [if_pos (by rfl)]
            refine wp_bs_hash (.tmp 35) (by rfl) (digH j (chunkL l k j)) D HDE.out (by rfl) ?_
            have hal : Below Z13.heap.size Z13 (Z13.alloc (.cells D 33)) := (Below.refl _ _).alloc (Nat.le_refl _) _
            refine hK.out _ _ ?_ (fun hHeld => ?_)
            · exact trivial
            clear hHeld hK K
            try simp only [Act.put, List.setIfInBounds_toArray, List.set_cons_zero, List.set_cons_succ]
            obtain ⟨Z15, hW⟩ : ∃ W', W' = Z13.alloc (.cells D 33) := ⟨_, rfl⟩
            change wpAnyH _ _ _ _ _ _ _ _ (Z13.alloc (.cells D 33))
            rw [← hW]
            have hb : Below Z13.heap.size Z13 Z15 := by rw [hW]; exact hal
            clear hal
            have HNB := Lib.hid (show Z15.heap[Z13.heap.size]? = some (.cells D 33 (0, 0)) from by rw [hW]; exact heap_alloc_new _ _)
            replace HMB := Lib.hid (MB.next HMB.out hb)
            replace HHW := Lib.hid (Hw.next HHW.out hb)
            replace HBL := Lib.hid (below_both HBL.out hb)
            replace HCH := Lib.hid (Bs.next HCH.out hb)
            obtain ⟨gn, hgn⟩ : ∃ g, g = Z13.heap.size := ⟨_, rfl⟩
            rw [← hgn] at HNB ⊢
            clear hW hb hgn
            refine wpAnyH_ready (rs := [8]) (by kernel_rfl) (by simp) ?_
            refine AllReadyH.cons (o := { dst := some 37, op := Op.call { callee := Callee.builtin Builtin.append, args := #[Operand.tmp 30, Operand.tmp 36], argTypes := #[32, 32] }, type := 32, pos := "manifest.go:50", after := #[{ on := 1, ground := Ground.data }, { on := 7, ground := Ground.data }, { on := 6, ground := Ground.chain }], guard := none }) rfl (fun K hK => ?_) AllReadyH.nil
            rw [HDE.out] at HNB
            refine step_hw (by rfl) (.tmp 30) (.tmp 36) (by rfl) (by rfl) HHW.out gn 1 (digH j (chunkL l k j)) HNB.out (by rfl) (by rfl) (by rw [bldHs_len]; omega) (by exact HBL.out.2) ?_
            intro v8 Z16 hw8 hb8
            rw [← bldHs_succ] at hw8
            obtain ⟨A8, c8, rfl, -, -, -, -⟩ := hw8.sl
            rw [bldHs_len] at hw8 ⊢
            refine hK.out _ _ ?_ (fun hHeld => ?_)
            · exact trivial
            clear hHeld hK K
            try simp only [Act.put, List.setIfInBounds_toArray, List.set_cons_zero, List.set_cons_succ]
            replace HMB := Lib.hid (MB.nextB HMB.out (Nat.lt_succ_self _) hb8)
            replace HBL := Lib.hid (show Below g7 W5 Z16 ∧ g7 < Z16.heap.size from ⟨HBL.out.1.trans (hb8.mono (Nat.le_succ _)), Nat.lt_of_lt_of_le HBL.out.2 hb8.size⟩)
            have HH8 := Lib.hid hw8
            clear hw8 hb8 HHW HNB HCH
            have hHeld : (fun _ => True) Z16 := trivial
            refine wpAnyH_take (i := 9) (oi := { dst := some 38, op := Op.fieldAddr 35 (Operand.tmp 7) 2, type := 0, pos := "manifest.go:50", after := #[{ on := 0, ground := Ground.phase }, { on := 1, ground := Ground.phase }, { on := 2, ground := Ground.phase }, { on := 3, ground := Ground.phase }, { on := 4, ground := Ground.phase }, { on := 5, ground := Ground.phase }, { on := 6, ground := Ground.phase }, { on := 7, ground := Ground.phase }, { on := 8, ground := Ground.phase }], guard := none }) (v := ?_) rfl (by kernel_rfl) (by kernel_rfl) (by kernel_rfl) (fun _ _ _ h => h) (Or.inl ⟨by rfl, ?_⟩) (by assumption) ?_
            rotate_left 1
            · intro ws hSw; (try dsimp only at hSw); go_simp; all_goals with_reducible rfl
            simp only [Act.put, List.setIfInBounds_toArray, List.set_cons_zero, List.set_cons_succ]
            clear hHeld
            refine wpAnyH_ready (rs := [10]) (by kernel_rfl) (by simp) ?_
            refine AllReadyH.cons (o := { dst := none, op := Op.store 32 (Operand.tmp 38) (Operand.tmp 37), type := 0, pos := "manifest.go:50", after := #[{ on := 9, ground := Ground.data }, { on := 8, ground := Ground.data }, { on := 8, ground := Ground.chain }, { on := 0, ground := Ground.phase }, { on := 1, ground := Ground.phase }, { on := 2, ground := Ground.phase }, { on := 3, ground := Ground.phase }, { on := 4, ground := Ground.phase }, { on := 5, ground := Ground.phase }, { on := 6, ground := Ground.phase }, { on := 7, ground := Ground.phase }, { on := 8, ground := Ground.phase }], guard := none }) rfl (fun K hK => ?_) AllReadyH.nil
            have ck := HMB.out.c2
            have cf := HMB.out.free 2
            go_simp
            refine hK.out _ _ ?_ (fun hHeld => ?_)
            · exact trivial
            clear hHeld hK K
            try simp only [Act.put]
            obtain ⟨Z17, hW⟩ : ∃ W', W' = Z16.setCell ⟨g7, 2, none⟩ (.slice A8 (j + 1) c8) := ⟨_, rfl⟩
            change wpAnyH _ _ _ _ _ _ _ _ (Z16.setCell ⟨g7, 2, none⟩ (.slice A8 (j + 1) c8))
            rw [← hW]
            have HXI := Lib.hid (show BInv l k g7 W5 (j + 1) Z17 from by rw [hW]; exact ⟨A8, c8, by rw [← HM.out]; exact HMB.out.set2 _, HH8.out.farCell (Nat.lt_succ_self _) _, HBL.out.1.setCell (Nat.le_refl _) _⟩)
            clear hW ck cf
            refine wpAnyH_done (by kernel_rfl) ?_ _
            go_wp2_with fail
            go_roundw
            case rel => exact ⟨j + 1, by go_num, by omega, HXI.out⟩
            case measure => simp [intOf]; omega
          refine AllReadyH.cons (o := { dst := some 36, op := Op.buildSlice 32 1 #[(0, Operand.tmp 35)], type := 32, pos := "manifest.go:50", after := #[{ on := 6, ground := Ground.data }], guard := none }) rfl (fun K hK => ?_) AllReadyH.nil
          rw [if_pos (by rfl)]
          refine wp_bs_hash (.tmp 35) (by rfl) (digH j (chunkL l k j)) D HDE.out (by rfl) ?_
          have hal : Below Z13.heap.size Z13 (Z13.alloc (.cells D 33)) := (Below.refl _ _).alloc (Nat.le_refl _) _
          refine hK.out _ _ ?_ (fun hHeld => ?_)
          · exact trivial
          clear hHeld hK K
          try simp only [Act.put, List.setIfInBounds_toArray, List.set_cons_zero, List.set_cons_succ]
          obtain ⟨Z18, hW⟩ : ∃ W', W' = Z13.alloc (.cells D 33) := ⟨_, rfl⟩
          change wpAnyH _ _ _ _ _ _ _ _ (Z13.alloc (.cells D 33))
          rw [← hW]
          have hb : Below Z13.heap.size Z13 Z18 := by rw [hW]; exact hal
          clear hal
          have HNB := Lib.hid (show Z18.heap[Z13.heap.size]? = some (.cells D 33 (0, 0)) from by rw [hW]; exact heap_alloc_new _ _)
          replace HMB := Lib.hid (MB.next HMB.out hb)
          replace HHW := Lib.hid (Hw.next HHW.out hb)
          replace HBL := Lib.hid (below_both HBL.out hb)
          replace HCH := Lib.hid (Bs.next HCH.out hb)
          obtain ⟨gn, hgn⟩ : ∃ g, g = Z13.heap.size := ⟨_, rfl⟩
          rw [← hgn] at HNB ⊢
          clear hW hb hgn
          refine wpAnyH_ready (rs := [1]) (by kernel_rfl) (by simp) ?_
          refine AllReadyH.cons (o := { dst := some 30, op := Op.load 32 (Operand.tmp 29), type := 32, pos := "manifest.go:50", after := #[{ on := 0, ground := Ground.data }], guard := none }) rfl (fun K hK => ?_) AllReadyH.nil
          have ck := HMB.out.c2
          go_simp
          refine hK.out _ _ ?_ (fun hHeld => ?_)
          · exact trivial
          clear hHeld hK K
          try simp only [Act.put, List.setIfInBounds_toArray, List.set_cons_zero, List.set_cons_succ]
          clear ck
          refine wpAnyH_ready (rs := [8]) (by kernel_rfl) (by simp) ?_
          refine AllReadyH.cons (o := { dst := some 37, op := Op.call { callee := Callee.builtin Builtin.append, args := #[Operand.tmp 30, Operand.tmp 36], argTypes := #[32, 32] }, type := 32, pos := "manifest.go:50", after := #[{ on := 1, ground := Ground.data }, { on := 7, ground := Ground.data }, { on := 6, ground := Ground.chain }], guard := none }) rfl (fun K hK => ?_) AllReadyH.nil
          rw [HDE.out] at HNB
          refine step_hw (by rfl) (.tmp 30) (.tmp 36) (by rfl) (by rfl) HHW.out gn 1 (digH j (chunkL l k j)) HNB.out (by rfl) (by rfl) (by rw [bldHs_len]; omega) (by exact HBL.out.2) ?_
          intro v8 Z20 hw8 hb8
          rw [← bldHs_succ] at hw8
          obtain ⟨A8, c8, rfl, -, -, -, -⟩ := hw8.sl
          rw [bldHs_len] at hw8 ⊢
          refine hK.out _ _ ?_ (fun hHeld => ?_)
          · exact trivial
          clear hHeld hK K
          try simp only [Act.put, List.setIfInBounds_toArray, List.set_cons_zero, List.set_cons_succ]
          replace HMB := Lib.hid (MB.nextB HMB.out (Nat.lt_succ_self _) hb8)
          replace HBL := Lib.hid (show Below g7 W5 Z20 ∧ g7 < Z20.heap.size from ⟨HBL.out.1.trans (hb8.mono (Nat.le_succ _)), Nat.lt_of_lt_of_le HBL.out.2 hb8.size⟩)
          have HH8 := Lib.hid hw8
          clear hw8 hb8 HHW HNB HCH
          have hHeld : (fun _ => True) Z20 := trivial
          refine wpAnyH_take (i := 9) (oi := { dst := some 38, op := Op.fieldAddr 35 (Operand.tmp 7) 2, type := 0, pos := "manifest.go:50", after := #[{ on := 0, ground := Ground.phase }, { on := 1, ground := Ground.phase }, { on := 2, ground := Ground.phase }, { on := 3, ground := Ground.phase }, { on := 4, ground := Ground.phase }, { on := 5, ground := Ground.phase }, { on := 6, ground := Ground.phase }, { on := 7, ground := Ground.phase }, { on := 8, ground := Ground.phase }], guard := none }) (v := ?_) rfl (by kernel_rfl) (by kernel_rfl) (by kernel_rfl) (fun _ _ _ h => h) (Or.inl ⟨by rfl, ?_⟩) (by assumption) ?_
          rotate_left 1
          · intro ws hSw; (try dsimp only at hSw); go_simp; all_goals with_reducible rfl
          simp only [Act.put, List.setIfInBounds_toArray, List.set_cons_zero, List.set_cons_succ]
          clear hHeld
          refine wpAnyH_ready (rs := [10]) (by kernel_rfl) (by simp) ?_
          refine AllReadyH.cons (o := { dst := none, op := Op.store 32 (Operand.tmp 38) (Operand.tmp 37), type := 0, pos := "manifest.go:50", after := #[{ on := 9, ground := Ground.data }, { on := 8, ground := Ground.data }, { on := 8, ground := Ground.chain }, { on := 0, ground := Ground.phase }, { on := 1, ground := Ground.phase }, { on := 2, ground := Ground.phase }, { on := 3, ground := Ground.phase }, { on := 4, ground := Ground.phase }, { on := 5, ground := Ground.phase }, { on := 6, ground := Ground.phase }, { on := 7, ground := Ground.phase }, { on := 8, ground := Ground.phase }], guard := none }) rfl (fun K hK => ?_) AllReadyH.nil
          have ck := HMB.out.c2
          have cf := HMB.out.free 2
          go_simp
          refine hK.out _ _ ?_ (fun hHeld => ?_)
          · exact trivial
          clear hHeld hK K
          try simp only [Act.put]
          obtain ⟨Z21, hW⟩ : ∃ W', W' = Z20.setCell ⟨g7, 2, none⟩ (.slice A8 (j + 1) c8) := ⟨_, rfl⟩
          change wpAnyH _ _ _ _ _ _ _ _ (Z20.setCell ⟨g7, 2, none⟩ (.slice A8 (j + 1) c8))
          rw [← hW]
          have HXI := Lib.hid (show BInv l k g7 W5 (j + 1) Z21 from by rw [hW]; exact ⟨A8, c8, by rw [← HM.out]; exact HMB.out.set2 _, HH8.out.farCell (Nat.lt_succ_self _) _, HBL.out.1.setCell (Nat.le_refl _) _⟩)
          clear hW ck cf
          refine wpAnyH_done (by kernel_rfl) ?_ _
          go_wp2_with fail
          go_roundw
          case rel => exact ⟨j + 1, by go_num, by omega, HXI.out⟩
          case measure => simp [intOf]; omega
        · obtain rfl : j = n := by omega
          obtain ⟨Av, cv, hmb, hhw, hbl⟩ := HINV.out
          obtain ⟨M2, hM2⟩ : ∃ M, M = mcv (m : Int) (k : Int) (.slice Av j cv) (sumH l) := ⟨_, rfl⟩
          have HROW := Lib.hid (show wr.heap[g7]? = some (.cells M2 35 (0, 0)) from by rw [hM2, HM.out]; exact hmb)
          have HMs : Hid ((Try.prog.info? 35).map (·.size) = some M2.size) := Lib.hid (by rw [hM2]; exact size_mcv)
          have HMz : Hid (mc0.size = M2.size) := Lib.hid (by rw [hM2, mcv_size, mc0_size])
          have HMa : Hid (M2.all (·.oneCell') = true) := Lib.hid (by rw [hM2]; exact mcv_all _ _ _ _ _ _)
          have hB2w : Below W2.heap.size W2 wr := HBF.out.trans (hbl.mono HGE.out)
          have hg4 : g4 < W2.heap.size := by rw [HS2.out, HG4.out]; omega
          have HX4 := Lib.hid (show wr.heap[g4]? = some (.cells mc0 35 (0, 0)) from (hB2w.block g4 hg4).trans HH4.out)
          have HFIN := Lib.hid (show BuildEnd l (k : Int) w (.returned (.tuple #[.agg M2, .int .i64 0])) (wr.setRow g4 M2) from by
            have h2 := hhw.farRow (q := g4) (by have := HGE.out; omega) M2
            obtain ⟨A', c', e, hh, h3, h4, -⟩ := h2.sl
            rw [bldHs_len] at e h3
            injection e with e1 e2 e3
            subst e1 e3
            refine ⟨below_setRow (below_chain HB2.out hB2w) (by rw [HG4.out]; omega) M2, .inr ⟨by rw [← HM.out, ← HN.out]; exact HNP.out, Av, cv, ?_, ?_, ?_, h4⟩⟩
            · rw [← HM.out, ← HN.out, hM2]
            · rw [← HM.out, ← HN.out, Int.toNat_natCast]; exact hh
            · rw [← HM.out, ← HN.out]; exact h3)
          clear hmb hhw hbl hM2 hB2w hg4 HINV
          go_upto_region 11 with (fail)
          refine wp_region_list ?_
          repeat (first
            | refine wpList_load_row (by rfl) 35 (.tmp 7) (by rfl) g7 (by rfl) 35 M2 (0, 0) _ HROW.out Try.underlying35 (by rfl) HMs.out ?_
            | refine wpList_store_row (by rfl) 35 (.tmp 4) (.tmp 40) (by rfl) g4 M2 (by rfl) (by rfl) 35 mc0 HX4.out HMs.out HMz.out HMa.out ?_
            | go_values | go_skip | go_guarded | go_step | go_upon)
          go_wp2_with fail
          exact bodyPost_ret (v := .tuple #[.agg M2, .int .i64 0]) (results_mt (fn := Try.f20) (p := 4) (u := 5) (by rfl) _ _ g4 M2 (by rfl) (setRow_heap _ _ _ _ _ _ HX4.out) HMs.out) rfl HFIN.out
    · skip
      refine wp_region_held_drew (S := fun w' => (w'.cell? ⟨g2, 0, none⟩ = some (.slice A m c) ∧ w'.cell? ⟨g3, 0, none⟩ = some (.int .i64 (k : Int))) ∧ Hid (Below W2.heap.size W2 w')) (by kernel_rfl) (HSS.out _ (Below.refl _ _).drew) (fun hHeld => ?_)
      refine wpAnyH_take (i := 0) (oi := { dst := some 17, op := Op.load 31 (Operand.tmp 2), type := 31, pos := "manifest.go:47", after := #[], guard := none }) (v := ?_) rfl (by kernel_rfl) (by kernel_rfl) (by kernel_rfl) (fun _ _ _ h => h) (Or.inl ⟨by rfl, ?_⟩) (by assumption) ?_
      rotate_left 1
      · intro ws hSw; (try dsimp only at hSw); go_simp; all_goals with_reducible rfl
      simp only [Act.put, List.setIfInBounds_toArray, List.set_cons_zero, List.set_cons_succ]
      refine wpAnyH_take (i := 1) (oi := { dst := some 18, op := Op.call { callee := Callee.builtin Builtin.len, args := #[Operand.tmp 17], argTypes := #[31] }, type := 3, pos := "manifest.go:47", after := #[{ on := 0, ground := Ground.data }], guard := none }) (v := ?_) rfl (by kernel_rfl) (by kernel_rfl) (by kernel_rfl) (fun _ _ _ h => h) (Or.inl ⟨by rfl, ?_⟩) (by assumption) ?_
      rotate_left 1
      · intro ws hSw; (try dsimp only at hSw); go_simp; all_goals with_reducible rfl
      simp only [Act.put, List.setIfInBounds_toArray, List.set_cons_zero, List.set_cons_succ]
      refine wpAnyH_take (i := 2) (oi := { dst := some 19, op := Op.load 3 (Operand.tmp 3), type := 3, pos := "manifest.go:47", after := #[], guard := none }) (v := ?_) rfl (by kernel_rfl) (by kernel_rfl) (by kernel_rfl) (fun _ _ _ h => h) (Or.inl ⟨by rfl, ?_⟩) (by assumption) ?_
      rotate_left 1
      · intro ws hSw; (try dsimp only at hSw); go_simp; all_goals with_reducible rfl
      simp only [Act.put, List.setIfInBounds_toArray, List.set_cons_zero, List.set_cons_succ]
      refine wpAnyH_take (i := 3) (oi := { dst := some 20, op := Op.load 31 (Operand.tmp 2), type := 31, pos := "manifest.go:47", after := #[], guard := none }) (v := ?_) rfl (by kernel_rfl) (by kernel_rfl) (by kernel_rfl) (fun _ _ _ h => h) (Or.inl ⟨by rfl, ?_⟩) (by assumption) ?_
      rotate_left 1
      · intro ws hSw; (try dsimp only at hSw); go_simp; all_goals with_reducible rfl
      simp only [Act.put, List.setIfInBounds_toArray, List.set_cons_zero, List.set_cons_succ]
      clear hHeld
      obtain ⟨Za, hWa⟩ : ∃ W, W = W2.drew := ⟨_, rfl⟩
      have HBr := Lib.hid (show _ from show Below W2.heap.size W2 Za from by rw [hWa]; exact (Below.refl _ _).drew)
      rw [← hWa]
      clear hWa
      refine wpAnyH_ready (rs := [4, 7]) (by kernel_rfl) (by simp) ?_
      refine AllReadyH.cons (o := { dst := some 21, op := Op.buildSlice 52 1 #[(0, Operand.tmp 20)], type := 52, pos := "manifest.go:47", after := #[{ on := 3, ground := Ground.data }], guard := none }) rfl (fun K hK => ?_) ?_
      · go_simp
        have hal : Below Za.heap.size Za (Za.alloc (.cells #[.slice A m c] 31)) := (Below.refl _ _).alloc (Nat.le_refl _) _
        refine hK.out _ _ ?_ (fun hHeld => ?_)
        · exact HSS.out _ (below_chain HBr.out hal)
        clear hHeld hK K
        try simp only [Act.put, List.setIfInBounds_toArray, List.set_cons_zero, List.set_cons_succ]
        obtain ⟨Z1, hW⟩ : ∃ W', W' = Za.alloc (.cells #[.slice A m c] 31) := ⟨_, rfl⟩
        change wpAnyH _ _ _ _ _ _ _ _ (Za.alloc (.cells #[.slice A m c] 31))
        rw [← hW]
        have hb : Below Za.heap.size Za Z1 := by rw [hW]; exact hal
        clear hal
        have PR := Lib.hid (show Prt Z1 (some ⟨Za.heap.size, 0, none⟩) [.slice A m c] [l] from by rw [hW]; exact HPR.out _ HBr.out)
        replace HBr := Lib.hid (below_chain HBr.out hb)
        obtain ⟨gb, hgb⟩ : ∃ g, g = Za.heap.size := ⟨_, rfl⟩
        rw [← hgb] at PR ⊢
        clear hW hb hgb
        refine wpAnyH_ready (rs := [5, 7]) (by kernel_rfl) (by simp) ?_
        refine AllReadyH.cons (o := { dst := some 22, op := Op.call { callee := Callee.value (Operand.func 29), args := #[Operand.tmp 21], argTypes := #[52] }, type := 33, pos := "manifest.go:47", after := #[{ on := 4, ground := Ground.data }], guard := none }) rfl (fun K hK => ?_) ?_
        · go_simp
          (with_reducible refine (show Calls _ _ #[.slice (some ⟨gb, 0, none⟩) 1 1] _ _ from sum_any _ 1 _ _ _ PR.out (by simp) (by simp) HLL.out).mono ?_)
          rintro e Z2 ⟨rfl, hb⟩
          rw [HCV.out]
          refine hK.out _ _ ?_ (fun hHeld => ?_)
          · exact HSS.out _ (below_chain HBr.out hb)
          clear hHeld hK K
          try simp only [Act.put, List.setIfInBounds_toArray, List.set_cons_zero, List.set_cons_succ]
          replace HBr := Lib.hid (below_chain HBr.out hb)
          replace PR := Lib.hid (Prt.nextW PR.out hb)
          clear hb
          have hHeld : (fun w' => (w'.cell? ⟨g2, 0, none⟩ = some (.slice A m c) ∧ w'.cell? ⟨g3, 0, none⟩ = some (.int .i64 (k : Int))) ∧ Hid (Below W2.heap.size W2 w')) Z2 := HSS.out _ HBr.out
          refine wpAnyH_take (i := 6) (oi := { dst := some 23, op := Op.build 35 #[(0, Operand.tmp 18), (1, Operand.tmp 19), (3, Operand.tmp 22)], type := 35, pos := "manifest.go:47", after := #[{ on := 1, ground := Ground.data }, { on := 2, ground := Ground.data }, { on := 5, ground := Ground.data }], guard := none }) (v := .agg M) rfl (by kernel_rfl) (by kernel_rfl) (by kernel_rfl) (fun _ _ _ h => h) (by rw [HMM.out]; exact yieldsIf_build_m (by rfl) (.tmp 18) (.tmp 19) (.tmp 22) (by rfl) (m : Int) (k : Int) (sumH l) C HCC.out (by rfl) (by rfl) (by rfl)) (by assumption) ?_
          simp only [Act.put, List.setIfInBounds_toArray, List.set_cons_zero, List.set_cons_succ]
          clear hHeld
          refine wpAnyH_ready (rs := [7]) (by kernel_rfl) (by simp) ?_
          refine AllReadyH.cons (o := { dst := some 7, op := Op.alloc 35, type := 0, pos := "manifest.go:47", after := #[], guard := none }) rfl (fun K hK => ?_) AllReadyH.nil
          go_simp
          have hal : Below Z2.heap.size Z2 (Z2.alloc (.cells mc0 35)) := (Below.refl _ _).alloc (Nat.le_refl _) _
          refine hK.out _ _ ?_ (fun hHeld => ?_)
          · exact HSS.out _ (below_chain HBr.out hal)
          clear hHeld hK K
          try simp only [Act.put, List.setIfInBounds_toArray, List.set_cons_zero, List.set_cons_succ]
          obtain ⟨Z3, hW⟩ : ∃ W', W' = Z2.alloc (.cells mc0 35) := ⟨_, rfl⟩
          change wpAnyH _ _ _ _ _ _ _ _ (Z2.alloc (.cells mc0 35))
          rw [← hW]
          have hb : Below Z2.heap.size Z2 Z3 := by rw [hW]; exact hal
          clear hal
          have HX7 := Lib.hid (show MB Z3 Z2.heap.size 0 0 (.slice none 0 0) (fun _ => 0) from by rw [hW]; exact heap_alloc_new _ _)
          have HG7 := Lib.hid (show W2.heap.size ≤ Z2.heap.size from HBr.out.size)
          replace HBr := Lib.hid (below_chain HBr.out hb)
          replace PR := Lib.hid (Prt.nextW PR.out hb)
          obtain ⟨g7, hg7⟩ : ∃ g, g = Z2.heap.size := ⟨_, rfl⟩
          rw [← hg7] at HX7 HG7 ⊢
          clear hW hb hg7
          refine wpAnyH_ready (rs := [8]) (by kernel_rfl) (by simp) ?_
          refine AllReadyH.cons (o := { dst := none, op := Op.store 35 (Operand.tmp 7) (Operand.tmp 23), type := 0, pos := "manifest.go:47", after := #[{ on := 7, ground := Ground.data }, { on := 6, ground := Ground.data }, { on := 5, ground := Ground.chain }, { on := 0, ground := Ground.phase }, { on := 1, ground := Ground.phase }, { on := 2, ground := Ground.phase }, { on := 3, ground := Ground.phase }, { on := 4, ground := Ground.phase }, { on := 5, ground := Ground.phase }, { on := 6, ground := Ground.phase }, { on := 7, ground := Ground.phase }], guard := none }) rfl (fun K hK => ?_) AllReadyH.nil
          rw [if_pos (by rfl)]
          refine wp_store_row 35 (.tmp 7) (.tmp 23) (by rfl) g7 M (by rfl) (by rfl) 35 mc0 HX7.out HMs.out HMz.out HMa.out ?_
          refine hK.out _ _ ?_ (fun hHeld => ?_)
          · exact HSS.out _ (below_setRow HBr.out HG7.out M)
          clear hHeld hK K
          try simp only [Act.put]
          obtain ⟨Z4, hW⟩ : ∃ W', W' = Z3.setRow g7 M := ⟨_, rfl⟩
          change wpAnyH _ _ _ _ _ _ _ _ (Z3.setRow g7 M)
          rw [← hW]
          have HXF := Lib.hid (show MB Z4 g7 (m : Int) (k : Int) (.slice none 0 0) (sumH l) from by rw [hW]; unfold MB; rw [← HMM.out]; exact setRow_heap _ _ _ _ _ _ HX7.out)
          have HBF := Lib.hid (show Below W2.heap.size W2 Z4 from by rw [hW]; exact below_setRow HBr.out HG7.out M)
          clear hW
          refine wpAnyH_done (by kernel_rfl) ?_ _
          exact HEND gb g7 _ ⟨HXF.out, HBF.out, HG7.out⟩
        refine AllReadyH.cons (o := { dst := some 7, op := Op.alloc 35, type := 0, pos := "manifest.go:47", after := #[], guard := none }) rfl (fun K hK => ?_) AllReadyH.nil
        go_simp
        have hal : Below Z1.heap.size Z1 (Z1.alloc (.cells mc0 35)) := (Below.refl _ _).alloc (Nat.le_refl _) _
        refine hK.out _ _ ?_ (fun hHeld => ?_)
        · exact HSS.out _ (below_chain HBr.out hal)
        clear hHeld hK K
        try simp only [Act.put, List.setIfInBounds_toArray, List.set_cons_zero, List.set_cons_succ]
        obtain ⟨Z5, hW⟩ : ∃ W', W' = Z1.alloc (.cells mc0 35) := ⟨_, rfl⟩
        change wpAnyH _ _ _ _ _ _ _ _ (Z1.alloc (.cells mc0 35))
        rw [← hW]
        have hb : Below Z1.heap.size Z1 Z5 := by rw [hW]; exact hal
        clear hal
        have HX7 := Lib.hid (show MB Z5 Z1.heap.size 0 0 (.slice none 0 0) (fun _ => 0) from by rw [hW]; exact heap_alloc_new _ _)
        have HG7 := Lib.hid (show W2.heap.size ≤ Z1.heap.size from HBr.out.size)
        replace HBr := Lib.hid (below_chain HBr.out hb)
        replace PR := Lib.hid (Prt.nextW PR.out hb)
        obtain ⟨g7, hg7⟩ : ∃ g, g = Z1.heap.size := ⟨_, rfl⟩
        rw [← hg7] at HX7 HG7 ⊢
        clear hW hb hg7
        refine wpAnyH_ready (rs := [5]) (by kernel_rfl) (by simp) ?_
        refine AllReadyH.cons (o := { dst := some 22, op := Op.call { callee := Callee.value (Operand.func 29), args := #[Operand.tmp 21], argTypes := #[52] }, type := 33, pos := "manifest.go:47", after := #[{ on := 4, ground := Ground.data }], guard := none }) rfl (fun K hK => ?_) AllReadyH.nil
        go_simp
        (with_reducible refine (show Calls _ _ #[.slice (some ⟨gb, 0, none⟩) 1 1] _ _ from sum_any _ 1 _ _ _ PR.out (by simp) (by simp) HLL.out).mono ?_)
        rintro e Z6 ⟨rfl, hb⟩
        rw [HCV.out]
        refine hK.out _ _ ?_ (fun hHeld => ?_)
        · exact HSS.out _ (below_chain HBr.out hb)
        clear hHeld hK K
        try simp only [Act.put, List.setIfInBounds_toArray, List.set_cons_zero, List.set_cons_succ]
        replace HBr := Lib.hid (below_chain HBr.out hb)
        replace PR := Lib.hid (Prt.nextW PR.out hb)
        replace HX7 := Lib.hid (MB.next HX7.out hb)
        replace HG7 := Lib.hid (same_fact HG7.out hb)
        clear hb
        have hHeld : (fun w' => (w'.cell? ⟨g2, 0, none⟩ = some (.slice A m c) ∧ w'.cell? ⟨g3, 0, none⟩ = some (.int .i64 (k : Int))) ∧ Hid (Below W2.heap.size W2 w')) Z6 := HSS.out _ HBr.out
        refine wpAnyH_take (i := 6) (oi := { dst := some 23, op := Op.build 35 #[(0, Operand.tmp 18), (1, Operand.tmp 19), (3, Operand.tmp 22)], type := 35, pos := "manifest.go:47", after := #[{ on := 1, ground := Ground.data }, { on := 2, ground := Ground.data }, { on := 5, ground := Ground.data }], guard := none }) (v := .agg M) rfl (by kernel_rfl) (by kernel_rfl) (by kernel_rfl) (fun _ _ _ h => h) (by rw [HMM.out]; exact yieldsIf_build_m (by rfl) (.tmp 18) (.tmp 19) (.tmp 22) (by rfl) (m : Int) (k : Int) (sumH l) C HCC.out (by rfl) (by rfl) (by rfl)) (by assumption) ?_
        simp only [Act.put, List.setIfInBounds_toArray, List.set_cons_zero, List.set_cons_succ]
        clear hHeld
        refine wpAnyH_ready (rs := [8]) (by kernel_rfl) (by simp) ?_
        refine AllReadyH.cons (o := { dst := none, op := Op.store 35 (Operand.tmp 7) (Operand.tmp 23), type := 0, pos := "manifest.go:47", after := #[{ on := 7, ground := Ground.data }, { on := 6, ground := Ground.data }, { on := 5, ground := Ground.chain }, { on := 0, ground := Ground.phase }, { on := 1, ground := Ground.phase }, { on := 2, ground := Ground.phase }, { on := 3, ground := Ground.phase }, { on := 4, ground := Ground.phase }, { on := 5, ground := Ground.phase }, { on := 6, ground := Ground.phase }, { on := 7, ground := Ground.phase }], guard := none }) rfl (fun K hK => ?_) AllReadyH.nil
        rw [if_pos (by rfl)]
        refine wp_store_row 35 (.tmp 7) (.tmp 23) (by rfl) g7 M (by rfl) (by rfl) 35 mc0 HX7.out HMs.out HMz.out HMa.out ?_
        refine hK.out _ _ ?_ (fun hHeld => ?_)
        · exact HSS.out _ (below_setRow HBr.out HG7.out M)
        clear hHeld hK K
        try simp only [Act.put]
        obtain ⟨Z7, hW⟩ : ∃ W', W' = Z6.setRow g7 M := ⟨_, rfl⟩
        change wpAnyH _ _ _ _ _ _ _ _ (Z6.setRow g7 M)
        rw [← hW]
        have HXF := Lib.hid (show MB Z7 g7 (m : Int) (k : Int) (.slice none 0 0) (sumH l) from by rw [hW]; unfold MB; rw [← HMM.out]; exact setRow_heap _ _ _ _ _ _ HX7.out)
        have HBF := Lib.hid (show Below W2.heap.size W2 Z7 from by rw [hW]; exact below_setRow HBr.out HG7.out M)
        clear hW
        refine wpAnyH_done (by kernel_rfl) ?_ _
        exact HEND gb g7 _ ⟨HXF.out, HBF.out, HG7.out⟩
      refine AllReadyH.cons (o := { dst := some 7, op := Op.alloc 35, type := 0, pos := "manifest.go:47", after := #[], guard := none }) rfl (fun K hK => ?_) AllReadyH.nil
      go_simp
      have hal : Below Za.heap.size Za (Za.alloc (.cells mc0 35)) := (Below.refl _ _).alloc (Nat.le_refl _) _
      refine hK.out _ _ ?_ (fun hHeld => ?_)
      · exact HSS.out _ (below_chain HBr.out hal)
      clear hHeld hK K
      try simp only [Act.put, List.setIfInBounds_toArray, List.set_cons_zero, List.set_cons_succ]
      obtain ⟨Z8, hW⟩ : ∃ W', W' = Za.alloc (.cells mc0 35) := ⟨_, rfl⟩
      change wpAnyH _ _ _ _ _ _ _ _ (Za.alloc (.cells mc0 35))
      rw [← hW]
      have hb : Below Za.heap.size Za Z8 := by rw [hW]; exact hal
      clear hal
      have HX7 := Lib.hid (show MB Z8 Za.heap.size 0 0 (.slice none 0 0) (fun _ => 0) from by rw [hW]; exact heap_alloc_new _ _)
      have HG7 := Lib.hid (show W2.heap.size ≤ Za.heap.size from HBr.out.size)
      replace HBr := Lib.hid (below_chain HBr.out hb)
      obtain ⟨g7, hg7⟩ : ∃ g, g = Za.heap.size := ⟨_, rfl⟩
      rw [← hg7] at HX7 HG7 ⊢
      clear hW hb hg7
      refine wpAnyH_ready (rs := [4]) (by kernel_rfl) (by simp) ?_
      refine AllReadyH.cons (o := { dst := some 21, op := Op.buildSlice 52 1 #[(0, Operand.tmp 20)], type := 52, pos := "manifest.go:47", after := #[{ on := 3, ground := Ground.data }], guard := none }) rfl (fun K hK => ?_) AllReadyH.nil
      go_simp
      have hal : Below Z8.heap.size Z8 (Z8.alloc (.cells #[.slice A m c] 31)) := (Below.refl _ _).alloc (Nat.le_refl _) _
      refine hK.out _ _ ?_ (fun hHeld => ?_)
      · exact HSS.out _ (below_chain HBr.out hal)
      clear hHeld hK K
      try simp only [Act.put, List.setIfInBounds_toArray, List.set_cons_zero, List.set_cons_succ]
      obtain ⟨Z9, hW⟩ : ∃ W', W' = Z8.alloc (.cells #[.slice A m c] 31) := ⟨_, rfl⟩
      change wpAnyH _ _ _ _ _ _ _ _ (Z8.alloc (.cells #[.slice A m c] 31))
      rw [← hW]
      have hb : Below Z8.heap.size Z8 Z9 := by rw [hW]; exact hal
      clear hal
      have PR := Lib.hid (show Prt Z9 (some ⟨Z8.heap.size, 0, none⟩) [.slice A m c] [l] from by rw [hW]; exact HPR.out _ HBr.out)
      replace HBr := Lib.hid (below_chain HBr.out hb)
      replace HX7 := Lib.hid (MB.next HX7.out hb)
      replace HG7 := Lib.hid (same_fact HG7.out hb)
      obtain ⟨gb, hgb⟩ : ∃ g, g = Z8.heap.size := ⟨_, rfl⟩
      rw [← hgb] at PR ⊢
      clear hW hb hgb
      refine wpAnyH_ready (rs := [5]) (by kernel_rfl) (by simp) ?_
      refine AllReadyH.cons (o := { dst := some 22, op := Op.call { callee := Callee.value (Operand.func 29), args := #[Operand.tmp 21], argTypes := #[52] }, type := 33, pos := "manifest.go:47", after := #[{ on := 4, ground := Ground.data }], guard := none }) rfl (fun K hK => ?_) AllReadyH.nil
      go_simp
      (with_reducible refine (show Calls _ _ #[.slice (some ⟨gb, 0, none⟩) 1 1] _ _ from sum_any _ 1 _ _ _ PR.out (by simp) (by simp) HLL.out).mono ?_)
      rintro e Z10 ⟨rfl, hb⟩
      rw [HCV.out]
      refine hK.out _ _ ?_ (fun hHeld => ?_)
      · exact HSS.out _ (below_chain HBr.out hb)
      clear hHeld hK K
      try simp only [Act.put, List.setIfInBounds_toArray, List.set_cons_zero, List.set_cons_succ]
      replace HBr := Lib.hid (below_chain HBr.out hb)
      replace HX7 := Lib.hid (MB.next HX7.out hb)
      replace HG7 := Lib.hid (same_fact HG7.out hb)
      replace PR := Lib.hid (Prt.nextW PR.out hb)
      clear hb
      have hHeld : (fun w' => (w'.cell? ⟨g2, 0, none⟩ = some (.slice A m c) ∧ w'.cell? ⟨g3, 0, none⟩ = some (.int .i64 (k : Int))) ∧ Hid (Below W2.heap.size W2 w')) Z10 := HSS.out _ HBr.out
      refine wpAnyH_take (i := 6) (oi := { dst := some 23, op := Op.build 35 #[(0, Operand.tmp 18), (1, Operand.tmp 19), (3, Operand.tmp 22)], type := 35, pos := "manifest.go:47", after := #[{ on := 1, ground := Ground.data }, { on := 2, ground := Ground.data }, { on := 5, ground := Ground.data }], guard := none }) (v := .agg M) rfl (by kernel_rfl) (by kernel_rfl) (by kernel_rfl) (fun _ _ _ h => h) (by rw [HMM.out]; exact yieldsIf_build_m (by rfl) (.tmp 18) (.tmp 19) (.tmp 22) (by rfl) (m : Int) (k : Int) (sumH l) C HCC.out (by rfl) (by rfl) (by rfl)) (by assumption) ?_
      simp only [Act.put, List.setIfInBounds_toArray, List.set_cons_zero, List.set_cons_succ]
      clear hHeld
      refine wpAnyH_ready (rs := [8]) (by kernel_rfl) (by simp) ?_
      refine AllReadyH.cons (o := { dst := none, op := Op.store 35 (Operand.tmp 7) (Operand.tmp 23), type := 0, pos := "manifest.go:47", after := #[{ on := 7, ground := Ground.data }, { on := 6, ground := Ground.data }, { on := 5, ground := Ground.chain }, { on := 0, ground := Ground.phase }, { on := 1, ground := Ground.phase }, { on := 2, ground := Ground.phase }, { on := 3, ground := Ground.phase }, { on := 4, ground := Ground.phase }, { on := 5, ground := Ground.phase }, { on := 6, ground := Ground.phase }, { on := 7, ground := Ground.phase }], guard := none }) rfl (fun K hK => ?_) AllReadyH.nil
      rw [if_pos (by rfl)]
      refine wp_store_row 35 (.tmp 7) (.tmp 23) (by rfl) g7 M (by rfl) (by rfl) 35 mc0 HX7.out HMs.out HMz.out HMa.out ?_
      refine hK.out _ _ ?_ (fun hHeld => ?_)
      · exact HSS.out _ (below_setRow HBr.out HG7.out M)
      clear hHeld hK K
      try simp only [Act.put]
      obtain ⟨Z11, hW⟩ : ∃ W', W' = Z10.setRow g7 M := ⟨_, rfl⟩
      change wpAnyH _ _ _ _ _ _ _ _ (Z10.setRow g7 M)
      rw [← hW]
      have HXF := Lib.hid (show MB Z11 g7 (m : Int) (k : Int) (.slice none 0 0) (sumH l) from by rw [hW]; unfold MB; rw [← HMM.out]; exact setRow_heap _ _ _ _ _ _ HX7.out)
      have HBF := Lib.hid (show Below W2.heap.size W2 Z11 from by rw [hW]; exact below_setRow HBr.out HG7.out M)
      clear hW
      refine wpAnyH_done (by kernel_rfl) ?_ _
      exact HEND gb g7 _ ⟨HXF.out, HBF.out, HG7.out⟩
end Go.Proofs.Ytmpbimechgelfaa

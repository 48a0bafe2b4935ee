/- sha.Sum's contract. -/
import Derived.Test.YtmpbimechgelfaaJoin
namespace Go.Proofs.Ytmpbimechgelfaa
open Go Go.RowKit

theorem Prt.below {w w' : World} {A : Option Addr} {vs : List Value} {ls : List (List Nat)} (h : Prt w A vs ls) (hA : ∀ b off, A = some ⟨b, off, none⟩ → b < w.heap.size) (hb : Below w.heap.size w w') : Prt w' A vs ls where
  len := h.len
  rd := fun hn => by
    obtain ⟨b, off, e, hc⟩ := h.rd hn
    exact ⟨b, off, e, fun j v hv => by rw [hb.cell (p := ⟨b, off + j, none⟩) (hA b off e)]; exact hc j v hv⟩
  ok := fun j v l hv hl => by
    obtain ⟨B, c, e, hB⟩ := h.ok j v l hv hl
    exact ⟨B, c, e, Bs.next hB hb⟩
  byt := h.byt
theorem Prt.lt {w : World} {A : Option Addr} {vs : List Value} {ls : List (List Nat)} (h : Prt w A vs ls) (hn : 0 < ls.length) : ∃ b off, A = some ⟨b, off, none⟩ ∧ b < w.heap.size := by
  obtain ⟨b, off, e, hc⟩ := h.rd hn
  exact ⟨b, off, e, World.block_lt_of_cell? w _ (hc 0 _ (List.getElem?_eq_getElem (by rw [h.len]; exact hn)))⟩
theorem Prt.nextW {w w' : World} {A : Option Addr} {vs : List Value} {ls : List (List Nat)} (h : Prt w A vs ls) (hb : Below w.heap.size w w') : Prt w' A vs ls := by
  by_cases hn : 0 < ls.length
  · obtain ⟨b, off, e, hlt⟩ := h.lt hn
    exact h.below (fun b' off' e' => by rw [e] at e'; injection e' with e'; injection e' with e1; omega) hb
  · exact ⟨h.len, fun hn' => absurd hn' hn, fun j v l hv hl => by have := (List.getElem?_eq_some_iff.1 hl).1; omega, h.byt⟩
theorem Bs.dropAt {w : World} {B b off : Nat} {l : List Nat} (h : Bs w B (some ⟨b, off, none⟩) l) (k : Nat) : Bs w B (some ⟨b, off + k, none⟩) (l.drop k) := fun hn => by
  rw [List.length_drop] at hn
  obtain ⟨b', off', e, hb, hc⟩ := h (by omega)
  injection e with e
  injection e with e1 e2
  subst e1 e2
  exact ⟨b, off + k, rfl, hb, fun j hj => by rw [List.length_drop] at hj; rw [bf_drop, Nat.add_assoc]; exact hc (k + j) (by omega)⟩
theorem hc_set (f : Nat → Nat) (j v : Nat) : (hc f).setIfInBounds j (.int .u8 (v : Int)) = hc fun i => if i = j then v else f i := by
  unfold hc
  rw [List.setIfInBounds_toArray, map_set]
  congr 1
  exact List.map_congr_left fun i _ => by dsimp only; split <;> rfl
theorem hbox_set {w : World} {g t : Nat} {f : Nat → Nat} (h : w.heap[g]? = some (.cells (hc f) t (0, 0))) (j v : Nat) :
    (w.setCell ⟨g, j, none⟩ (.int .u8 (v : Int))).heap[g]? = some (.cells (hc fun i => if i = j then v else f i) t (0, 0)) := by
  have h1 := heap_setCell_same w g j _ _ (.int .u8 (v : Int)) h
  rw [hc_set] at h1
  exact h1
set_option maxRecDepth 100000 in
set_option maxHeartbeats 8000000 in
theorem sum_any (A : Option Addr) (c : Nat) (vs : List Value) (ls : List (List Nat)) (w : World) (h : Prt w A vs ls) (hc' : ls.length ≤ c) (hn : ls.length ≤ 1000) (hl : ls.flatten.length ≤ 900000) :
    Calls Try.prog 29 #[.slice A ls.length c] w fun e w' => e = .returned (.agg (hc (sumH ls.flatten))) ∧ Below w.heap.size w w' := by
  have HP := Lib.hid h
  have HY := Lib.hid (byt_flat h.byt)
  clear h
  go_enter Try.func29, Try.ntmps29
  go_wp2_with fail
  obtain ⟨W0, hW0⟩ : ∃ W0, W0 = w.alloc (.cells (hc fun _ => 0) 33) := ⟨_, rfl⟩
  change Calls _ _ _ (w.alloc (.cells (hc fun _ => 0) 33)) _
  rw [← hW0]
  have HS0 := Lib.hid (show W0.heap.size = w.heap.size + 1 from by rw [hW0]; simp)
  have HB0 := Lib.hid (show Below w.heap.size w W0 from by rw [hW0]; exact (by repeat (first | exact Below.refl _ _ | assumption | refine below_drewN ?_ _ | refine Below.drew ?_ | refine Below.alloc ?_ (by simp; try omega) _ | refine Below.setCell ?_ (by simp; try omega) _)))
  have HO0 := Lib.hid (show W0.heap[w.heap.size]? = some (.cells (hc fun _ => 0) 33 (0, 0)) from by rw [hW0]; exact heap_alloc_new w _)
  clear hW0
  refine (join_any A c vs ls W0 (HP.out.nextW HB0.out) hc' hn (by omega)).mono ?_
  rintro e w1 ⟨v, rfl, hf, hb⟩
  obtain ⟨A1, c1, rfl, -, hlc, hcm, -⟩ := hf.rd
  obtain ⟨l, hl'⟩ : ∃ l, l = ls.flatten := ⟨_, rfl⟩
  rw [← hl'] at HY hf hl ⊢
  have HF := Lib.hid hf
  have HB := Lib.hid hb
  have HN := Lib.hid hl'
  clear hf hb hl' hlc hcm
  obtain ⟨n, hn0⟩ : ∃ n, n = l.length := ⟨_, rfl⟩
  rw [← hn0] at HF hl ⊢
  have HL := Lib.hid hn0
  clear hn0
  have hbs : W0.heap.size ≤ w1.heap.size + 1 := by have := HB.out.size; omega
  go_wp2_with (at_builtin; refine wpl_fr rfl (.tmp 15) (.tmp 16) rfl rfl (Fr.below HF.out ((Below.refl _ _).alloc (Nat.le_refl _) _)) ⟨w1.heap.size, 0, none⟩ 128 1 (by rfl) (by rfl) (by exact cell_of_one (heap_alloc_new _ _)) (by rw [← HL.out]; omega) (by simp; omega) ?_; intro v1 w2 hf1 hb1)
  obtain ⟨A2, c2, rfl, -, -, -, -⟩ := hf1.rd
  have HF1 := Lib.hid hf1
  have HB1 := Lib.hid (show Below W0.heap.size W0 w2 from HB.out.trans ((((Below.refl _ _).alloc (by have := HB.out.size; omega) _ : Below W0.heap.size w1 _)).trans hb1))
  clear hf1 hb1
  have hL1 : (l ++ [128]).length = n + 1 := by rw [List.length_append, ← HL.out]; rfl
  rw [hL1] at HF1 ⊢
  clear hL1
  have hzn := zn_lt n
  obtain ⟨u4, hu4⟩ : ∃ v, v = Value.int .u64 ((n : Int) * 8) := ⟨_, rfl⟩
  rw [← hu4]
  have HU4 := Lib.hid hu4
  clear hu4
  go_loopw [3] (fun v wr => ∃ (k m : Nat) (A : Option Addr) (c : Nat), v = .slice A m c ∧ m = n + 1 + k ∧ k ≤ zn n ∧ Fr wr W0.heap.size (.slice A m c) (l ++ 128 :: List.replicate k 0) ∧ Below W0.heap.size W0 wr) (fun v _ => (n + 100 - (match v with | .slice _ m _ => m | _ => 0)))
  case atStart => exact ⟨0, n + 1, A2, c2, rfl, rfl, Nat.zero_le _, HF1.out, HB1.out⟩
  case round =>
    obtain ⟨k, m, A3, c3, rfl, hm, hk, hf, hb⟩ := hrel
    have HF := Lib.hid hf
    have HB := Lib.hid hb
    clear hf hb
    by_cases hkz : k < zn n
    · have hmod : ((m : Int) % 64 != 56) = true := by have h1 := zn_mod n; unfold zn at hkz h1; simp; omega
      have HM := Lib.hid hm
      have hml : m ≤ 1000100 := by omega
      have hms : W0.heap.size ≤ wr.heap.size + 1 := by have := HB.out.size; omega
      clear hm
      go_wp2_with (at_builtin; refine wpl_fr rfl (.tmp 22) (.tmp 23) rfl rfl (Fr.below HF.out ((Below.refl _ _).alloc (Nat.le_refl _) _)) ⟨wr.heap.size, 0, none⟩ 0 1 (by rfl) (by rfl) (by exact cell_of_one (heap_alloc_new _ _)) (by simp; have := HM.out; have := HL.out; omega) (by simp; omega) ?_; intro v1 w3 hf1 hb1)
      obtain ⟨A4, c4, rfl, -, -, -, -⟩ := hf1.rd
      have hL2 : (l ++ 128 :: List.replicate k 0 ++ [0]).length = m + 1 := by simp; have := HM.out; have := HL.out; omega
      have hL3 : l ++ 128 :: List.replicate k 0 ++ [0] = l ++ 128 :: List.replicate (k + 1) 0 := by rw [List.replicate_succ', List.append_assoc]; rfl
      have HF1 := Lib.hid (show Fr w3 W0.heap.size (.slice A4 (m + 1) c4) (l ++ 128 :: List.replicate (k + 1) 0) from by rw [← hL3, ← hL2]; exact hf1)
      have HB1 := Lib.hid (show Below W0.heap.size W0 w3 from HB.out.trans ((((Below.refl _ _).alloc (by have := HB.out.size; omega) _ : Below W0.heap.size wr _)).trans hb1))
      rw [hL2]
      clear hf1 hb1 hL2 hL3
      go_wp2_with fail
      go_roundw
      case rel => exact ⟨k + 1, m + 1, A4, c4, rfl, by have := HM.out; omega, by omega, HF1.out, HB1.out⟩
      case measure => have := HM.out; simp; omega
    · obtain rfl : k = zn n := by omega
      have hmod : ((m : Int) % 64 != 56) = false := by have h1 := zn_mod n; simp; omega
      have HM := Lib.hid hm
      have hml : m ≤ 1000100 := by omega
      clear hm
      obtain ⟨W1, hW1⟩ : ∃ W1, W1 = wr := ⟨_, rfl⟩
      subst hW1
      go_wp2_with fail
      obtain ⟨u22, hu22⟩ : ∃ v, v = Value.slice A3 m c3 := ⟨_, rfl⟩
      go_loopw [3, 25] (fun v i wr => ∃ (k m' : Nat) (A : Option Addr) (c : Nat), i = .int .i64 (k : Int) ∧ k ≤ 8 ∧ v = .slice A m' c ∧ m' = m + k ∧ Fr wr W0.heap.size (.slice A m' c) (l ++ 128 :: List.replicate (zn n) 0 ++ (ln8 n).take k) ∧ Below W0.heap.size W0 wr) (fun _ i _ => (8 - intOf i).toNat)
      case atStart => exact ⟨0, m, A3, c3, rfl, by omega, rfl, rfl, by rw [List.take_zero, List.append_nil]; exact HF.out, HB.out⟩
      case round =>
        obtain ⟨k, m', A4, c4, rfl, hk, rfl, hm', hf, hb⟩ := hrel
        have HF := Lib.hid hf
        have HB := Lib.hid hb
        have HM' := Lib.hid hm'
        clear hf hb
        by_cases hk8 : k < 8
        · have hms : W0.heap.size ≤ wr.heap.size + 1 := by have := HB.out.size; omega
          have hml' : m' ≤ 1000200 := by omega
          clear hm'
          rw [HU4.out]
          have hsb : (0 : Int) ≤ 56 - 8 * (k : Int) := by omega
          have hsc : 56 - 8 * (k : Int) < 64 := by omega
          have HV := Lib.hid (show (n : Int) * 8 / 2 ^ (56 - 8 * k) % 256 = ((n * 8 / 2 ^ (56 - 8 * k) % 256 : Nat) : Int) from by push_cast; rfl)
          go_wp2_with (at_builtin; refine wpl_fr rfl (.tmp 28) (.tmp 35) rfl rfl (Fr.below HF.out ((Below.refl _ _).alloc (Nat.le_refl _) _)) ⟨wr.heap.size, 0, none⟩ (n * 8 / 2 ^ (56 - 8 * k) % 256) 1 (by rfl) (by rfl) (by rw [← HV.out]; exact cell_of_one (heap_alloc_new _ _)) (by simp; have := HM.out; have := HL.out; have := ln8_len n; omega) (by simp; omega) ?_; intro v1 w3 hf1 hb1)
          obtain ⟨A5, c5, rfl, -, -, -, -⟩ := hf1.rd
          have hL3 : l ++ 128 :: List.replicate (zn n) 0 ++ (ln8 n).take k ++ [n * 8 / 2 ^ (56 - 8 * k) % 256] = l ++ 128 :: List.replicate (zn n) 0 ++ (ln8 n).take (k + 1) := by
            rw [List.append_assoc _ ((ln8 n).take k), List.take_succ_eq_append_getElem (by rw [ln8_len]; exact hk8)]
            simp [ln8]
          have hL2 : (l ++ 128 :: List.replicate (zn n) 0 ++ (ln8 n).take k ++ [n * 8 / 2 ^ (56 - 8 * k) % 256]).length = m' + 1 := by rw [hL3]; simp; have := HM.out; have := HM'.out; have := HL.out; have := ln8_len n; omega
          rw [hL2] at hf1 ⊢
          rw [hL3] at hf1
          have HF1 := Lib.hid hf1
          have HB1 := Lib.hid (show Below W0.heap.size W0 w3 from HB.out.trans ((((Below.refl _ _).alloc (by have := HB.out.size; omega) _ : Below W0.heap.size wr _)).trans hb1))
          clear hf1 hb1 hL2 hL3
          go_wp2_with fail
          go_roundw
          case rel => exact ⟨k + 1, m' + 1, A5, c5, by go_num, by omega, rfl, by have := HM'.out; omega, HF1.out, HB1.out⟩
          case measure => simp [intOf]; omega
        · obtain rfl : k = 8 := by omega
          rw [show (ln8 n).take 8 = ln8 n from List.take_of_length_le (by rw [ln8_len]; omega)] at HF
          have hpl : l ++ 128 :: List.replicate (zn n) 0 ++ ln8 n = padl l := by rw [HL.out]; rfl
          rw [hpl] at HF
          have hN : m' = (padl l).length := by rw [padl_len, ← HL.out]; have := HM.out; have := HM'.out; omega
          obtain ⟨N, hNd⟩ : ∃ N, N = (padl l).length / 64 := ⟨_, rfl⟩
          have hN2 : m' = 64 * N := by rw [hNd, ← padl_mod]; exact hN
          have HPB := Lib.hid (padl_byt HY.out)
          have hNl : 64 * N ≤ 1000000 := by have := HM.out; omega
          obtain rfl := hN2
          have HFIN := Lib.hid (show sumH l = outH (rblk KC N SC (padl l)) from by rw [hNd]; rfl)
          have HLN := Lib.hid hN
          clear hpl hN hNd hm'
          obtain ⟨W2, hW2⟩ : ∃ W2, W2 = wr := ⟨_, rfl⟩
          subst hW2
          go_wp2_with fail
          refine (constants_any W2).mono ?_
          rintro e w3 ⟨rfl, hb3⟩
          obtain ⟨CK, hCK⟩ : ∃ C, C = (wc 64 KC).toArray := ⟨_, rfl⟩
          rw [← hCK]
          have HCK := Lib.hid hCK
          clear hCK
          go_wp2_with fail
          refine (begun_any w3).mono ?_
          rintro e w4 ⟨rfl, hb4⟩
          obtain ⟨CS, hCS⟩ : ∃ C, C = (wc 8 SC).toArray := ⟨_, rfl⟩
          rw [← hCS]
          have HCS := Lib.hid hCS
          clear hCS
          obtain ⟨W5, hW5⟩ : ∃ W, W = (w4.alloc (.cells (wc 64 fun _ => 0).toArray 76)).alloc (.cells (wc 8 fun _ => 0).toArray 79) := ⟨_, rfl⟩
          have HK5 := Lib.hid (show W5.heap[w4.heap.size]? = some (.cells (wc 64 fun _ => 0).toArray 76 (0, 0)) from by rw [hW5]; exact (Below.heap_alloc _ _ _ (by simp)).trans (heap_alloc_new w4 _))
          have HS5 := Lib.hid (show (W5.setRow w4.heap.size CK).heap[w4.heap.size + 1]? = some (.cells (wc 8 fun _ => 0).toArray 79 (0, 0)) from by
            rw [hW5, setRow_other _ _ _ _ (by omega)]
            have := heap_alloc_new (w4.alloc (.cells (wc 64 fun _ => 0).toArray 76)) (.cells (wc 8 fun _ => 0).toArray 79)
            rwa [World.size_alloc] at this)
          have HB5 := Lib.hid (show Below w4.heap.size w4 W5 from by rw [hW5]; exact (by repeat (first | exact Below.refl _ _ | assumption | refine below_drewN ?_ _ | refine Below.drew ?_ | refine Below.alloc ?_ (by simp; try omega) _ | refine Below.setCell ?_ (by simp; try omega) _)))
          have HCKs := Lib.hid (show (Try.prog.info? 76).map (·.size) = some CK.size from by rw [HCK.out]; exact size_w64)
          have HCSs := Lib.hid (show (Try.prog.info? 79).map (·.size) = some CS.size from by rw [HCS.out]; exact size_w8)
          have HCKa := Lib.hid (show CK.all (·.oneCell') = true from by rw [HCK.out]; exact wc_all 64 KC)
          have HCSa := Lib.hid (show CS.all (·.oneCell') = true from by rw [HCS.out]; exact wc_all 8 SC)
          have HCKz := Lib.hid (show (wc 64 fun _ => 0).toArray.size = CK.size from by rw [HCK.out]; simp [wc])
          have HCSz := Lib.hid (show (wc 8 fun _ => 0).toArray.size = CS.size from by rw [HCS.out]; simp [wc])
          have HW5 := Lib.hid hW5
          clear hW5
          dsimp only
          repeat (first
            | refine wpList_store_row (by rfl) 76 (.tmp 6) (.tmp 38) (by rfl) w4.heap.size CK (by rfl) (by rfl) 76 (wc 64 fun _ => 0).toArray (by have h := HK5.out; rw [HW5.out] at h; exact h) HCKs.out HCKz.out HCKa.out ?_
            | refine wpList_store_row (by rfl) 79 (.tmp 7) (.tmp 39) (by rfl) (w4.heap.size + 1) CS (by rfl) (by rfl) 79 (wc 8 fun _ => 0).toArray (by have h := HS5.out; rw [HW5.out] at h; exact h) HCSs.out HCSz.out HCSa.out ?_
            | go_values | go_skip | go_guarded | go_step | go_upon)
          go_wp2_with fail
          change Code.wp _ _ _ _ ((((w4.alloc (.cells (wc 64 fun _ => 0).toArray 76)).alloc (.cells (wc 8 fun _ => 0).toArray 79)).setRow w4.heap.size CK).setRow (w4.heap.size + 1) CS)
          rw [← HW5.out]
          obtain ⟨W6, hW6⟩ : ∃ W, W = (W5.setRow w4.heap.size CK).setRow (w4.heap.size + 1) CS := ⟨_, rfl⟩
          rw [← hW6]
          have HB24 := Lib.hid (show Below W2.heap.size W2 w4 from below_chain hb3 hb4)
          have hg4 := HB24.out.size
          have HB26 := Lib.hid (show Below W2.heap.size W2 W6 from by
            rw [hW6]
            exact below_setRow (below_setRow (below_chain HB24.out HB5.out) (by omega) CK) (by omega) CS)
          have HKW := Lib.hid (show AB W6 76 w4.heap.size 64 KC from by
            rw [hW6]
            unfold AB
            rw [setRow_other _ _ _ _ (by omega), ← HCK.out]
            exact setRow_heap _ _ _ _ _ _ HK5.out)
          have HSW := Lib.hid (show AB W6 79 (w4.heap.size + 1) 8 SC from by
            rw [hW6]
            unfold AB
            rw [← HCS.out]
            exact setRow_heap _ _ _ _ _ _ HS5.out)
          clear hW6
          obtain ⟨g, hg⟩ : ∃ g, g = w4.heap.size := ⟨_, rfl⟩
          rw [← hg] at HKW HSW hg4 ⊢
          have HG := Lib.hid hg
          clear hg HK5 HS5 HB5 HCKs HCSs HCKa HCSa HCKz HCSz HW5 hb3 hb4
          obtain ⟨A5, c5, he5, hbs5, hc5, hm5, -⟩ := HF.out.rd
          rw [← HLN.out] at he5 hc5
          injection he5 with e1 _ e2
          subst e1 e2
          obtain ⟨B0, hB0⟩ : ∃ B, B = W2.heap.size := ⟨_, rfl⟩
          have HBS := Lib.hid (show Bs W6 B0 A4 (padl l) from by rw [hB0]; exact hbs5.below HB26.out)
          rw [← hB0] at HB26 hg4
          have HB0' := Lib.hid hB0
          clear hbs5 hB0
          go_loopw [3] (fun v wr => ∃ (m M : Nat) (A : Option Addr) (c : Nat) (rest : List Nat) (s : Nat → Nat), v = .slice A M c ∧ M = 64 * m ∧ m ≤ N ∧ rest.length = M ∧ Byt rest ∧ Bs wr B0 A rest ∧ (M ≤ c ∧ c ≤ maxLen) ∧ AB wr 79 (g + 1) 8 s ∧ (stOf s).ok ∧ rblk KC m s rest = rblk KC N SC (padl l) ∧ AB wr 76 g 64 KC ∧ Below B0 W2 wr) (fun v _ => (match v with | .slice _ m _ => m | _ => 0))
          case atStart => exact ⟨N, 64 * N, A4, c4, padl l, SC, rfl, rfl, Nat.le_refl _, HLN.out.symm, HPB.out, HBS.out, ⟨hc5, hm5⟩, HSW.out, SC_ok, rfl, HKW.out, HB26.out⟩
          case round =>
            obtain ⟨m, M, A, cM, rest, s, rfl, hM, hmN, hrl, hby, hbs, ⟨hMc, hcm⟩, hS, hok, hfin, hK, hb⟩ := hrel
            have HM := Lib.hid hM
            have HRL := Lib.hid hrl
            have HBY := Lib.hid hby
            have HR := Lib.hid hbs
            have HS := Lib.hid hS
            have HOK := Lib.hid hok
            have HFN := Lib.hid hfin
            have HK := Lib.hid hK
            have HBB := Lib.hid hb
            have hsz := hb.size
            have HSZ := Lib.hid (show B0 ≤ wr.heap.size from by rw [HB0'.out]; exact hsz)
            clear hsz
            have hMl : M ≤ 1000000 := by omega
            clear hM hrl hby hS hok hfin hK hb
            by_cases hm0 : 0 < m
            · have hM64 : 64 ≤ M := by have := HM.out; omega
              have hM0 : 0 < M := by omega
              obtain ⟨bb, off, rfl, hbb, hcell⟩ := hbs (by rw [HRL.out]; exact hM0)
              clear hcell hbs
              obtain ⟨CB, hCB⟩ : ∃ C, C = (wc 8 (blk KC s rest)).toArray := ⟨_, rfl⟩
              have HCB := Lib.hid hCB
              clear hCB
              go_upto_region 14 with (fail)
              refine wp_region_list ?_
              repeat (first
                | refine wpList_load_row (by rfl) 79 (.tmp 7) (by rfl) (g + 1) (by rfl) 79 (wc 8 s).toArray (0, 0) _ HS.out Try.underlying79 (by rfl) size_w8 ?_
                | go_values | go_skip | go_guarded | go_step | go_upon)
              refine (block_any s (some ⟨bb, off, none⟩) cM M g rest KC wr ((Rd.take HR.out (by rw [HRL.out]; exact hM64)).more HSZ.out) hM64 hMl HBY.out HOK.out HK.out).mono ?_
              rintro e w7 ⟨rfl, hb7⟩
              rw [← HCB.out]
              have HCBs := Lib.hid (show (Try.prog.info? 79).map (·.size) = some CB.size from by rw [HCB.out]; exact size_w8)
              have HCBa := Lib.hid (show CB.all (·.oneCell') = true from by rw [HCB.out]; exact wc_all 8 _)
              have HCBz := Lib.hid (show (wc 8 s).toArray.size = CB.size from by rw [HCB.out]; simp [wc])
              have HS7 := Lib.hid (show AB w7 79 (g + 1) 8 s from HS.out.next hb7)
              have HB7 := Lib.hid hb7
              clear hb7
              dsimp only
              repeat (first
                | refine wpList_store_row (by rfl) 79 (.tmp 7) (.tmp 47) (by rfl) (g + 1) CB (by rfl) (by rfl) 79 (wc 8 s).toArray HS7.out HCBs.out HCBz.out HCBa.out ?_
                | go_values | go_skip | go_guarded | go_step | go_upon)
              obtain ⟨W8, hW8⟩ : ∃ W, W = w7.setRow (g + 1) CB := ⟨_, rfl⟩
              have HB8 := Lib.hid (show Below B0 wr W8 from by rw [hW8]; exact below_setRow (HB7.out.mono HSZ.out) (by omega) CB)
              have HS8 := Lib.hid (show AB W8 79 (g + 1) 8 (blk KC s rest) from by rw [hW8]; unfold AB; rw [← HCB.out]; exact setRow_heap _ _ _ _ _ _ HS7.out)
              have HK8 := Lib.hid (show AB W8 76 g 64 KC from by rw [hW8]; unfold AB; rw [setRow_other _ _ _ _ (by omega)]; exact HK.out.next HB7.out)
              have HR8 := Lib.hid (show Bs W8 B0 (some ⟨bb, off, none⟩) rest from Bs.below HR.out HB8.out)
              have HF8 := Lib.hid (show rblk KC (m - 1) (blk KC s rest) (rest.drop 64) = rblk KC N SC (padl l) from by
                rw [← HFN.out]
                obtain ⟨m0, rfl⟩ : ∃ m0, m = m0 + 1 := ⟨m - 1, by omega⟩
                rfl)
              have HBB8 := Lib.hid (show Below B0 W2 W8 from HBB.out.trans HB8.out)
              rw [← hW8]
              clear hW8
              by_cases hc64 : cM = 64
              · subst hc64
                obtain rfl : M = 64 := by omega
                go_wp2_with fail
                have hd : rest.drop 64 = [] := List.drop_of_length_le (by rw [HRL.out]; omega)
                exact ⟨m - 1, 0, _, 0, ⟨rfl, rfl, rfl⟩, by have := HM.out; omega, by omega, rest.drop 64, by rw [hd]; rfl, HBY.out.drop 64, by rw [hd]; exact Bs.nil, ⟨Nat.le_refl _, Nat.zero_le _⟩, blk KC s rest, HS8.out, blk_ok _ _ _, HF8.out, HK8.out, HBB8.out⟩
              · go_wp2_with fail
                exact ⟨⟨m - 1, M - 64, _, cM - 64, ⟨rfl, rfl, rfl⟩, by have := HM.out; omega, by omega, rest.drop 64, by rw [List.length_drop, HRL.out], HBY.out.drop 64, Bs.dropAt HR8.out 64, ⟨by omega, by omega⟩, blk KC s rest, HS8.out, blk_ok _ _ _, HF8.out, HK8.out, HBB8.out⟩, by omega⟩
            · obtain rfl : m = 0 := by omega
              obtain rfl : M = 0 := HM.out
              have HSUM := Lib.hid (show sumH l = outH s from by rw [HFIN.out, ← HFN.out]; rfl)
              clear hm0 hbs
              have HLT := Lib.hid (show w.heap.size < B0 from by rw [HB0'.out]; have := HB.out.size; have := HS0.out; omega)
              have HOUT := Lib.hid (show wr.heap[w.heap.size]? = some (.cells (hc fun _ => 0) 33 (0, 0)) from by
                rw [HBB.out.block _ HLT.out, HB.out.block _ (by have := HS0.out; omega)]
                exact HO0.out)
              have HBW := Lib.hid (show Below w.heap.size w wr from HB0.out.trans ((HB.out.mono (by have := HS0.out; omega)).trans (HBB.out.mono (Nat.le_of_lt HLT.out))))
              obtain ⟨W9, hW9⟩ : ∃ W, W = wr := ⟨_, rfl⟩
              subst hW9
              go_wp2_with fail
              have hg5 := HLT.out
              go_loopw [48] (fun i wr => ∃ k : Nat, i = .int .i64 (k : Int) ∧ k ≤ 32 ∧ wr.heap[w.heap.size]? = some (.cells (hc fun j => if j < k then outH s j else 0) 33 (0, 0)) ∧ AB wr 79 (g + 1) 8 s ∧ Below w.heap.size w wr) (fun i _ => (32 - intOf i).toNat)
              case atStart => exact ⟨0, rfl, by omega, by rw [HOUT.out]; exact congrArg some (congrArg (fun c => Obj.cells c 33 (0, 0)) (hc_congr fun j _ => (if_neg (Nat.not_lt_zero j)).symm)), HS.out, HBW.out⟩
              case round =>
                obtain ⟨k, rfl, hk, ho, hs, hb⟩ := hrel
                have HO := Lib.hid ho
                have HS' := Lib.hid hs
                have HB' := Lib.hid hb
                by_cases hk32 : k < 32
                · have hc1 := hs.cell (j := k / 4) (by omega)
                  have hc2 : wr.cell? ⟨w.heap.size, k, none⟩ = some (.int .u8 ((if k < k then outH s k else 0 : Nat) : Int)) := by rw [cell_of_row _ _ _ _ _ _ ho]; exact hc_get _ hk32
                  have hc3 : wr.frozen? ⟨w.heap.size, k, none⟩ = false := frozen_of_row _ _ _ _ _ ho
                  have hk4 : (k : Int) / 4 < 8 := by omega
                  have hk5 : 0 ≤ (k : Int) / 4 := by omega
                  clear ho hs hb
                  go_wp2_with fail
                  have hv : ((s (k / 4) : Nat) : Int) / 2 ^ (24 - 8 * (k % 4)) % 256 = ((outH s k : Nat) : Int) := by unfold outH; push_cast; rfl
                  rw [hv]
                  refine ⟨⟨k + 1, by go_num, by omega, ?_, HS'.out.far (p := ⟨w.heap.size, k, none⟩) (by show g + 1 ≠ w.heap.size; omega) _, HB'.out.setCell (p := ⟨w.heap.size, k, none⟩) (Nat.le_refl _) _⟩, by simp [intOf]; omega⟩
                  rw [hbox_set HO.out]
                  refine congrArg some (congrArg (fun c => Obj.cells c 33 (0, 0)) (hc_congr fun j hj => ?_))
                  by_cases h1 : j = k
                  · rw [if_pos h1, if_pos (by omega), h1]
                  · rw [if_neg h1]
                    by_cases h2 : j < k
                    · rw [if_pos h2, if_pos (by omega)]
                    · rw [if_neg h2, if_neg (by omega)]
                · obtain rfl : k = 32 := by omega
                  obtain ⟨C, hC⟩ : ∃ C, C = hc (outH s) := ⟨_, rfl⟩
                  have HOC := Lib.hid (show wr.heap[w.heap.size]? = some (.cells C 33 (0, 0)) from by rw [ho, hC]; exact congrArg some (congrArg (fun c => Obj.cells c 33 (0, 0)) (hc_congr fun j hj => if_pos hj)))
                  have HCs := Lib.hid (show (Try.prog.info? 33).map (·.size) = some C.size from by rw [hC]; exact size_hc)
                  have HCa := Lib.hid (show C.all (·.oneCell') = true from by rw [hC]; exact hc_all _)
                  have HC := Lib.hid hC
                  clear hC ho hs hb
                  go_upto_region 20 with (fail)
                  refine wp_region_list ?_
                  refine wpList_load_row rfl 33 (.tmp 2) rfl w.heap.size rfl 33 C (0, 0) _ HOC.out Try.underlying33 rfl HCs.out ?_
                  refine wpList_store_row rfl 33 (.tmp 2) (.tmp 64) rfl w.heap.size C rfl rfl 33 C HOC.out HCs.out rfl HCa.out ?_
                  go_wp2_with fail
                  exact bodyPost_ret (v := .agg C) (results_cell_row (by rfl) _ _ w.heap.size 33 _ (0, 0) _ (by rfl) (setRow_heap _ _ _ _ _ _ HOC.out) Try.underlying33 (by rfl) HCs.out) rfl ⟨by rw [← HN.out, HSUM.out, HC.out], below_setRow HB'.out (Nat.le_refl _) C⟩
end Go.Proofs.Ytmpbimechgelfaa

/- ShaKeys holds: a key with bytes 0 behind, up to 64 bytes, codes as without them, and one that is too long as its digest. Conditions: none. -/
import Derived.Test.YtmpbimechgelfaaOb
namespace Go.Proofs.Ytmpbimechgelfaa
open Go.ChangeShapes Go.WideShapes Go.ChangeAt Go.RowKit Go.Joins Go.Deep

/-- A key with bytes 0 behind. -/
def kz (k : List Nat) (q : Nat) : List Nat := keyN k ++ List.replicate q 0
theorem kz_len (k : List Nat) (q : Nat) : (kz k q).length = (keyN k).length + q := by simp [kz]
theorem kz_snoc (k : List Nat) (q : Nat) : kz k q ++ [0] = kz k (q + 1) := by unfold kz; rw [List.append_assoc, List.replicate_succ']
theorem kz_at (k : List Nat) (q i : Nat) : (kz k q)[i]?.getD 0 = (keyN k)[i]?.getD 0 := by
  unfold kz
  by_cases h : i < (keyN k).length
  · rw [List.getElem?_append_left h]
  · rw [List.getElem?_append_right (by omega), List.getElem?_eq_none (l := keyN k) (by omega)]
    by_cases h2 : i - (keyN k).length < q
    · rw [List.getElem?_replicate, if_pos h2]; rfl
    · rw [List.getElem?_eq_none (by rw [List.length_replicate]; omega)]
theorem code_kz (k t : List Nat) (q : Nat) (h : (kz k q).length ≤ 64) : codeH (kz k q) t = codeH k t := by
  have e : keyN (kz k q) = kz k q := by unfold keyN; rw [if_neg (by omega)]
  have e2 : ∀ x, xorK (kz k q) x = xorK (keyN k) x := fun x => List.map_congr_left fun i _ => by rw [kz_at]
  unfold codeH
  rw [e, e2, e2]
theorem kz_byt {k : List Nat} (h : Byt k) (q : Nat) : Byt (kz k q) := (keyN_byt h).app (by intro x hx; rw [List.eq_of_mem_replicate hx]; decide)
set_option maxRecDepth 100000 in
set_option maxHeartbeats 8000000 in
theorem shaKeys_walk (w : World) (A1 : Option Addr) (c1 : Nat) (k : List Nat) (h1 : InB w A1 c1 k) (A2 : Option Addr) (c2 : Nat) (t : List Nat) (h2 : InB w A2 c2 t) :
    Calls Try.prog 8 #[.slice A1 k.length c1, .slice A2 t.length c2] w fun e w' => e = .returned (.bool true) ∧ Below w.heap.size w w' := by
  have HI1 := Lib.hid h1
  have HI2 := Lib.hid h2
  have hcm1 : k.length ≤ maxLen := by have := h1.cap; omega
  have hcm2 : t.length ≤ maxLen := by have := h2.cap; omega
  unfold maxLen at hcm1 hcm2
  obtain ⟨n, hn⟩ : ∃ n, n = k.length := ⟨_, rfl⟩
  obtain ⟨m, hm⟩ : ∃ m, m = t.length := ⟨_, rfl⟩
  rw [← hn] at hcm1 ⊢
  rw [← hm] at hcm2 ⊢
  have HN := Lib.hid hn
  have HM := Lib.hid hm
  clear h1 h2 hn hm
  go_enter Try.func8, Try.ntmps8
  go_wp2_with fail
  refine (awake_any _).mono ?_
  rintro e w1 ⟨rfl, hb1⟩
  have HB1 := Lib.hid hb1
  have HK := Lib.hid (HI1.out.next hb1)
  have HT := Lib.hid (HI2.out.next hb1)
  clear HI1 HI2 hb1
  by_cases hk500 : n ≤ 500
  · by_cases ht500 : m ≤ 500
    · have hd1 : decide ((500 : Int) < (n : Int)) = false := by simp; omega
      have hd2 : decide ((500 : Int) < (m : Int)) = false := by simp; omega
      obtain ⟨B0, hB0⟩ : ∃ B, B = w1.heap.size := ⟨_, rfl⟩
      have hB0' : B0 ≤ w1.heap.size := by omega
      have HAP := Lib.hid (show Bs (w1.alloc (.cells #[] 5)) w1.heap.size A1 k from Bs.below HK.out.bs ((Below.refl _ _).alloc (Nat.le_refl _) _))
      have hnone := Lib.hid (fun e => (HK.out.none_ e).2)
      by_cases hk64 : n ≤ 64
      · have hd3 : decide ((64 : Int) < (n : Int)) = false := by simp; omega
        have HKN := Lib.hid (show keyN k = k from by unfold keyN; rw [if_neg (by rw [← HN.out]; omega)])
        have HBE := Lib.hid hB0
        have HTR0 := Lib.hid HK.out.byt
        clear hB0
        go_wp2_with (at_builtin; refine wpl_ob rfl (.tmp 18) (.tmp 19) rfl rfl (Ob.empty w1 hB0') A1 n c1 HN.out (by rfl) (by rfl) HAP.out hnone.out (by simp; have := HN.out; omega) (by simp; omega) ?_; intro v1 w2 hob1 hg1 hbl1)
        rw [List.nil_append] at hob1
        obtain ⟨A3, c3, rfl, -, -, -, -⟩ := hob1.rd
        have HOB := Lib.hid hob1
        have HB2 := Lib.hid (show Below B0 w1 w2 from ((Below.refl _ _).alloc hB0' _).trans hbl1)
        clear hob1 hg1 hbl1 HAP hnone
        rw [← HN.out] at HOB ⊢
        go_loopw [6] (fun v wr => ∃ (q m' : Nat) (A : Option Addr) (c : Nat), v = .slice A m' c ∧ m' = (keyN k).length + q ∧ m' ≤ 64 ∧ Ob wr B0 (.slice A m' c) (kz k q) ∧ Below B0 w1 wr) (fun v _ => (64 - (match v with | .slice _ m _ => m | _ => 0)))
        case atStart => exact ⟨0, n, A3, c3, rfl, by rw [HKN.out]; exact HN.out, hk64, by unfold kz; rw [HKN.out, List.replicate_zero, List.append_nil]; exact HOB.out, HB2.out⟩
        case round =>
          obtain ⟨q, m', A4, c4, rfl, hm', hm64, hob, hb⟩ := hrel
          have HOB4 := Lib.hid hob
          have HB4 := Lib.hid hb
          have HM4 := Lib.hid hm'
          have hBs : B0 ≤ wr.heap.size := by have h1 := hb.size; omega
          clear hob hb hm'
          by_cases hlt : m' < 64
          · have HONE := Lib.hid (Bs.ofOne wr 0)
            go_wp2_with (at_builtin; refine wpl_ob rfl (.tmp 33) (.tmp 34) rfl rfl (Ob.alloc HOB4.out (.cells #[.int .u8 ((0 : Nat) : Int)] 5)) (some ⟨wr.heap.size, 0, none⟩) 1 1 (by rfl) (by rfl) (by rfl) HONE.out (by intro h; cases h) (by rw [kz_len, ← HM4.out]; simp; omega) (by simp; omega) ?_; intro v5 w5 hob5 hg5 hbl5)
            rw [kz_snoc] at hob5
            obtain ⟨A5, c5, rfl, -, -, -, -⟩ := hob5.rd
            have hl5 : (kz k (q + 1)).length = m' + 1 := by rw [kz_len]; have := HM4.out; omega
            rw [hl5] at hob5 ⊢
            have HOB5 := Lib.hid hob5
            have HB5 := Lib.hid (show Below B0 w1 w5 from (HB4.out.alloc hBs _).trans hbl5)
            clear hob5 hg5 hbl5 hl5
            go_wp2_with fail
            go_roundw
            case rel => exact ⟨q + 1, m' + 1, A5, c5, rfl, by have := HM4.out; omega, by omega, HOB5.out, HB5.out⟩
            case measure => simp; omega
          · obtain rfl : m' = 64 := by omega
            obtain ⟨-, hbs4, hc4a, hc4b⟩ := HOB4.out.sl
            have HBS4 := Lib.hid hbs4
            have HKR := Lib.hid (HK.out.next (show Below w1.heap.size w1 wr from by have := HB4.out; rw [HBE.out] at this; exact this))
            have HTR := Lib.hid (HT.out.next (show Below w1.heap.size w1 wr from by have := HB4.out; rw [HBE.out] at this; exact this))
            have HZL := Lib.hid (show (kz k q).length = 64 from by rw [kz_len]; have := HM4.out; omega)
            obtain ⟨D, hD⟩ : ∃ D, D = hc (codeH k t) := ⟨_, rfl⟩
            have HC1 : Hid (Calls Try.prog 30 #[.slice A4 64 c4, .slice A2 m c2] wr fun e w' => e = .returned (.agg D) ∧ Below wr.heap.size wr w') := Lib.hid (by
              have h := code_any A4 A2 c4 c2 (kz k q) t wr HBS4.out HTR.out.bs (kz_byt HTR0.out q) HTR.out.byt (by rw [HZL.out]; omega) (by rw [← HM.out]; omega)
              rw [HZL.out, ← HM.out, code_kz k t q (by rw [HZL.out]; omega), ← hD] at h
              exact h)
            have HC2 : Hid (∀ W, Below wr.heap.size wr W → Calls Try.prog 30 #[.slice A1 n c1, .slice A2 m c2] W fun e w' => e = .returned (.agg D) ∧ Below W.heap.size W w') := Lib.hid fun W hb => by
              have h := code_any A1 A2 c1 c2 k t W (HKR.out.next hb).bs (HTR.out.next hb).bs HKR.out.byt HTR.out.byt (by rw [← HN.out]; omega) (by rw [← HM.out]; omega)
              rw [← HN.out, ← HM.out, ← hD] at h
              exact h
            have hev : ∀ W, (Op.equalIn 10000 33 (.agg D) (.agg D)).run Try.prog W = .ok true W := fun W => by rw [hD, eq_hash, eqh_self]
            clear hD hbs4 HBS4
            go_wp2_with fail
            refine (Hid.out HC1).mono ?_
            rintro e w6 ⟨rfl, hb6⟩
            have HB6 := Lib.hid hb6
            clear hb6
            go_wp2_with fail
            refine (Hid.out HC2 _ HB6.out).mono ?_
            rintro e w7 ⟨rfl, hb7⟩
            have HB7 := Lib.hid hb7
            clear hb7
            go_wp2_with fail
            go_ret
            have hq := HB4.out
            rw [HBE.out] at hq
            exact ⟨rfl, below_chain HB1.out (below_chain (below_chain hq HB6.out) HB7.out)⟩
      · have hd3 : decide ((64 : Int) < (n : Int)) = true := by simp; omega
        have HKN := Lib.hid (show keyN k = hl (sumH k) from by unfold keyN; rw [if_pos (by rw [← HN.out]; omega)])
        have HBE := Lib.hid hB0
        have HTR0 := Lib.hid HK.out.byt
        go_upto_region 6 with (at_builtin; refine wpl_ob rfl (.tmp 18) (.tmp 19) rfl rfl (Ob.empty w1 hB0') A1 n c1 HN.out (by rfl) (by rfl) HAP.out hnone.out (by simp; have := HN.out; omega) (by simp; omega) ?_; intro v1 w2 hob1 hg1 hbl1)
        rw [List.nil_append] at hob1
        obtain ⟨A3, c3, rfl, -, -, -, -⟩ := hob1.rd
        have HOB := Lib.hid hob1
        have HB2 := Lib.hid (show Below B0 w1 w2 from ((Below.refl _ _).alloc hB0' _).trans hbl1)
        clear hob1 hg1 hbl1 HAP hnone
        have HKB2 := Lib.hid (HK.out.next (show Below w1.heap.size w1 w2 from by have := HB2.out; rw [HBE.out] at this; exact this))
        have hsz2 : B0 ≤ w2.heap.size := by have := HB2.out.size; omega
        clear hB0
        refine wp_region_list ?_
        repeat (first | go_values | go_skip | go_guarded | go_step | go_upon)
        refine (sum_any _ 1 [.slice A1 n c1] [k] _ (by have h := Prt.one (t := 31) (c := c1) HKB2.out.bs HKB2.out.byt; rw [← HN.out] at h; exact h) (Nat.le_refl _) (by simp) (by simp; have := HN.out; omega)).mono ?_
        rintro e w3 ⟨rfl, hb3⟩
        obtain ⟨C1, hC1⟩ : ∃ C, C = hc (sumH k) := ⟨_, rfl⟩
        rw [show hc (sumH [k].flatten) = C1 from by rw [hC1]; simp]
        have HC1s := Lib.hid (show (Try.prog.info? 33).map (·.size) = some C1.size from by rw [hC1]; exact size_hc)
        have HC1a := Lib.hid (show C1.all (·.oneCell') = true from by rw [hC1]; exact hc_all _)
        have HC1z := Lib.hid (show (hc fun _ => 0).size = C1.size from by rw [hC1, hc_size, hc_size])
        have HCV := Lib.hid hC1
        have HB3 := Lib.hid (show Below B0 w1 w3 from HB2.out.trans ((below_chain ((Below.refl _ _).alloc (Nat.le_refl _) _) hb3).mono hsz2))
        clear hC1 hb3
        dsimp only
        go_step
        go_step
        go_step
        go_step
        refine wpList_store_row (by rfl) 33 (.tmp 7) (.tmp 26) (by rfl) w3.heap.size C1 (by rfl) (by rfl) 33 (hc fun _ => 0) (by exact heap_alloc_new w3 _) HC1s.out HC1z.out HC1a.out ?_
        obtain ⟨W4, hW4⟩ : ∃ W, W = (w3.alloc (.cells (hc fun _ => 0) 33)).setRow w3.heap.size C1 := ⟨_, rfl⟩
        change wpList _ _ _ _ _ ((w3.alloc (.cells (hc fun _ => 0) 33)).setRow w3.heap.size C1)
        simp only [Act.put]
        rw [← hW4]
        have HX4 := Lib.hid (show Bs W4 W4.heap.size (some ⟨w3.heap.size, 0, none⟩) (hl (sumH k)) from Bs.box (by rw [← HCV.out]; exact (box_made hW4).1) (by rw [hW4]; simp [World.setRow]))
        have hb34 := (box_made hW4).2
        have HB4 := Lib.hid (show Below B0 w1 W4 from HB3.out.trans (hb34.mono (by have := HB3.out.size; omega)))
        obtain ⟨g, hg⟩ : ∃ g, g = w3.heap.size := ⟨_, rfl⟩
        rw [← hg] at HX4 ⊢
        have hB4s : B0 ≤ W4.heap.size := by have := HB4.out.size; omega
        have HX4b := Lib.hid (show Bs (W4.alloc (.cells #[] 5)) W4.heap.size (some ⟨g, 0, none⟩) (hl (sumH k)) from Bs.below HX4.out ((Below.refl _ _).alloc (Nat.le_refl _) _))
        have hl32 : 32 = (hl (sumH k)).length := (hl_len _).symm
        have HL32 := Lib.hid hl32
        clear hW4 hg hl32 hb34 HC1s HC1a HC1z
        go_wp2_with (at_builtin; refine wpl_ob rfl (.tmp 27) (.tmp 28) rfl rfl (Ob.empty W4 hB4s) (some ⟨g, 0, none⟩) 32 32 HL32.out (by rfl) (by rfl) HX4b.out (by intro h; cases h) (by rw [← HL32.out]; simp) (by simp; omega) ?_; intro v5 w5 hob5 hg5 hbl5)
        rw [List.nil_append] at hob5
        obtain ⟨A3, c3, rfl, -, -, -, -⟩ := hob5.rd
        rw [← HL32.out] at hob5 ⊢
        replace HOB := Lib.hid hob5
        replace HB2 := Lib.hid (show Below B0 w1 w5 from (HB4.out.alloc hB4s _).trans hbl5)
        clear hob5 hg5 hbl5
        go_wp2_with fail
        go_loopw [6] (fun v wr => ∃ (q m' : Nat) (A : Option Addr) (c : Nat), v = .slice A m' c ∧ m' = (keyN k).length + q ∧ m' ≤ 64 ∧ Ob wr B0 (.slice A m' c) (kz k q) ∧ Below B0 w1 wr) (fun v _ => (64 - (match v with | .slice _ m _ => m | _ => 0)))
        case atStart => exact ⟨0, 32, A3, c3, rfl, by rw [HKN.out]; exact HL32.out, by omega, by unfold kz; rw [HKN.out, List.replicate_zero, List.append_nil]; exact HOB.out, HB2.out⟩
        case round =>
          obtain ⟨q, m', A4, c4, rfl, hm', hm64, hob, hb⟩ := hrel
          have HOB4 := Lib.hid hob
          have HB4 := Lib.hid hb
          have HM4 := Lib.hid hm'
          have hBs : B0 ≤ wr.heap.size := by have h1 := hb.size; omega
          clear hob hb hm'
          by_cases hlt : m' < 64
          · have HONE := Lib.hid (Bs.ofOne wr 0)
            go_wp2_with (at_builtin; refine wpl_ob rfl (.tmp 33) (.tmp 34) rfl rfl (Ob.alloc HOB4.out (.cells #[.int .u8 ((0 : Nat) : Int)] 5)) (some ⟨wr.heap.size, 0, none⟩) 1 1 (by rfl) (by rfl) (by rfl) HONE.out (by intro h; cases h) (by rw [kz_len, ← HM4.out]; simp; omega) (by simp; omega) ?_; intro v5 w5 hob5 hg5 hbl5)
            rw [kz_snoc] at hob5
            obtain ⟨A5, c5, rfl, -, -, -, -⟩ := hob5.rd
            have hl5 : (kz k (q + 1)).length = m' + 1 := by rw [kz_len]; have := HM4.out; omega
            rw [hl5] at hob5 ⊢
            have HOB5 := Lib.hid hob5
            have HB5 := Lib.hid (show Below B0 w1 w5 from (HB4.out.alloc hBs _).trans hbl5)
            clear hob5 hg5 hbl5 hl5
            go_wp2_with fail
            go_roundw
            case rel => exact ⟨q + 1, m' + 1, A5, c5, rfl, by have := HM4.out; omega, by omega, HOB5.out, HB5.out⟩
            case measure => simp; omega
          · obtain rfl : m' = 64 := by omega
            obtain ⟨-, hbs4, hc4a, hc4b⟩ := HOB4.out.sl
            have HBS4 := Lib.hid hbs4
            have HKR := Lib.hid (HK.out.next (show Below w1.heap.size w1 wr from by have := HB4.out; rw [HBE.out] at this; exact this))
            have HTR := Lib.hid (HT.out.next (show Below w1.heap.size w1 wr from by have := HB4.out; rw [HBE.out] at this; exact this))
            have HZL := Lib.hid (show (kz k q).length = 64 from by rw [kz_len]; have := HM4.out; omega)
            obtain ⟨D, hD⟩ : ∃ D, D = hc (codeH k t) := ⟨_, rfl⟩
            have HC1 : Hid (Calls Try.prog 30 #[.slice A4 64 c4, .slice A2 m c2] wr fun e w' => e = .returned (.agg D) ∧ Below wr.heap.size wr w') := Lib.hid (by
              have h := code_any A4 A2 c4 c2 (kz k q) t wr HBS4.out HTR.out.bs (kz_byt HTR0.out q) HTR.out.byt (by rw [HZL.out]; omega) (by rw [← HM.out]; omega)
              rw [HZL.out, ← HM.out, code_kz k t q (by rw [HZL.out]; omega), ← hD] at h
              exact h)
            have HC2 : Hid (∀ W, Below wr.heap.size wr W → Calls Try.prog 30 #[.slice A1 n c1, .slice A2 m c2] W fun e w' => e = .returned (.agg D) ∧ Below W.heap.size W w') := Lib.hid fun W hb => by
              have h := code_any A1 A2 c1 c2 k t W (HKR.out.next hb).bs (HTR.out.next hb).bs HKR.out.byt HTR.out.byt (by rw [← HN.out]; omega) (by rw [← HM.out]; omega)
              rw [← HN.out, ← HM.out, ← hD] at h
              exact h
            have hev : ∀ W, (Op.equalIn 10000 33 (.agg D) (.agg D)).run Try.prog W = .ok true W := fun W => by rw [hD, eq_hash, eqh_self]
            clear hD hbs4 HBS4
            go_wp2_with fail
            refine (Hid.out HC1).mono ?_
            rintro e w6 ⟨rfl, hb6⟩
            have HB6 := Lib.hid hb6
            clear hb6
            go_wp2_with fail
            refine (Hid.out HC2 _ HB6.out).mono ?_
            rintro e w7 ⟨rfl, hb7⟩
            have HB7 := Lib.hid hb7
            clear hb7
            go_wp2_with fail
            go_ret
            have hq := HB4.out
            rw [HBE.out] at hq
            exact ⟨rfl, below_chain HB1.out (below_chain (below_chain hq HB6.out) HB7.out)⟩
    · have hd1 : decide ((500 : Int) < (n : Int)) = false := by simp; omega
      have hd2 : decide ((500 : Int) < (m : Int)) = true := by simp; omega
      go_wp2_with fail
      go_ret
      exact ⟨rfl, HB1.out⟩
  · have hd1 : decide ((500 : Int) < (n : Int)) = true := by simp; omega
    go_wp2_with fail
    go_ret
    exact ⟨rfl, HB1.out⟩

set_option maxRecDepth 100000 in
theorem shaKeys_lifted (os : Os) (started : os.Started) (H : Type) (enc : TypeId × Value → H) :
    ReturnsInHanded {} Try.checked os 8 .any (Rows.shaKeysSpec.pre6 enc Try.prog Try.f8 Rows.shaKeysRow.domain false) (Rows.shaKeysSpec.post enc Try.prog Try.f8 false true false false) := by
  refine returnsInHanded_of_change (C := Try.checked) own started (by kernel_rfl) Try.func8
    (ChangeSpec.witness6 (enc := enc) (C := Try.checked) false ⟨#[], #[.slice none 0 0, .slice none 0 0], []⟩ 8 (by kernel_rfl) (by kernel_rfl) (by kernel_rfl) (by kernel_rfl)) ?_
  intro W base args ds gs before hval0 hW _ _
  have hval : ∀ (j : Nat) t v, Try.f8.params[j]? = some t → args[j]? = some v → Value.okWide Try.prog W .any base t v := hval0
  have hW' := hW
  obtain ⟨p, q, hA0, hV, rfl, _, _⟩ := hW
  have hA : DataW.TrodAll enc Try.prog W 0 (fun _ => true) true Try.f8.params.toList args.toList ds p := hA0
  rw [Try.params8] at hA hval
  obtain ⟨v0, vs0, d0, ds0, p0, q0, hargs, rfl, rfl, h0, r0⟩ := trodAll_cons hA
  obtain ⟨v1, vs1, d1, ds1, p1, q1, rfl, rfl, rfl, h1, r1⟩ := trodAll_cons r0
  obtain ⟨rfl, rfl, rfl⟩ := trodAll_nil r1
  obtain rfl : args = #[v0, v1] := by cases args; simp_all
  obtain ⟨rfl, rfl⟩ := trodVars_none hV
  have k0 := h0
  have lt0 : ∀ x ∈ p0, x.block < W.heap.size := by obtain ⟨m, hm⟩ := k0; exact DataW.trod_lt m _ _ _ hm
  obtain ⟨A0, c0, l0, rfl, b0⟩ := open_B (hval 0 31 v0 rfl rfl) h0
  have k1 := h1
  have lt1 : ∀ x ∈ p1, x.block < W.heap.size := by obtain ⟨m, hm⟩ := k1; exact DataW.trod_lt m _ _ _ hm
  obtain ⟨A1, c1, l1, rfl, b1⟩ := open_B (hval 1 31 v1 rfl rfl) h1
  clear hA0 hval0 hval
  refine (shaKeys_walk W A0 c0 l0 b0 A1 c1 l1 b1).mono fun e W' ⟨he, bel⟩ => ?_
  subst he
  exact ⟨_, rfl, _, _, _, [], _, [], hW', trodAll_mk1 (shut_bool Try.underlying4 _), (trodAll_cons_mk (Below.trod laidOut (by kernel_rfl) (of_decide_eq_true (by kernel_rfl)) k0 bel lt0) (trodAll_cons_mk (Below.trod laidOut (by kernel_rfl) (of_decide_eq_true (by kernel_rfl)) k1 bel lt1) trodAll_mk0)), rfl, bel.frame _, fun h => by cases h⟩

theorem shaKeys_holds : Rows.ShaKeysSaid :=
  OpenClaim.holds_of_wide 8 Try.f8 rfl rfl rfl rfl rfl rfl rfl ⟨rfl, rfl, rfl, rfl, rfl⟩ rfl rfl rfl rfl rfl (by kernel_rfl) Try.func8 (by kernel_rfl)
    (of_decide_eq_true (by kernel_rfl)) (by unfold Func.isWrapper; first | (rw [if_pos (by decide +kernel)]; kernel_rfl) | (rw [if_neg (by decide +kernel)]; exact ⟨rfl, rfl⟩))
    (fun os started H enc _ => shaKeys_lifted os started H enc)
#print axioms shaKeys_holds
end Go.Proofs.Ytmpbimechgelfaa

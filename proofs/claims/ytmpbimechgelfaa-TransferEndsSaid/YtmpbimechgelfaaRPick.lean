/- The document's Pick. -/
import Derived.Test.YtmpbimechgelfaaPick
namespace Go.Proofs.Ytmpbimechgelfaa
open Go Go.RowKit

theorem plc_onto {n a q : Nat} (hq : q < n) : ∃ k, k < n ∧ plc n a k = q := by
  have ha : a % n < n := Nat.mod_lt _ (by omega)
  refine ⟨(q + n - a % n) % n, Nat.mod_lt _ (by omega), ?_⟩
  unfold plc
  rw [Nat.add_mod_mod, show a % n + (q + n - a % n) = q + n from by omega, Nat.add_mod_right, Nat.mod_eq_of_lt hq]
/-- Has any the chunk c? -/
def someB (ls : List (List Bool)) (c : Nat) : Bool := ls.any fun l => hasB l c
theorem who_some (ls : List (List Bool)) (d c : Nat) : (whoN ls d c).isSome = someB ls c := by
  rw [Bool.eq_iff_iff]
  unfold someB
  rw [List.any_eq_true, Option.isSome_iff_exists]
  constructor
  · rintro ⟨q, hq⟩
    have hq' : ((List.range ls.length).map (plc ls.length (d / 4294967296))).find? (fun q => hasB (ls[q]?.getD []) c) = some q := hq
    have h1 := List.find?_some hq'
    have h2 := List.mem_of_find?_eq_some hq'
    simp only [List.mem_map, List.mem_range] at h2
    obtain ⟨k, hk, rfl⟩ := h2
    have hlt := plc_lt (n := ls.length) (a := d / 4294967296) (k := k) (by omega)
    rw [List.getElem?_eq_getElem hlt] at h1
    exact ⟨_, List.getElem_mem hlt, h1⟩
  · rintro ⟨l, hl, h1⟩
    obtain ⟨q, hq, rfl⟩ := List.getElem_of_mem hl
    obtain ⟨k, hk, e⟩ := plc_onto (a := d / 4294967296) hq
    cases hw : whoN ls d c with
    | some x => exact ⟨x, rfl⟩
    | none =>
      unfold whoN rndP at hw
      rw [List.find?_eq_none] at hw
      have h2 := hw (plc ls.length (d / 4294967296) k) (by simp only [List.mem_map, List.mem_range]; exact ⟨k, hk, rfl⟩)
      rw [e, List.getElem?_eq_getElem hq] at h2
      exact absurd h1 h2
theorem rhas_any (l : List Bool) (A : Option Addr) (c i : Nat) (w : World) (h : Bo w w.heap.size A l) (hl : l.length ≤ maxLen) (hi : i ≤ 1000) :
    Calls Try.prog 42 #[.slice A l.length c, .int .i64 (i : Int)] w fun e w' => e = .returned (.bool (hasB l i)) ∧ w' = w := by
  obtain ⟨r, hr⟩ : ∃ r, r = hasB l i := ⟨_, rfl⟩
  rw [← hr]
  have HR := Lib.hid hr
  obtain ⟨n, hn⟩ : ∃ n, n = l.length := ⟨_, rfl⟩
  rw [← hn] at hl ⊢
  unfold maxLen at hl
  have HN := Lib.hid hn
  clear hr hn
  by_cases hlt : i < n
  · obtain ⟨b, off, rfl, hb, hc⟩ := h (by rw [← HN.out]; omega)
    have ck : w.cell? ⟨b, off + i, none⟩ = some (.bool r) := by rw [hc i (by rw [← HN.out]; omega), HR.out]; rfl
    have hcI : (i : Int) < (n : Int) := by omega
    have hd : decide (i < n) = true := by simpa using hlt
    clear hc hb
    go_enter Try.func42, Try.ntmps42
    go_wp2_with fail
    go_ret
    exact ⟨rfl, rfl⟩
  · have hd : decide (i < n) = false := by simpa using hlt
    have HE := Lib.hid (show r = false from by rw [HR.out]; unfold hasB; rw [List.getElem?_eq_none (by rw [← HN.out]; omega)]; rfl)
    clear h
    go_enter Try.func42, Try.ntmps42
    go_wp2_with fail
    go_ret
    exact ⟨by rw [HE.out]; rfl, rfl⟩
theorem some_any (A : Option Addr) (cp : Nat) (vs : List Value) (ls : List (List Bool)) (i : Nat) (w : World) (hp : Pb w w.heap.size A vs ls) (hm : ls.length ≤ 1000) (hi : i ≤ 1000) :
    Calls Try.prog 41 #[.slice A ls.length cp, .int .i64 (i : Int)] w fun e w' => e = .returned (.bool (someB ls i)) ∧ w' = w := by
  obtain ⟨r, hr⟩ : ∃ r, r = someB ls i := ⟨_, rfl⟩
  rw [← hr]
  have HR := Lib.hid hr
  have HP := Lib.hid hp
  obtain ⟨m, hmm⟩ : ∃ n, n = ls.length := ⟨_, rfl⟩
  rw [← hmm] at hm ⊢
  have HM := Lib.hid hmm
  have HI := Lib.hid hi
  clear hr hp hmm hi
  go_enter Try.func41, Try.ntmps41
  go_wp2_with fail
  go_loop [5] (fun v => ∃ j : Nat, v = .int .i64 (j : Int) ∧ j ≤ m ∧ ∀ q, q < j → hasB (ls[q]?.getD []) i = false) (fun v => (m - intOf v).toNat)
  case atStart => exact ⟨0, rfl, Nat.zero_le _, fun q hq => absurd hq (by omega)⟩
  case round =>
    obtain ⟨j, rfl, hj, hk⟩ := hrel
    have HK := Lib.hid hk
    clear hk
    by_cases hlt : j < m
    · obtain ⟨b, off, A', c', rfl, hb, hcell, hbo, hml⟩ := HP.out.at_ (i := j) (by rw [← HM.out]; exact hlt)
      have HC := Lib.hid (rhas_any (ls[j]?.getD []) A' c' i w hbo hml HI.out)
      obtain ⟨n', hn'⟩ : ∃ n, n = (ls[j]?.getD []).length := ⟨_, rfl⟩
      rw [← hn'] at HC hcell
      have hjI : (j : Int) < (m : Int) := by omega
      clear hbo hml hn' hb
      cases hx : hasB (ls[j]?.getD []) i with
      | true =>
        rw [hx] at HC
        have HE := Lib.hid (show r = true from by
          rw [HR.out]
          unfold someB
          rw [List.any_eq_true]
          have hl : j < ls.length := by rw [← HM.out]; exact hlt
          rw [List.getElem?_eq_getElem hl] at hx
          exact ⟨_, List.getElem_mem hl, hx⟩)
        clear hx
        go_wp2_with fail
        refine HC.out.mono ?_
        rintro e w' ⟨rfl, hw⟩
        have hw2 := hw.symm
        clear hw
        subst hw2
        go_wp2_with fail
        go_ret
        exact ⟨by rw [HE.out]; rfl, rfl⟩
      | false =>
        rw [hx] at HC
        have HX := Lib.hid hx
        clear hx
        go_wp2_with fail
        refine HC.out.mono ?_
        rintro e w' ⟨rfl, hw⟩
        have hw2 := hw.symm
        clear hw
        subst hw2
        go_wp2_with fail
        go_round
        case rel => exact ⟨j + 1, by go_num, by omega, fun q hq => by
          by_cases e : q < j
          · exact HK.out q e
          · rw [show q = j from by omega]; exact HX.out⟩
        case measure => simp [intOf]; omega
    · obtain rfl : j = m := by omega
      have HE := Lib.hid (show r = false from by
        rw [HR.out]
        unfold someB
        rw [List.any_eq_false]
        intro l hl
        obtain ⟨q, hq, rfl⟩ := List.getElem_of_mem hl
        have := HK.out q (by rw [HM.out]; exact hq)
        rw [List.getElem?_eq_getElem hq] at this
        simpa using this)
      go_wp2_with fail
      go_ret
      exact ⟨by rw [HE.out]; rfl, rfl⟩
set_option maxRecDepth 100000 in
set_option maxHeartbeats 8000000 in
theorem rpick_any (d : Nat) (hv : List Bool) (A0 : Option Addr) (c0 : Nat) (A : Option Addr) (cp : Nat) (vs : List Value) (ls : List (List Bool)) (w : World)
    (hb : Bo w w.heap.size A0 hv) (hp : Pb w w.heap.size A vs ls) (hm : ls.length ≤ 1000) (hc : hv.length ≤ 1000) (hd : d < 18446744073709551616) :
    Calls Try.prog 16 #[.slice A0 hv.length c0, .slice A ls.length cp, .int .u64 (d : Int)] w fun e w' => e = .returned (pkV (pickF hv ls d)) ∧ w' = w := by
  have HBO := Lib.hid hb
  have HP := Lib.hid hp
  have HMM := Lib.hid hm
  obtain ⟨r, hr⟩ : ∃ r, r = pkV (pickF hv ls d) := ⟨_, rfl⟩
  obtain ⟨n, hn⟩ : ∃ n, n = hv.length := ⟨_, rfl⟩
  obtain ⟨m, hmm⟩ : ∃ n, n = ls.length := ⟨_, rfl⟩
  rw [← hr, ← hn, ← hmm]
  rw [← hn] at hc
  rw [← hmm] at hm
  obtain ⟨a, ha⟩ : ∃ a, a = d / 4294967296 := ⟨_, rfl⟩
  have HDV := Lib.hid (div_cast ha)
  obtain ⟨v, hv'⟩ : ∃ v : Int, v = (d : Int) := ⟨_, rfl⟩
  rw [← hv'] at HDV ⊢
  have hv0 : 0 ≤ v := by omega
  have HV := Lib.hid hv'
  have HN := Lib.hid hn
  have HM := Lib.hid hmm
  have HR := Lib.hid hr
  have HA := Lib.hid ha
  clear hb hp hd hr hn hmm hv' ha
  go_enter Try.func16, Try.ntmps16
  go_wp2_with fail
  go_loop [11] (fun x => ∃ i : Nat, x = .int .u64 (i : Int) ∧ i ≤ n ∧ ∀ q, q < i → selB hv ls d (plc n d q) = false) (fun x => (n - intOf x).toNat)
  case atStart => exact ⟨0, rfl, Nat.zero_le _, fun q hq => absurd hq (by omega)⟩
  case round =>
    obtain ⟨i, rfl, hi, hk⟩ := hrel
    have HK := Lib.hid hk
    clear hk
    by_cases hlt : i < n
    · have hn1 : (0 : Int) < (n : Int) := by omega
      have m0 : 0 ≤ v % (n : Int) := Int.emod_nonneg _ (by omega)
      have m1 : v % (n : Int) < (n : Int) := Int.emod_lt_of_pos _ (by omega)
      obtain ⟨C, hC⟩ : ∃ C, C = plc n d i := ⟨_, rfl⟩
      have hCn : C < n := by rw [hC]; exact plc_lt (by omega)
      have m4 : 0 ≤ (v + (i : Int)) % (n : Int) := Int.emod_nonneg _ (by omega)
      have m5 : (v + (i : Int)) % (n : Int) < (n : Int) := Int.emod_lt_of_pos _ (by omega)
      have h1 : (v + (i : Int)) % (n : Int) = (C : Int) := by rw [HV.out, hC]; unfold plc; rw [Nat.mod_add_mod]; push_cast; rfl
      have h2 : (v % (n : Int) + (i : Int)) % (n : Int) = (C : Int) := by rw [HV.out, hC]; unfold plc; push_cast; rfl
      have HSM := Lib.hid (some_any A cp vs ls C w HP.out HMM.out (by omega))
      rw [← HM.out] at HSM
      obtain ⟨b, off, rfl, hbl, hcl⟩ := HBO.out (by rw [← HN.out]; omega)
      obtain ⟨x, hx⟩ : ∃ x, x = hv[C]?.getD false := ⟨_, rfl⟩
      have ck : w.cell? ⟨b, off + C, none⟩ = some (.bool x) := by rw [hcl C (by rw [← HN.out]; omega), hx]; rfl
      have HSEL := Lib.hid (show selB hv ls d C = (!x && someB ls C) from by unfold selB; rw [← hx, who_some])
      have HC := Lib.hid hC
      have hCI : (C : Int) < (n : Int) := by omega
      have H1 := Lib.hid h1
      have H2 := Lib.hid h2
      clear hbl hcl hx hC h1 h2
      go_upto_region 7 with (fail)
      rw [H1.out, H2.out]
      clear m0 m1 m4 m5 H1 H2
      go_wp2_with fail
      refine HSM.out.mono ?_
      rintro e w' ⟨rfl, hw⟩
      have hw2 := hw.symm
      clear hw
      subst hw2
      have HNX := Lib.hid (fun (hf : selB hv ls d C = false) (q : Nat) (hq : q < i + 1) => show selB hv ls d (plc n d q) = false from by
        by_cases e : q < i
        · exact HK.out q e
        · rw [show q = i from by omega, ← HC.out]; exact hf)
      clear HSM
      cases x with
      | true =>
        have HF := Lib.hid (HNX.out (by rw [HSEL.out]; rfl))
        clear HNX
        go_wp2_with fail
        go_round
        case rel => exact ⟨i + 1, by first | rfl | go_num, by omega, HF.out⟩
        case measure => simp [intOf]; omega
      | false =>
        cases ht : someB ls C with
        | false =>
          have HF := Lib.hid (HNX.out (by rw [HSEL.out, ht]; rfl))
          clear HNX ht
          go_wp2_with fail
          go_round
          case rel => exact ⟨i + 1, by first | rfl | go_num, by omega, HF.out⟩
          case measure => simp [intOf]; omega
        | true =>
          have HT := Lib.hid ht
          have HSL := Lib.hid (show rndP n d (selB hv ls d) = some C from by
            have h := rndP_some (p := selB hv ls d) hlt (by rw [← HC.out, HSEL.out, ht]; rfl) HK.out
            rw [← HC.out] at h
            exact h)
          clear HNX ht
          go_wp2_with fail
          go_loop [14] (fun y => ∃ k : Nat, y = .int .u64 (k : Int) ∧ k ≤ m ∧ ∀ q, q < k → hasB (ls[plc m a q]?.getD []) C = false) (fun y => (m - intOf y).toNat)
          case atStart => exact ⟨0, rfl, Nat.zero_le _, fun q hq => absurd hq (by omega)⟩
          case round =>
            obtain ⟨k, rfl, hk, hkk⟩ := hrel
            have HKK := Lib.hid hkk
            clear hkk
            by_cases hklt : k < m
            · have hm1 : (0 : Int) < (m : Int) := by omega
              obtain ⟨P, hP⟩ : ∃ P, P = plc m a k := ⟨_, rfl⟩
              have hPm : P < m := by rw [hP]; exact plc_lt (by omega)
              have a0 : 0 ≤ (a : Int) := by omega
              have m0 : 0 ≤ (a : Int) % (m : Int) := Int.emod_nonneg _ (by omega)
              have m1 : (a : Int) % (m : Int) < (m : Int) := Int.emod_lt_of_pos _ (by omega)
              have m4 : 0 ≤ ((a : Int) + (k : Int)) % (m : Int) := Int.emod_nonneg _ (by omega)
              have m5 : ((a : Int) + (k : Int)) % (m : Int) < (m : Int) := Int.emod_lt_of_pos _ (by omega)
              have h1 : ((a : Int) + (k : Int)) % (m : Int) = (P : Int) := by rw [hP]; unfold plc; rw [Nat.mod_add_mod]; push_cast; rfl
              have h2 : ((a : Int) % (m : Int) + (k : Int)) % (m : Int) = (P : Int) := by rw [hP]; unfold plc; push_cast; rfl
              obtain ⟨b2, off2, A2, c2, rfl, hb2, hcell, hbo, hml⟩ := HP.out.at_ (i := P) (by rw [← HM.out]; exact hPm)
              have HH := Lib.hid (rhas_any (ls[P]?.getD []) A2 c2 C w hbo hml (by omega))
              obtain ⟨n2, hn2⟩ : ∃ n, n = (ls[P]?.getD []).length := ⟨_, rfl⟩
              rw [← hn2] at HH hcell
              have hPI : (P : Int) < (m : Int) := by omega
              have HPP := Lib.hid hP
              have H1 := Lib.hid h1
              have H2 := Lib.hid h2
              have hdv := HDV.out
              clear hbo hml hn2 hb2 h1 h2 hP
              go_upto_region 13 with (fail)
              rw [H1.out, H2.out]
              clear hdv m0 m1 m4 m5 H1 H2
              cases hx : hasB (ls[P]?.getD []) C with
              | true =>
                rw [hx] at HH
                have HE := Lib.hid (show r = .tuple #[.int .i64 (C : Int), .int .i64 (P : Int), .bool true] from by
                  rw [HR.out]
                  unfold pickF
                  rw [← HN.out, HSL.out]
                  have hw : whoN ls d C = some P := by
                    unfold whoN
                    rw [← HM.out, ← HA.out, HPP.out]
                    exact rndP_some hklt (by rw [← HPP.out]; exact hx) HKK.out
                  dsimp only
                  rw [hw]
                  rfl)
                clear hx
                go_wp2_with fail
                refine HH.out.mono ?_
                rintro e w' ⟨rfl, hw⟩
                have hw2 := hw.symm
                clear hw
                subst hw2
                go_wp2_with fail
                go_ret3
                exact ⟨by rw [HE.out]; rfl, rfl⟩
              | false =>
                rw [hx] at HH
                have HX := Lib.hid (show hasB (ls[plc m a k]?.getD []) C = false from by rw [← HPP.out]; exact hx)
                clear hx
                go_wp2_with fail
                refine HH.out.mono ?_
                rintro e w' ⟨rfl, hw⟩
                have hw2 := hw.symm
                clear hw
                subst hw2
                go_wp2_with fail
                go_round
                case rel => exact ⟨k + 1, by first | rfl | go_num, by omega, fun q hq => by
                  by_cases e : q < k
                  · exact HKK.out q e
                  · rw [show q = k from by omega]; exact HX.out⟩
                case measure => simp [intOf]; omega
            · obtain rfl : k = m := by omega
              exfalso
              have h1 : (whoN ls d C).isSome = true := by rw [who_some]; exact HT.out
              have h2 : whoN ls d C = none := by
                unfold whoN
                rw [← HM.out, ← HA.out]
                exact rndP_none (fun q hq => HKK.out q hq)
              rw [h2] at h1
              cases h1
    · obtain rfl : i = n := by omega
      have HE := Lib.hid (show r = .tuple #[.int .i64 0, .int .i64 0, .bool false] from by
        rw [HR.out]
        unfold pickF
        rw [← HN.out, rndP_none (fun q hq => HK.out q hq)]
        rfl)
      go_wp2_with fail
      go_ret3
      exact ⟨by rw [HE.out]; rfl, rfl⟩
end Go.Proofs.Ytmpbimechgelfaa

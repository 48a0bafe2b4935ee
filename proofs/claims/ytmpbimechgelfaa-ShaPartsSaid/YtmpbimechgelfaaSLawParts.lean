/- ShaParts holds: in whatever parts a text is told its digest is the same. Conditions: none. -/
import Derived.Test.YtmpbimechgelfaaPw
namespace Go.Proofs.Ytmpbimechgelfaa
open Go.ChangeShapes Go.WideShapes Go.ChangeAt Go.RowKit Go.Joins Go.Deep

set_option maxRecDepth 100000 in
set_option maxHeartbeats 8000000 in
theorem shaParts_walk (w : World) (A1 : Option Addr) (c1 : Nat) (t : List Nat) (h1 : InB w A1 c1 t) (A2 : Option Addr) (c2 : Nat) (u : List Int) (hu1 : Rd w w.heap.size 1 A2 u.length (fun j => .int .i64 (u[j]?.getD 0))) (_hu2 : A2 = none → u.length = 0 ∧ c2 = 0) (hu3 : u.length ≤ c2 ∧ c2 ≤ maxLen) (hu4 : ∀ x ∈ u, Fit x) :
    Calls Try.prog 7 #[.slice A1 t.length c1, .slice A2 u.length c2] w fun e w' => e = .returned (.bool true) ∧ Below w.heap.size w w' := by
  have HI1 := Lib.hid h1
  have hcm1 : t.length ≤ maxLen := by have := h1.cap; omega
  have hcm2 : u.length ≤ maxLen := by omega
  have hcm3 : c1 ≤ maxLen := h1.cap.2
  have htc : t.length ≤ c1 := h1.cap.1
  have HU4 := Lib.hid hu4
  unfold maxLen at hcm1 hcm2 hcm3
  obtain ⟨n, hn⟩ : ∃ n, n = t.length := ⟨_, rfl⟩
  obtain ⟨m, hm⟩ : ∃ m, m = u.length := ⟨_, rfl⟩
  rw [← hn] at hcm1 htc ⊢
  rw [← hm] at hcm2 hu1 ⊢
  have HU1 := Lib.hid hu1
  have HN := Lib.hid hn
  have HM := Lib.hid hm
  clear h1 hu1 hu3 hu4 hn hm
  go_enter Try.func7, Try.ntmps7
  go_wp2_with fail
  refine (awake_any _).mono ?_
  rintro e w1 ⟨rfl, hb1⟩
  have HB1 := Lib.hid hb1
  have HT := Lib.hid (HI1.out.next hb1)
  have HU := Lib.hid (Rd.below HU1.out hb1)
  have hw1 := hb1.size
  clear HI1 HU1 hb1
  by_cases ht1000 : n ≤ 1000
  · obtain ⟨B0, hB0⟩ : ∃ B, B = w1.heap.size := ⟨_, rfl⟩
    have hB0' : B0 ≤ w1.heap.size := by omega
    have hBW : w.heap.size ≤ B0 := by omega
    have HBE := Lib.hid hB0
    clear hB0 hw1
    go_wp2_with fail
    go_loopw [6, 7, 8] (fun vp vr i wr => ∃ (q : Nat) (A : Option Addr) (mr cr : Nat) (r : List Nat) (vs : List Value) (ls : List (List Nat)), i = .int .i64 (q : Int) ∧ q ≤ 20 ∧ q ≤ m ∧ vr = .slice A mr cr ∧ mr = r.length ∧ (mr ≤ cr ∧ cr ≤ 9223372036854775807) ∧ Bs wr B0 A r ∧ Pw wr B0 B0 vp vs ls ∧ ls.flatten ++ r = t ∧ vs.length = q ∧ Below B0 w1 wr) (fun _ _ i _ => (20 - intOf i).toNat)
    case atStart => exact ⟨0, A1, n, c1, t, [], [], rfl, by omega, by omega, rfl, HN.out, ⟨htc, hcm3⟩, by rw [HBE.out]; exact HT.out.bs, Pw.nil, rfl, rfl, by rw [HBE.out]; exact Below.refl _ _⟩
    case round =>
      obtain ⟨q, A3, mr, cr, r, vs, ls, rfl, hq, hqm, rfl, hmr, ⟨hmc, hcr⟩, hbs, hpw, hfl, hvq, hb⟩ := hrel
      have hlr : r.length ≤ n := by rw [HN.out, ← hfl, List.length_append]; omega
      have hmrn : mr ≤ 1000 := by omega
      have HMR := Lib.hid hmr
      have HR := Lib.hid hbs
      have HPW := Lib.hid hpw
      have HFL := Lib.hid hfl
      have HQ := Lib.hid hvq
      have HBR := Lib.hid hb
      have hBw : B0 ≤ wr.heap.size := by have := hb.size; omega
      clear hmr hbs hpw hfl hvq hb hlr
      by_cases hqc : q < m
      · by_cases hq20 : q < 20
        · obtain ⟨bc, oc, rfl, hbc, hcc⟩ := HU.out (by omega)
          obtain ⟨x, hx⟩ : ∃ x, x = u[q]?.getD 0 := ⟨_, rfl⟩
          have hxf : Fit x := by rw [hx, List.getElem?_eq_getElem (by rw [← HM.out]; exact hqc)]; exact HU4.out _ (List.getElem_mem _)
          have hcx : wr.cell? ⟨bc, oc + q, none⟩ = some (.int .i64 x) := by rw [HBR.out.cell (p := ⟨bc, oc + q, none⟩) (by show bc < B0; omega), hcc q (by omega), hx]
          have hd1 : decide ((q : Int) < (m : Int)) = true := by simp; omega
          have hd2 : decide ((q : Int) < 20) = true := by simp; omega
          unfold Fit at hxf
          clear hcc hx
          by_cases hx0 : x < 0
          · have hn0 : (0 : Int) ≤ -(x + 1) := by omega
            have hn1 : -(x + 1) ≤ 9223372036854775807 := by omega
            obtain ⟨kk, hkk, hkm⟩ : ∃ kk : Nat, (-(x + 1)) % ((mr : Int) + 1) = (kk : Int) ∧ kk ≤ mr := ⟨((-(x + 1)) % ((mr : Int) + 1)).toNat, by rw [Int.toNat_of_nonneg (Int.emod_nonneg _ (by omega))], by have := Int.emod_lt_of_pos (-(x + 1)) (show (0 : Int) < (mr : Int) + 1 by omega); have := Int.emod_nonneg (-(x + 1)) (show ((mr : Int) + 1) ≠ 0 by omega); omega⟩
            go_upto_region 13 with (fail)
            have hkt : -((x + 1).tmod ((mr : Int) + 1)) = (kk : Int) := by rw [← hkk, ← Int.neg_tmod, Int.tmod_eq_emod_of_nonneg hn0]
            rw [hkt]
            clear hkt
            clear hkk
            obtain ⟨Al, hsl1, hrd1, -⟩ := slice_to Try.underlying31 size_5 A3 mr cr kk (by omega)
            obtain ⟨Ar, hsl2, hrd2, -⟩ := slice_from Try.underlying31 size_5 A3 mr cr kk hkm hmc
            have HTK := Lib.hid (show Bs wr B0 Al (r.take kk) from by
              have h := hrd1 wr B0 (bf r) hkm (by have h := HR.out; unfold Bs at h; rw [← HMR.out] at h; exact h)
              unfold Bs
              rw [List.length_take, ← HMR.out, Nat.min_eq_left hkm]
              exact h.congr fun j hj => by rw [bf_take _ _ _ (by omega)])
            have HDR := Lib.hid (show Bs wr B0 Ar (r.drop kk) from by
              have h := hrd2 wr B0 (bf r) (by have h := HR.out; unfold Bs at h; rw [← HMR.out] at h; exact h)
              unfold Bs
              rw [List.length_drop, ← HMR.out]
              exact h.congr fun j _ => by rw [bf_drop])
            have hltk : (r.take kk).length = kk := by rw [List.length_take, ← HMR.out, Nat.min_eq_left hkm]
            have HLT := Lib.hid hltk
            have HRW := Lib.hid (heap_alloc_new wr (.cells [Value.slice Al kk cr].toArray 31))
            have HOK := Lib.hid (show ∀ (j : Nat) u l, [Value.slice Al kk cr][j]? = some u → [r.take kk][j]? = some l → ∃ A c, u = .slice A l.length c ∧ Bs (wr.alloc (.cells [Value.slice Al kk cr].toArray 31)) B0 A l from by
              intro j u l hu hl
              match j with
              | 0 => simp at hu hl; subst hu hl; exact ⟨Al, cr, by rw [HLT.out], Bs.below HTK.out ((Below.refl _ _).alloc hBw _)⟩
              | j + 1 => simp at hu)
            have HPK := Lib.hid (Pw.keep HPW.out ((Below.refl wr.heap.size wr).alloc (Nat.le_refl _) (.cells [Value.slice Al kk cr].toArray 31)) hBw)
            have hkkI : (0 : Int) ≤ (kk : Int) := by omega
            clear hrd1 hrd2 hltk
            go_wp2_with (at_builtin; refine wpl_pw rfl (.tmp 40) (.tmp 44) rfl rfl HPK.out wr.heap.size 1 1 [.slice Al kk cr] [r.take kk] HRW.out (by rfl) (by rfl) HOK.out (by rfl) (by rfl) (by have := HQ.out; simp; omega) (by simp; omega) (Nat.le_refl _) ?_; intro v5 w5 hp5 hb5)
            have HP5 := Lib.hid hp5
            have HB5 := Lib.hid hb5
            clear hp5 hb5
            go_wp2_with fail
            go_roundw
            case rel =>
              refine ⟨q + 1, Ar, mr - kk, cr - kk, r.drop kk, _, _, by first | rfl | go_num, by omega, by omega, rfl, by rw [List.length_drop, ← HMR.out], by omega, Bs.below (Bs.below HDR.out ((Below.refl _ _).alloc hBw _)) HB5.out, HP5.out, ?_, by rw [List.length_append, HQ.out]; rfl, (HBR.out.alloc hBw _).trans HB5.out⟩
              rw [List.flatten_append, List.append_assoc]
              simp only [List.flatten_cons, List.flatten_nil, List.append_nil]
              rw [List.take_append_drop]
              exact HFL.out
            case measure => simp [intOf]; omega
          · have hn0 : (0 : Int) ≤ x := by omega
            obtain ⟨kk, hkk, hkm⟩ : ∃ kk : Nat, x % ((mr : Int) + 1) = (kk : Int) ∧ kk ≤ mr := ⟨(x % ((mr : Int) + 1)).toNat, by rw [Int.toNat_of_nonneg (Int.emod_nonneg _ (by omega))], by have := Int.emod_lt_of_pos x (show (0 : Int) < (mr : Int) + 1 by omega); have := Int.emod_nonneg x (show ((mr : Int) + 1) ≠ 0 by omega); omega⟩
            go_upto_region 13 with (fail)
            rw [hkk]
            clear hkk
            obtain ⟨Al, hsl1, hrd1, -⟩ := slice_to Try.underlying31 size_5 A3 mr cr kk (by omega)
            obtain ⟨Ar, hsl2, hrd2, -⟩ := slice_from Try.underlying31 size_5 A3 mr cr kk hkm hmc
            have HTK := Lib.hid (show Bs wr B0 Al (r.take kk) from by
              have h := hrd1 wr B0 (bf r) hkm (by have h := HR.out; unfold Bs at h; rw [← HMR.out] at h; exact h)
              unfold Bs
              rw [List.length_take, ← HMR.out, Nat.min_eq_left hkm]
              exact h.congr fun j hj => by rw [bf_take _ _ _ (by omega)])
            have HDR := Lib.hid (show Bs wr B0 Ar (r.drop kk) from by
              have h := hrd2 wr B0 (bf r) (by have h := HR.out; unfold Bs at h; rw [← HMR.out] at h; exact h)
              unfold Bs
              rw [List.length_drop, ← HMR.out]
              exact h.congr fun j _ => by rw [bf_drop])
            have hltk : (r.take kk).length = kk := by rw [List.length_take, ← HMR.out, Nat.min_eq_left hkm]
            have HLT := Lib.hid hltk
            have HRW := Lib.hid (heap_alloc_new wr (.cells [Value.slice Al kk cr].toArray 31))
            have HOK := Lib.hid (show ∀ (j : Nat) u l, [Value.slice Al kk cr][j]? = some u → [r.take kk][j]? = some l → ∃ A c, u = .slice A l.length c ∧ Bs (wr.alloc (.cells [Value.slice Al kk cr].toArray 31)) B0 A l from by
              intro j u l hu hl
              match j with
              | 0 => simp at hu hl; subst hu hl; exact ⟨Al, cr, by rw [HLT.out], Bs.below HTK.out ((Below.refl _ _).alloc hBw _)⟩
              | j + 1 => simp at hu)
            have HPK := Lib.hid (Pw.keep HPW.out ((Below.refl wr.heap.size wr).alloc (Nat.le_refl _) (.cells [Value.slice Al kk cr].toArray 31)) hBw)
            have hkkI : (0 : Int) ≤ (kk : Int) := by omega
            clear hrd1 hrd2 hltk
            go_wp2_with (at_builtin; refine wpl_pw rfl (.tmp 40) (.tmp 44) rfl rfl HPK.out wr.heap.size 1 1 [.slice Al kk cr] [r.take kk] HRW.out (by rfl) (by rfl) HOK.out (by rfl) (by rfl) (by have := HQ.out; simp; omega) (by simp; omega) (Nat.le_refl _) ?_; intro v5 w5 hp5 hb5)
            have HP5 := Lib.hid hp5
            have HB5 := Lib.hid hb5
            clear hp5 hb5
            go_wp2_with fail
            go_roundw
            case rel =>
              refine ⟨q + 1, Ar, mr - kk, cr - kk, r.drop kk, _, _, by first | rfl | go_num, by omega, by omega, rfl, by rw [List.length_drop, ← HMR.out], by omega, Bs.below (Bs.below HDR.out ((Below.refl _ _).alloc hBw _)) HB5.out, HP5.out, ?_, by rw [List.length_append, HQ.out]; rfl, (HBR.out.alloc hBw _).trans HB5.out⟩
              rw [List.flatten_append, List.append_assoc]
              simp only [List.flatten_cons, List.flatten_nil, List.append_nil]
              rw [List.take_append_drop]
              exact HFL.out
            case measure => simp [intOf]; omega
        · have hd1 : decide ((q : Int) < (m : Int)) = true := by simp; omega
          have hd2 : decide ((q : Int) < 20) = false := by simp; omega
          have HRW := Lib.hid (heap_alloc_new wr (.cells [Value.slice A3 mr cr, .slice none 0 0].toArray 31))
          have HOK := Lib.hid (show ∀ (j : Nat) u l, [Value.slice A3 mr cr, .slice none 0 0][j]? = some u → [r, []][j]? = some l → ∃ A c, u = .slice A l.length c ∧ Bs (wr.alloc (.cells [Value.slice A3 mr cr, .slice none 0 0].toArray 31)) B0 A l from by
            intro j u l hu hl
            match j with
            | 0 => simp at hu hl; subst hu hl; exact ⟨A3, cr, by rw [← HMR.out], Bs.below HR.out ((Below.refl _ _).alloc hBw _)⟩
            | 1 => simp at hu hl; subst hu hl; exact ⟨none, 0, rfl, Bs.nil⟩
            | j + 2 => simp at hu)
          have HPK := Lib.hid (Pw.keep HPW.out ((Below.refl wr.heap.size wr).alloc (Nat.le_refl _) (.cells [Value.slice A3 mr cr, .slice none 0 0].toArray 31)) hBw)
          go_wp2_with (at_builtin; refine wpl_pw rfl (.tmp 49) (.tmp 51) rfl rfl HPK.out wr.heap.size 2 2 [.slice A3 mr cr, .slice none 0 0] [r, []] HRW.out (by rfl) (by rfl) HOK.out (by rfl) (by rfl) (by have := HQ.out; simp; omega) (by simp; omega) (Nat.le_refl _) ?_; intro v5 w5 hp5 hb5)
          obtain ⟨A6, c6, rfl, hprt, hlc⟩ := hp5.prt (by have h := hb5.size; rw [World.size_alloc] at h; omega) (by
            intro l hl x hx
            refine HT.out.byt x ?_
            rw [← HFL.out]
            rcases List.mem_append.1 hl with h | h
            · exact List.mem_append_left _ (List.mem_flatten.2 ⟨l, h, hx⟩)
            · rcases List.mem_cons.1 h with rfl | h
              · exact List.mem_append_right _ hx
              · simp at h; subst h; simp at hx)
          have HPRT := Lib.hid hprt
          have HB5 := Lib.hid (show Below B0 w1 w5 from (HBR.out.alloc hBw _).trans hb5)
          have HTN := Lib.hid (HT.out.next (show Below w1.heap.size w1 w5 from by have := HB5.out; rw [HBE.out] at this; exact this))
          obtain ⟨D, hD⟩ : ∃ D, D = hc (sumH t) := ⟨_, rfl⟩
          have HDV := Lib.hid (show hc (sumH (ls ++ [r, []]).flatten) = D from by rw [hD, ← HFL.out]; simp)
          have HDW := Lib.hid (show hc (sumH [t].flatten) = D from by rw [hD]; simp)
          have hev : ∀ W, (Op.equalIn 10000 33 (.agg D) (.agg D)).run Try.prog W = .ok true W := fun W => by rw [hD, eq_hash, eqh_self]
          have hl22 : (ls ++ [r, []]).length ≤ 1000 := by have := hp5.len; rw [← this, List.length_append, HQ.out]; simp; omega
          have hfl22 : (ls ++ [r, []]).flatten.length ≤ 900000 := by
            have : (ls ++ [r, []]).flatten = t := by rw [← HFL.out]; simp
            rw [this, ← HN.out]; omega
          clear hp5 hb5 hD hprt
          go_wp2_with fail
          refine (sum_any A6 c6 _ _ w5 HPRT.out hlc hl22 hfl22).mono ?_
          rintro e w6 ⟨rfl, hb6⟩
          rw [HDV.out]
          have HT6 := Lib.hid (HTN.out.next hb6)
          have HB6 := Lib.hid hb6
          clear hb6 hlc hl22 hfl22
          go_wp2_with fail
          refine (sum_any _ 1 [.slice A1 n c1] [t] _ (by have h := Prt.one (t := 31) (c := c1) HT6.out.bs HT6.out.byt; rw [← HN.out] at h; exact h) (Nat.le_refl _) (by simp) (by simp; have := HN.out; omega)).mono ?_
          rintro e w7 ⟨rfl, hb7⟩
          rw [HDW.out]
          have HB7 := Lib.hid (show Below w6.heap.size w6 w7 from below_chain ((Below.refl _ _).alloc (Nat.le_refl _) _) hb7)
          clear hb7
          go_wp2_with fail
          go_ret
          have hq := HB5.out
          rw [HBE.out] at hq
          exact ⟨rfl, below_chain HB1.out (below_chain (below_chain hq HB6.out) HB7.out)⟩
      · have hd1 : decide ((q : Int) < (m : Int)) = false := by simp; omega
        have HRW := Lib.hid (heap_alloc_new wr (.cells [Value.slice A3 mr cr, .slice none 0 0].toArray 31))
        have HOK := Lib.hid (show ∀ (j : Nat) u l, [Value.slice A3 mr cr, .slice none 0 0][j]? = some u → [r, []][j]? = some l → ∃ A c, u = .slice A l.length c ∧ Bs (wr.alloc (.cells [Value.slice A3 mr cr, .slice none 0 0].toArray 31)) B0 A l from by
          intro j u l hu hl
          match j with
          | 0 => simp at hu hl; subst hu hl; exact ⟨A3, cr, by rw [← HMR.out], Bs.below HR.out ((Below.refl _ _).alloc hBw _)⟩
          | 1 => simp at hu hl; subst hu hl; exact ⟨none, 0, rfl, Bs.nil⟩
          | j + 2 => simp at hu)
        have HPK := Lib.hid (Pw.keep HPW.out ((Below.refl wr.heap.size wr).alloc (Nat.le_refl _) (.cells [Value.slice A3 mr cr, .slice none 0 0].toArray 31)) hBw)
        go_wp2_with (at_builtin; refine wpl_pw rfl (.tmp 49) (.tmp 51) rfl rfl HPK.out wr.heap.size 2 2 [.slice A3 mr cr, .slice none 0 0] [r, []] HRW.out (by rfl) (by rfl) HOK.out (by rfl) (by rfl) (by have := HQ.out; simp; omega) (by simp; omega) (Nat.le_refl _) ?_; intro v5 w5 hp5 hb5)
        obtain ⟨A6, c6, rfl, hprt, hlc⟩ := hp5.prt (by have h := hb5.size; rw [World.size_alloc] at h; omega) (by
          intro l hl x hx
          refine HT.out.byt x ?_
          rw [← HFL.out]
          rcases List.mem_append.1 hl with h | h
          · exact List.mem_append_left _ (List.mem_flatten.2 ⟨l, h, hx⟩)
          · rcases List.mem_cons.1 h with rfl | h
            · exact List.mem_append_right _ hx
            · simp at h; subst h; simp at hx)
        have HPRT := Lib.hid hprt
        have HB5 := Lib.hid (show Below B0 w1 w5 from (HBR.out.alloc hBw _).trans hb5)
        have HTN := Lib.hid (HT.out.next (show Below w1.heap.size w1 w5 from by have := HB5.out; rw [HBE.out] at this; exact this))
        obtain ⟨D, hD⟩ : ∃ D, D = hc (sumH t) := ⟨_, rfl⟩
        have HDV := Lib.hid (show hc (sumH (ls ++ [r, []]).flatten) = D from by rw [hD, ← HFL.out]; simp)
        have HDW := Lib.hid (show hc (sumH [t].flatten) = D from by rw [hD]; simp)
        have hev : ∀ W, (Op.equalIn 10000 33 (.agg D) (.agg D)).run Try.prog W = .ok true W := fun W => by rw [hD, eq_hash, eqh_self]
        have hl22 : (ls ++ [r, []]).length ≤ 1000 := by have := hp5.len; rw [← this, List.length_append, HQ.out]; simp; omega
        have hfl22 : (ls ++ [r, []]).flatten.length ≤ 900000 := by
          have : (ls ++ [r, []]).flatten = t := by rw [← HFL.out]; simp
          rw [this, ← HN.out]; omega
        clear hp5 hb5 hD hprt
        go_wp2_with fail
        refine (sum_any A6 c6 _ _ w5 HPRT.out hlc hl22 hfl22).mono ?_
        rintro e w6 ⟨rfl, hb6⟩
        rw [HDV.out]
        have HT6 := Lib.hid (HTN.out.next hb6)
        have HB6 := Lib.hid hb6
        clear hb6 hlc hl22 hfl22
        go_wp2_with fail
        refine (sum_any _ 1 [.slice A1 n c1] [t] _ (by have h := Prt.one (t := 31) (c := c1) HT6.out.bs HT6.out.byt; rw [← HN.out] at h; exact h) (Nat.le_refl _) (by simp) (by simp; have := HN.out; omega)).mono ?_
        rintro e w7 ⟨rfl, hb7⟩
        rw [HDW.out]
        have HB7 := Lib.hid (show Below w6.heap.size w6 w7 from below_chain ((Below.refl _ _).alloc (Nat.le_refl _) _) hb7)
        clear hb7
        go_wp2_with fail
        go_ret
        have hq := HB5.out
        rw [HBE.out] at hq
        exact ⟨rfl, below_chain HB1.out (below_chain (below_chain hq HB6.out) HB7.out)⟩
  · go_wp2_with fail
    go_ret
    exact ⟨rfl, HB1.out⟩

set_option maxRecDepth 100000 in
theorem shaParts_lifted (os : Os) (started : os.Started) (H : Type) (enc : TypeId × Value → H) :
    ReturnsInHanded {} Try.checked os 7 .any (Rows.shaPartsSpec.pre6 enc Try.prog Try.f7 Rows.shaPartsRow.domain false) (Rows.shaPartsSpec.post enc Try.prog Try.f7 false true false false) := by
  refine returnsInHanded_of_change (C := Try.checked) own started (by kernel_rfl) Try.func7
    (ChangeSpec.witness6 (enc := enc) (C := Try.checked) false ⟨#[], #[.slice none 0 0, .slice none 0 0], []⟩ 8 (by kernel_rfl) (by kernel_rfl) (by kernel_rfl) (by kernel_rfl)) ?_
  intro W base args ds gs before hval0 hW _ _
  have hval : ∀ (j : Nat) t v, Try.f7.params[j]? = some t → args[j]? = some v → Value.okWide Try.prog W .any base t v := hval0
  have hW' := hW
  obtain ⟨p, q, hA0, hV, rfl, _, _⟩ := hW
  have hA : DataW.TrodAll enc Try.prog W 0 (fun _ => true) true Try.f7.params.toList args.toList ds p := hA0
  rw [Try.params7] at hA hval
  obtain ⟨v0, vs0, d0, ds0, p0, q0, hargs, rfl, rfl, h0, r0⟩ := trodAll_cons hA
  obtain ⟨v1, vs1, d1, ds1, p1, q1, rfl, rfl, rfl, h1, r1⟩ := trodAll_cons r0
  obtain ⟨rfl, rfl, rfl⟩ := trodAll_nil r1
  obtain rfl : args = #[v0, v1] := by cases args; simp_all
  obtain ⟨rfl, rfl⟩ := trodVars_none hV
  have k0 := h0
  have lt0 : ∀ x ∈ p0, x.block < W.heap.size := by obtain ⟨m, hm⟩ := k0; exact DataW.trod_lt m _ _ _ hm
  obtain ⟨A0, c0, l0, rfl, b0⟩ := open_B (hval 0 31 v0 rfl rfl) h0
  have k1 := h1
  have lt1 : ∀ x ∈ p1, x.block < W.heap.size := by obtain ⟨m, hm⟩ := k1; exact DataW.trod_lt m _ _ _ hm
  obtain ⟨A1, c1, l1, rfl, b1, n1, z1, o1⟩ := open_Is (hval 1 51 v1 rfl rfl) h1
  clear hA0 hval0 hval
  refine (shaParts_walk W A0 c0 l0 b0 A1 c1 l1 b1 n1 z1 o1).mono fun e W' ⟨he, bel⟩ => ?_
  subst he
  exact ⟨_, rfl, _, _, _, [], _, [], hW', trodAll_mk1 (shut_bool Try.underlying4 _), (trodAll_cons_mk (Below.trod laidOut (by kernel_rfl) (of_decide_eq_true (by kernel_rfl)) k0 bel lt0) (trodAll_cons_mk (Below.trod laidOut (by kernel_rfl) (of_decide_eq_true (by kernel_rfl)) k1 bel lt1) trodAll_mk0)), rfl, bel.frame _, fun h => by cases h⟩

theorem shaParts_holds : Rows.ShaPartsSaid :=
  OpenClaim.holds_of_wide 7 Try.f7 rfl rfl rfl rfl rfl rfl rfl ⟨rfl, rfl, rfl, rfl, rfl⟩ rfl rfl rfl rfl rfl (by kernel_rfl) Try.func7 (by kernel_rfl)
    (of_decide_eq_true (by kernel_rfl)) (by unfold Func.isWrapper; first | (rw [if_pos (by decide +kernel)]; kernel_rfl) | (rw [if_neg (by decide +kernel)]; exact ⟨rfl, rfl⟩))
    (fun os started H enc _ => shaParts_lifted os started H enc)
#print axioms shaParts_holds
end Go.Proofs.Ytmpbimechgelfaa

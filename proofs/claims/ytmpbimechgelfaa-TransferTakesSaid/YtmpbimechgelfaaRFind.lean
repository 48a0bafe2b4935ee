/- The document's Find. -/
import Derived.Test.YtmpbimechgelfaaRVer
import Derived.Test.YtmpbimechgelfaaFind
namespace Go.Proofs.Ytmpbimechgelfaa
open Go Go.RowKit

/-- s[l:h] with l ≤ h; nil of nil alone. -/
theorem slice_lhn {t e : TypeId} (ht : Try.prog.underlying t = some (.slice e)) (hz : ∀ w, (sizeOf e).run Try.prog w = .ok 1 w) (A : Option Addr) (m c l h : Nat) (hlh : l ≤ h) (hhm : h ≤ m) (hmc : m ≤ c) :
    ∃ A', (∀ W, (Instr.slice t (.slice A m c) (some (.int .i64 (l : Int))) (some (.int .i64 (h : Int))) none).run Try.prog W = .ok (.slice A' (h - l) (c - l)) W) ∧ (∀ w B f, Rd w B 1 A m f → Rd w B 1 A' (h - l) (fun j => f (l + j))) ∧ (A' = none → A = none) := by
  have ht' : Try.prog.underlying t = some (.slice (Try.prog.elem t)) := by simp [Program.elem, ht]
  have he : Try.prog.elem t = e := by simp [Program.elem, ht]
  refine ⟨if c = l then A else A.map (·.add (l * 1)), fun W => ?_, fun w B f h hp => ?_, fun hA => ?_⟩
  · rw [run_slice_lh W t A m c ht' .i64 .i64 _ _ (by omega) (by omega) (by omega), he, hz]
    simp [Result.andThen, sliced]
  · obtain ⟨b, off, rfl, hb, hc⟩ := h (by omega)
    rw [if_neg (by omega)]
    refine ⟨b, off + l, ?_, hb, fun j hj => ?_⟩
    · show some ((⟨b, off, none⟩ : Addr).add (l * 1)) = _
      rw [add_addr, Nat.mul_one]
    · rw [Nat.add_assoc]; exact hc (l + j) (by omega)
  · cases A with
    | none => rfl
    | some a => split at hA <;> cases hA
set_option maxRecDepth 100000 in
set_option maxHeartbeats 4000000 in
theorem rfind_any (s k : Int) (A : Option Addr) (c : Nat) (hs : List (Nat → Nat)) (f : Nat → Nat) (A2 : Option Addr) (c2 : Nat) (l : List Nat) (w : World)
    (hh : Hs w w.heap.size A hs) (h : Bs w w.heap.size A2 l) (hlc : l.length ≤ c2) (hby : Byt l) (hno : A2 = none → c2 = 0) :
    Calls Try.prog 33 #[.agg (mcv s k (.slice A hs.length c) f), .slice A2 l.length c2] w (OlEnd w.heap.size (findL s k hs l) w) := by
  obtain ⟨n, hn⟩ : ∃ n, n = hs.length := ⟨_, rfl⟩
  obtain ⟨m, hm⟩ : ∃ n, n = l.length := ⟨_, rfl⟩
  obtain ⟨M, hM⟩ : ∃ M, M = mcv s k (.slice A n c) f := ⟨_, rfl⟩
  obtain ⟨L, hL⟩ : ∃ L, L = findL s k hs l := ⟨_, rfl⟩
  obtain ⟨b, hb⟩ : ∃ b, b = chkB s k n := ⟨_, rfl⟩
  obtain ⟨W0, hW0⟩ : ∃ W0, W0 = w.alloc (.cells M 35) := ⟨_, rfl⟩
  have hB0 : Below w.heap.size w W0 := by rw [hW0]; exact (by repeat (first | exact Below.refl _ _ | assumption | refine below_drewN ?_ _ | refine Below.drew ?_ | refine Below.alloc ?_ (by simp; try omega) _ | refine Below.setCell ?_ (by simp; try omega) _))
  have hmb : MB W0 w.heap.size s k (.slice A n c) f := by rw [hW0, hM]; exact heap_alloc_new w _
  have hrow : W0.heap[w.heap.size]? = some (.cells M 35 (0, 0)) := by rw [hW0]; exact heap_alloc_new w _
  have hg0 : w.heap.size < W0.heap.size := hmb.lt
  have HCK := Lib.hid (fun w => rcheck_any s k A n c f w)
  have HPT := Lib.hid (fun i w => rpart_any s k A n c f i w)
  rw [← hM, ← hb] at HCK
  rw [← hM] at HPT
  have HVF : Hid (∀ W, Below W0.heap.size W0 W → ∀ (i : Int) A5 c5 l5, Bs W W.heap.size A5 l5 → Byt l5 → (A5 = none → c5 = 0) → Calls Try.prog 55 #[.agg M, .int .i64 i, .slice A5 l5.length c5] W fun e w' => e = .returned (.int .i64 (verI s k hs i l5)) ∧ Below W.heap.size W w') := Lib.hid fun W hb i A5 c5 l5 h5 hy5 hn5 => by
    have h1 := rverify_any s k A c hs f i A5 c5 l5 W ((hh.next hB0).next hb) h5 hy5 hn5
    rw [← hn, ← hM] at h1
    exact h1
  have HMs : Hid ((Try.prog.info? 35).map (·.size) = some M.size) := Lib.hid (by rw [hM]; exact size_mcv)
  have HR0 := Lib.hid (fun (W : World) (hb : Below W0.heap.size W0 W) => show W.heap[w.heap.size]? = some (.cells M 35 (0, 0)) ∧ W.cell? ⟨w.heap.size, 2, none⟩ = some (.slice A n c) from
    ⟨(hb.block _ hg0).trans hrow, (hb.cell (p := ⟨w.heap.size, 2, none⟩) hg0).trans hmb.c2⟩)
  have HBS := Lib.hid (h.next hB0)
  rw [← hn, ← hm, ← hM, ← hL]
  rw [← hm] at hlc
  have HW0 := Lib.hid hW0
  have HB0 := Lib.hid hB0
  obtain ⟨g, hg⟩ : ∃ g, g = w.heap.size := ⟨_, rfl⟩
  rw [← hg] at HR0 hg0
  have HG := Lib.hid hg
  have HN := Lib.hid hn
  have HM := Lib.hid hm
  have HL := Lib.hid hL
  have HBY := Lib.hid hby
  have HNO := Lib.hid hno
  have HBB := Lib.hid hb
  clear hn hm hM hL hb hW0 hB0 hmb hrow hg hh h hby hno
  go_enter Try.func33, Try.ntmps33
  go_upto_region 1 with (fail)
  change Code.wp _ _ _ _ (w.alloc (.cells M 35))
  rw [← HW0.out, ← HG.out]
  have HROW := Lib.hid (HR0.out W0 (Below.refl _ _)).1
  refine wp_region_list ?_
  repeat (first
    | refine wpList_load_row (by rfl) 35 (.tmp 2) (by rfl) g (by rfl) 35 M (0, 0) _ HROW.out Try.underlying35 (by rfl) HMs.out ?_
    | go_values | go_skip | go_guarded | go_step | go_upon)
  refine (HCK.out W0).mono ?_
  rintro e w1 ⟨rfl, hb1⟩
  have HB1 := Lib.hid hb1
  clear hb1 HROW HCK
  cases b with
  | false =>
    have HE := Lib.hid (show L = [] from by rw [HL.out]; unfold findL; rw [← HN.out, ← HBB.out])
    have HBF := Lib.hid (below_chain HB0.out HB1.out)
    unfold eno
    go_wp2_with fail
    go_ret
    exact ⟨_, rfl, by rw [HE.out]; exact Ol.nil, HBF.out⟩
  | true =>
    have HE := Lib.hid (show L = fndL s k hs l n from by rw [HL.out]; unfold findL; rw [← HN.out, ← HBB.out])
    obtain ⟨hs1, hs2, hk1, hk2, hn1, hn2, -⟩ := chk_facts HBB.out.symm
    unfold eno
    go_wp2_with fail
    go_loopw [5, 6] (fun v i wr => ∃ j : Nat, i = .int .i64 (j : Int) ∧ j ≤ n ∧ FInv W0 s k hs l v j wr) (fun _ i _ => (n - intOf i).toNat)
    case atStart => exact ⟨0, rfl, Nat.zero_le _, none, 0, rfl, Ol.nil, HB1.out⟩
    case round =>
      obtain ⟨j, rfl, hj, Av, cv, rfl, hol, hbl⟩ := hrel
      have HOL := Lib.hid hol
      have HBL := Lib.hid hbl
      clear hol hbl
      have c2' := (HR0.out wr HBL.out).2
      by_cases hlt : j < n
      · have hin : partB s k n (j : Int) = true := by unfold partB; rw [← HBB.out, decide_eq_true (by omega), decide_eq_true (by omega)]; rfl
        obtain ⟨-, -, -, -, hy1, hy2, hx1, hx2, hxy⟩ := in_part hin
        obtain ⟨x, hx⟩ : ∃ x, x = fromI s k n (j : Int) := ⟨_, rfl⟩
        obtain ⟨y, hy⟩ : ∃ x, x = toI s k n (j : Int) := ⟨_, rfl⟩
        have HP := Lib.hid (fun W => HPT.out (j : Int) W)
        rw [← hx, ← hy] at HP
        have hxy2 : x ≤ y := by
          have e1 : x = (j : Int) * k := by rw [hx]; unfold fromI; rw [hin]
          have e2 : y = min (((j : Int) + 1) * k) s := by rw [hy]; unfold toI; rw [hin]
          have e3 : ((j : Int) + 1) * k = (j : Int) * k + k := by rw [Int.add_mul, Int.one_mul]
          have hnc := (chk_facts HBB.out.symm).2.2.2.2.2.2
          have h1 : (j : Int) * k ≤ ((n : Int) - 1) * k := Int.mul_le_mul_of_nonneg_right (by omega) (by omega)
          have h2 : (n : Int) * k ≤ s + k - 1 := by rw [hnc]; exact Int.ediv_mul_le _ (by omega)
          have h3 : ((n : Int) - 1) * k = (n : Int) * k - k := by rw [Int.sub_mul, Int.one_mul]
          rw [e1, e2, e3]
          omega
        rw [← hx] at hx1 hx2 hxy
        rw [← hy] at hy1 hy2 hxy
        obtain ⟨X, hX⟩ : ∃ X, X = min x.toNat m := ⟨_, rfl⟩
        obtain ⟨Y, hY⟩ : ∃ Y, Y = min y.toNat m := ⟨_, rfl⟩
        have eX : min x (m : Int) = (X : Int) := by omega
        have eY : min y (m : Int) = (Y : Int) := by omega
        have hXY : X ≤ Y := by omega
        have hYm : Y ≤ m := by omega
        obtain ⟨A5, hsl, hrd, hnn5⟩ := slice_lhn Try.underlying31 size_5 A2 m c2 X Y hXY hYm hlc
        obtain ⟨c5, hc5⟩ : ∃ c, c = c2 - X := ⟨_, rfl⟩
        have HN5 := Lib.hid (fun e : A5 = none => show c5 = 0 from by rw [hc5, HNO.out (hnn5 e)]; omega)
        rw [← hc5] at hsl
        have hfc : fchunk s k n j l = cutL l X Y := by unfold fchunk; rw [← hx, ← hy, ← HM.out, ← hX, ← hY]
        obtain ⟨l5, hl5⟩ : ∃ x, x = cutL l X Y := ⟨_, rfl⟩
        have hlen5 : l5.length = Y - X := by rw [hl5]; exact cutL_len (by rw [← HM.out]; exact hYm)
        rw [← hlen5] at hsl
        have HB5 := Lib.hid (fun (W : World) (hb : Below W0.heap.size W0 W) => show Bs W W.heap.size A5 l5 from by
          have h := HBS.out.next hb
          unfold Bs at h
          rw [← HM.out] at h
          rw [hl5]
          exact cut_bs (by rw [← HM.out]; exact hYm) (hrd _ _ _ h))
        have HY5 := Lib.hid (show Byt l5 from by rw [hl5]; exact cutL_byt HBY.out _ _)
        obtain ⟨r, hr⟩ : ∃ r, r = verI s k hs (j : Int) l5 := ⟨_, rfl⟩
        obtain ⟨pb, hpb⟩ : ∃ p, p = decide (r = 0) := ⟨_, rfl⟩
        have hreq : (r == 0) = pb := by rw [hpb]; by_cases e : r = 0 <;> simp [e]
        have HFL := Lib.hid (show fndL s k hs l j ++ [pb] = fndL s k hs l (j + 1) from by rw [← fndL_succ, ← HN.out, hfc, ← hl5, ← hr, ← hpb])
        have HV5 := Lib.hid (fun (W : World) (hb : Below W0.heap.size W0 W) => HVF.out W hb (j : Int) A5 c5 l5 (HB5.out W hb) HY5.out HN5.out)
        rw [← hr] at HV5
        rw [← eX, ← eY] at hsl
        have HSL := Lib.hid hsl
        have HRNG := Lib.hid (fun (W : World) (hb : Below W0.heap.size W0 W) => box_range (HR0.out W hb).1)
        have HROW := Lib.hid (HR0.out wr HBL.out).1
        have hjn : (j : Int) < (n : Int) := by omega
        obtain ⟨n5, hn5⟩ : ∃ n, n = l5.length := ⟨_, rfl⟩
        rw [← hn5] at hsl HV5
        have HSL2 := Lib.hid hsl
        clear hin hX hY eX eY hXY hYm hsl hrd hfc hl5 hlen5 hr hpb hx hy hn5 hc5 hnn5 HSL HRNG
        go_upto_region 7 with (fail)
        refine wp_region_list ?_
        repeat (first
          | refine wpList_load_row (by rfl) 35 (.tmp 2) (by rfl) g (by rfl) 35 M (0, 0) _ HROW.out Try.underlying35 (by rfl) HMs.out ?_
          | go_values | go_skip | go_guarded | go_step | go_upon)
        refine (HP.out wr).mono ?_
        rintro e w2 ⟨rfl, hb2⟩
        have HBL2 := Lib.hid (below_chain HBL.out hb2)
        have HOL2 := Lib.hid (HOL.out.next hb2)
        have HROW2 := Lib.hid (HR0.out w2 HBL2.out).1
        clear hb2 HROW c2'
        have hSL := HSL2.out
        go_upto_region 9 with (fail)
        refine wp_region_list ?_
        repeat (first
          | refine wpList_load_row (by rfl) 35 (.tmp 2) (by rfl) g (by rfl) 35 M (0, 0) _ HROW2.out Try.underlying35 (by rfl) HMs.out ?_
          | go_values | go_skip | go_guarded | go_step | go_upon)
        refine (HV5.out w2 HBL2.out).mono ?_
        rintro e w3 ⟨rfl, hb3⟩
        have HBL3 := Lib.hid (below_chain HBL2.out hb3)
        have HOL3 := Lib.hid (Own.alloc (HOL2.out.next hb3) (.cells #[.bool pb] 4))
        clear hb3 HBL2 HOL2 HROW2 hSL
        go_wp2_with (at_builtin; refine wpl_ol rfl (.tmp 36) (.tmp 42) rfl rfl HOL3.out (some ⟨w3.heap.size, 0, none⟩) 1 1 rfl rfl rfl (bo_one w3 pb) (by intro e; cases e) (by rw [fndL_len]; simp; omega) (by have := HBL3.out.size; simp; omega) ?_; intro v8 w8 hw8 hb8; rw [HFL.out] at hw8; obtain ⟨A8, c8, rfl, -, -, -, -⟩ := hw8.rd; rw [fndL_len] at hw8 ⊢; have HO8 := Lib.hid hw8; have HB8 := Lib.hid (show Below W0.heap.size W0 w8 from (HBL3.out.alloc HBL3.out.size _).trans hb8); clear hw8 hb8)
        clear hreq
        go_roundw
        case rel => exact ⟨j + 1, by go_num, by omega, A8, c8, rfl, HO8.out, HB8.out⟩
        case measure => simp [intOf]; omega
      · obtain rfl : j = n := by omega
        go_wp2_with fail
        go_ret
        exact ⟨_, rfl, by rw [HE.out]; exact HOL.out.mono HB0.out.size, HB0.out.trans (HBL.out.mono HB0.out.size)⟩
end Go.Proofs.Ytmpbimechgelfaa

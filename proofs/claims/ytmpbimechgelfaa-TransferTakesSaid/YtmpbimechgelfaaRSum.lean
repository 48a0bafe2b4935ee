/- The document's Sum. -/
import Derived.Test.YtmpbimechgelfaaRoots3
import Derived.Test.YtmpbimechgelfaaPw
namespace Go.Proofs.Ytmpbimechgelfaa
open Go Go.RowKit

/-- s[l:h] -/
theorem slice_mid {t e : TypeId} (ht : Try.prog.underlying t = some (.slice e)) (hz : ∀ w, (sizeOf e).run Try.prog w = .ok 1 w) (A : Option Addr) (m c l h : Nat) (hlh : l < h) (hhm : h ≤ m) (hmc : m ≤ c) :
    ∃ A', (∀ W, (Instr.slice t (.slice A m c) (some (.int .i64 (l : Int))) (some (.int .i64 (h : Int))) none).run Try.prog W = .ok (.slice A' (h - l) (c - l)) W) ∧ (∀ w B f, Rd w B 1 A m f → Rd w B 1 A' (h - l) (fun j => f (l + j))) := by
  have ht' : Try.prog.underlying t = some (.slice (Try.prog.elem t)) := by simp [Program.elem, ht]
  have he : Try.prog.elem t = e := by simp [Program.elem, ht]
  refine ⟨A.map (·.add (l * 1)), fun W => ?_, fun w B f h hp => ?_⟩
  · rw [run_slice_lh W t A m c ht' .i64 .i64 _ _ (by omega) (by omega) (by omega), he, hz]
    simp [Result.andThen, sliced]
    omega
  · obtain ⟨b, off, rfl, hb, hc⟩ := h (by omega)
    refine ⟨b, off + l, ?_, hb, fun j hj => ?_⟩
    · show some ((⟨b, off, none⟩ : Addr).add (l * 1)) = _
      rw [add_addr, Nat.mul_one]
    · rw [Nat.add_assoc]; exact hc (l + j) (by omega)
theorem yieldsIf_slice {ops : Array Oper} {S : World → Prop} {op : Oper} {a : Act} (hw : Region.wanted op (yielded ops a.tmps) = true) (ty : TypeId) (x lo hi : Operand) (ho : op.op = .slice ty x (some lo) (some hi) none)
    (ht : Try.prog.underlying ty = some (.slice (Try.prog.elem ty))) (v0 v1 v2 v : Value) (hx : a.eval x = v0) (hl : a.eval lo = v1) (hh : a.eval hi = v2) (hrun : ∀ W, (Instr.slice ty v0 (some v1) (some v2) none).run Try.prog W = .ok v W) : YieldsIf Try.prog ops S op v a :=
  .inl ⟨hw, fun w _ => by
    unfold execOp
    simp only [ho, hx, hl, hh, Option.map_some, Option.map_none, Sem.run_bind, Sem.run_pure, Result.andThen_ok, run_sliceAt_slice (h := ht), hrun]⟩
theorem be_take (b : List Nat) {t : Nat} (h : t < 16) : be (b.take 64) t = be b t := by
  unfold be
  rw [List.getElem?_take_of_lt (by omega), List.getElem?_take_of_lt (by omega), List.getElem?_take_of_lt (by omega), List.getElem?_take_of_lt (by omega)]
theorem wrev_take (b : List Nat) (t : Nat) : wrev (b.take 64) t = wrev b t := by
  induction t with
  | zero => rfl
  | succ t ih =>
    unfold wrev
    rw [ih]
    by_cases h : t < 16
    · rw [if_pos h, if_pos h, be_take b h]
    · rw [if_neg h, if_neg h]
theorem Wd_take (b : List Nat) : Wd (b.take 64) = Wd b := by funext t; unfold Wd; rw [wrev_take]
theorem blk_take (K s : Nat → Nat) (b : List Nat) : blk K s (b.take 64) = blk K s b := by funext j; unfold blk; rw [Wd_take]
theorem rblk_drop (K : Nat → Nat) (m : Nat) (s : Nat → Nat) (b : List Nat) : rblk K (m + 1) s b = rblk K m (blk K s b) (b.drop 64) := rfl
set_option maxRecDepth 100000 in
set_option maxHeartbeats 8000000 in
theorem rsum_any (A : Option Addr) (n c : Nat) (l : List Nat) (w : World) (hr : Bs w w.heap.size A l) (hn : n = l.length) (hby : Byt l) (hl : l.length ≤ 5000) (hnone : A = none → c = 0) :
    Calls Try.prog 34 #[.slice A n c] w fun e w' => e = .returned (.agg (hc (sumH l))) ∧ Below w.heap.size w w' := by
  have HR := Lib.hid hr
  have HY := Lib.hid hby
  have HL := Lib.hid hn
  have HNO := Lib.hid hnone
  have hn5 : n ≤ 5000 := by omega
  clear hr hby hn hnone hl
  go_enter Try.func34, Try.ntmps34
  go_upto_region 1 with (fail)
  obtain ⟨W0, hW0⟩ : ∃ W0, W0 = w.alloc (.cells (hc fun _ => 0) 33) := ⟨_, rfl⟩
  change Code.wp _ _ _ _ (w.alloc (.cells (hc fun _ => 0) 33))
  rw [← hW0]
  have HS0 := Lib.hid (show W0.heap.size = w.heap.size + 1 from by rw [hW0]; simp)
  have HB0 := Lib.hid (show Below w.heap.size w W0 from by rw [hW0]; exact (by repeat (first | exact Below.refl _ _ | assumption | refine below_drewN ?_ _ | refine Below.drew ?_ | refine Below.alloc ?_ (by simp; try omega) _ | refine Below.setCell ?_ (by simp; try omega) _)))
  have HO0 := Lib.hid (show W0.heap[w.heap.size]? = some (.cells (hc fun _ => 0) 33 (0, 0)) from by rw [hW0]; exact heap_alloc_new w _)
  have HR0 := Lib.hid (show Bs (W0.alloc (.cells #[] 5)) W0.heap.size A l from ((HR.out.next HB0.out).below ((Below.refl _ _).alloc (Nat.le_refl _) _)))
  clear hW0
  go_wp2_with (at_builtin; first | (refine wpl_ob rfl (.tmp 13) (.tmp 14) rfl rfl (Ob.empty W0 (Nat.le_refl _)) A n c HL.out (by rfl) (by rfl) HR0.out HNO.out (by rw [← HL.out]; simp; omega) (by simp) ?_; intro v1 w1 hob1 hg1 hbl1; rw [List.nil_append] at hob1; have HOB1 := Lib.hid hob1; have HB1 := Lib.hid (show Below W0.heap.size W0 w1 from ((Below.refl _ _).alloc (Nat.le_refl _) _).trans hbl1); have hsz1 := HB1.out.size; have HONE := Lib.hid (Bs.ofOne w1 128); clear hob1 hg1 hbl1) | (go_loud (refine wpl_ob rfl (.tmp 15) (.tmp 16) rfl rfl (Ob.alloc HOB1.out (.cells #[.int .u8 ((128 : Nat) : Int)] 5)) (some ⟨w1.heap.size, 0, none⟩) 1 1 (by rfl) (by rfl) (by rfl) HONE.out (by intro h; cases h) (by rw [← HL.out]; simp; omega) (by simp; omega) ?_; intro v2 w2 hob2 hg2 hbl2)))
  obtain ⟨A2, c2, rfl, -, -, -, -⟩ := hob2.rd
  have HF1 := Lib.hid hob2
  have HB2 := Lib.hid (show Below W0.heap.size W0 w2 from HB1.out.trans (((Below.refl _ _).alloc hsz1 _).trans hbl2))
  clear hob2 hg2 hbl2 HOB1
  have hL1 : (l ++ [128]).length = n + 1 := by rw [List.length_append, ← HL.out]; rfl
  rw [hL1] at HF1 ⊢
  clear hL1
  have hzn := zn_lt n
  go_loopw [3] (fun v wr => ∃ (k m : Nat) (A : Option Addr) (c : Nat), v = .slice A m c ∧ m = n + 1 + k ∧ k ≤ zn n ∧ Ob wr W0.heap.size (.slice A m c) (l ++ 128 :: List.replicate k 0) ∧ Below W0.heap.size W0 wr) (fun v _ => (n + 100 - (match v with | .slice _ m _ => m | _ => 0)))
  case atStart => exact ⟨0, n + 1, A2, c2, rfl, rfl, Nat.zero_le _, HF1.out, HB2.out⟩
  case round =>
    obtain ⟨k, m, A3, c3, rfl, hm, hk, hf, hb⟩ := hrel
    have HF := Lib.hid hf
    have HB := Lib.hid hb
    clear hf hb HF1
    have hms : W0.heap.size ≤ wr.heap.size := HB.out.size
    by_cases hkz : k < zn n
    · have hmod : ((m : Int) % 64 != 56) = true := by have h1 := zn_mod n; unfold zn at hkz h1; simp; omega
      have HM := Lib.hid hm
      have hml : m ≤ 10000 := by omega
      have HONE := Lib.hid (Bs.ofOne wr 0)
      clear hm
      go_wp2_with (at_builtin; refine wpl_ob rfl (.tmp 22) (.tmp 23) rfl rfl (Ob.alloc HF.out (.cells #[.int .u8 ((0 : Nat) : Int)] 5)) (some ⟨wr.heap.size, 0, none⟩) 1 1 (by rfl) (by rfl) (by rfl) HONE.out (by intro h; cases h) (by simp; have := HM.out; have := HL.out; omega) (by simp; omega) ?_; intro v1 w3 hf1 hg1 hb1)
      obtain ⟨A4, c4, rfl, -, -, -, -⟩ := hf1.rd
      have hL2 : (l ++ 128 :: List.replicate k 0 ++ [0]).length = m + 1 := by simp; have := HM.out; have := HL.out; omega
      have hL3 : l ++ 128 :: List.replicate k 0 ++ [0] = l ++ 128 :: List.replicate (k + 1) 0 := by rw [List.replicate_succ', List.append_assoc]; rfl
      have HF1 := Lib.hid (show Ob w3 W0.heap.size (.slice A4 (m + 1) c4) (l ++ 128 :: List.replicate (k + 1) 0) from by rw [← hL3, ← hL2]; exact hf1)
      have HB1 := Lib.hid (show Below W0.heap.size W0 w3 from HB.out.trans (((Below.refl _ _).alloc hms _).trans hb1))
      rw [hL2]
      clear hf1 hb1 hg1 hL2 hL3
      go_wp2_with fail
      go_roundw
      case rel => exact ⟨k + 1, m + 1, A4, c4, rfl, by have := HM.out; omega, by omega, HF1.out, HB1.out⟩
      case measure => have := HM.out; simp; omega
    · obtain rfl : k = zn n := by omega
      have hmod : ((m : Int) % 64 != 56) = false := by have h1 := zn_mod n; simp; omega
      have HM := Lib.hid hm
      have hml : m ≤ 10000 := by omega
      clear hm
      obtain ⟨W1, hW1⟩ : ∃ W1, W1 = wr := ⟨_, rfl⟩
      subst hW1
      go_wp2_with fail
      obtain ⟨u4, hu4⟩ : ∃ v, v = Value.int .u64 ((n : Int) * 8) := ⟨_, rfl⟩
      rw [← hu4]
      have HU4 := Lib.hid hu4
      clear hu4
      go_loopw [3, 5] (fun v i wr => ∃ (q m' : Nat) (A : Option Addr) (c : Nat), i = .int .i64 ((q : Int) - 1) ∧ q ≤ 8 ∧ v = .slice A m' c ∧ m' = m + (8 - q) ∧ Ob wr W0.heap.size (.slice A m' c) (l ++ 128 :: List.replicate (zn n) 0 ++ (ln8 n).take (8 - q)) ∧ Below W0.heap.size W0 wr) (fun _ i _ => (intOf i + 1).toNat)
      case atStart => exact ⟨8, m, A3, c3, rfl, by omega, rfl, rfl, by rw [show 8 - 8 = 0 from rfl, List.take_zero, List.append_nil]; exact HF.out, HB.out⟩
      case round =>
        obtain ⟨q, m', A4, c4, rfl, hq, rfl, hm', hf, hb⟩ := hrel
        have HF := Lib.hid hf
        have HB := Lib.hid hb
        have HM' := Lib.hid hm'
        have hms : W0.heap.size ≤ wr.heap.size := HB.out.size
        clear hf hb
        rcases q with _ | q
        · rw [show ((0 : Nat) : Int) - 1 = -1 from rfl]
          rw [show 8 - 0 = 8 from rfl, show (ln8 n).take 8 = ln8 n from List.take_of_length_le (by rw [ln8_len]; omega)] at HF
          have hpl : l ++ 128 :: List.replicate (zn n) 0 ++ ln8 n = padl l := by rw [HL.out]; rfl
          rw [hpl] at HF
          have hN : m' = (padl l).length := by rw [padl_len, ← HL.out]; have := HM.out; have := HM'.out; omega
          obtain ⟨N, hNd⟩ : ∃ N, N = (padl l).length / 64 := ⟨_, rfl⟩
          have hN2 : m' = 64 * N := by rw [hNd, ← padl_mod]; exact hN
          have HPB := Lib.hid (padl_byt HY.out)
          have hNl : 64 * N ≤ 10000 := by have := HM.out; omega
          obtain rfl := hN2
          have HFIN := Lib.hid (show sumH l = outH (rblk KC N SC (padl l)) from by rw [hNd]; rfl)
          have HLN := Lib.hid hN
          clear hpl hN hNd hm'
          obtain ⟨W2, hW2⟩ : ∃ W2, W2 = wr := ⟨_, rfl⟩
          subst hW2
          go_wp2_with fail
          refine (roots64_any W2).mono ?_
          rintro e w3 ⟨Ak, ck, rfl, hk3, hb3⟩
          have HK3 := Lib.hid hk3
          have HB3 := Lib.hid hb3
          clear hk3 hb3
          go_wp2_with fail
          refine (roots8_any w3).mono ?_
          rintro e w4 ⟨Af, cf, rfl, hf4, hb4⟩
          have HF4 := Lib.hid hf4
          have HB4 := Lib.hid hb4
          clear hf4 hb4
          go_upto_region 11 with (fail)
          obtain ⟨Z, hZ⟩ : ∃ Z, Z = (wc 8 fun _ => 0).toArray := ⟨_, rfl⟩
          have HZs := Lib.hid (show (Try.prog.info? 78).map (·.size) = some Z.size from by rw [hZ]; exact size_h8)
          have HZa := Lib.hid (show Z.all (·.oneCell') = true from by rw [hZ]; exact wc_all 8 _)
          have HZ := Lib.hid hZ
          clear hZ
          refine wp_region_list ?_
          go_step
          go_step
          go_step
          go_step
          go_step
          refine wpList_store_row (by rfl) 78 (.tmp 8) (.tmp 44) (by rfl) w4.heap.size Z (by rfl) (by rw [HZ.out]; rfl) 78 (wc 8 fun _ => 0).toArray (by exact heap_alloc_new w4 _) HZs.out (by rw [HZ.out]) HZa.out ?_
          obtain ⟨W5, hW5⟩ : ∃ W, W = (w4.alloc (.cells (wc 8 fun _ => 0).toArray 78)).setRow w4.heap.size Z := ⟨_, rfl⟩
          change wpList _ _ _ _ _ ((w4.alloc (.cells (wc 8 fun _ => 0).toArray 78)).setRow w4.heap.size Z)
          simp only [Act.put]
          obtain ⟨g, hg⟩ : ∃ g, g = w4.heap.size := ⟨_, rfl⟩
          rw [← hW5, ← hg]
          have HS5 := Lib.hid (show AB W5 78 g 8 (fun _ => 0) from by rw [hW5, hg]; unfold AB; rw [← HZ.out]; exact setRow_heap _ _ _ _ _ _ (heap_alloc_new w4 _))
          have HB5 := Lib.hid (show Below g w4 W5 from by rw [hW5, hg]; exact below_setRow ((Below.refl _ _).alloc (Nat.le_refl _) _) (Nat.le_refl _) Z)
          have HG := Lib.hid hg
          obtain ⟨bf', of', rfl, hbf, hcf⟩ := HF4.out (by omega)
          have HCF := Lib.hid (show ∀ j, j < 8 → w4.cell? ⟨bf', of' + j, none⟩ = some (.int .u32 ((SC j : Nat) : Int)) from fun j hj => hcf j (by omega))
          have hbf' : bf' < g := by rw [hg]; exact hbf
          clear hW5 hg HZs HZa hbf hcf
          go_wp2_with fail
          go_loopw [9] (fun i wr => ∃ k : Nat, i = .int .i64 (k : Int) ∧ k ≤ 8 ∧ AB wr 78 g 8 (fun j => if j < k then SC j else 0) ∧ Below g w4 wr) (fun i _ => (8 - intOf i).toNat)
          case atStart => exact ⟨0, rfl, by omega, HS5.out.congr (fun j _ => (if_neg (Nat.not_lt_zero j)).symm), HB5.out⟩
          case round =>
            obtain ⟨k, rfl, hk, hab, hb⟩ := hrel
            have HAB := Lib.hid hab
            have HB' := Lib.hid hb
            by_cases hk8 : k < 8
            · have ck := HCF.out k hk8
              rw [← hb.cell (p := ⟨bf', of' + k, none⟩) hbf'] at ck
              have hc2 := hab.cell hk8
              have hc3 := hab.free k
              have hne : (bf' == g) = false := by simp; omega
              obtain ⟨sk, hsk⟩ : ∃ x, x = SC k := ⟨_, rfl⟩
              rw [← hsk] at ck
              have HSK := Lib.hid hsk
              clear hab hb hsk
              go_wp2_with fail
              refine ⟨⟨k + 1, by first | rfl | go_num, by omega, (HAB.out.set k sk).congr (fun j hj => ?_), HB'.out.setCell (p := ⟨g, k, none⟩) (Nat.le_refl _) _⟩, by simp [intOf]; omega⟩
              by_cases h1 : j = k
              · rw [if_pos h1, if_pos (by omega), h1, HSK.out]
              · rw [if_neg h1]
                by_cases h2 : j < k
                · rw [if_pos h2, if_pos (by omega)]
                · rw [if_neg h2, if_neg (by omega)]
            · obtain rfl : k = 8 := by omega
              have HS6 := Lib.hid (show AB wr 78 g 8 SC from hab.congr (fun j hj => if_pos hj))
              clear hab hb HAB
              obtain ⟨W6, hW6⟩ : ∃ W6, W6 = wr := ⟨_, rfl⟩
              subst hW6
              obtain ⟨A5, c5, he5, hbs5, hc5, hm5, -⟩ := HF.out.rd
              rw [← HLN.out] at he5 hc5
              injection he5 with e1 _ e2
              subst e1 e2
              have HPL := Lib.hid (show Bs w4 g A4 (padl l) from by rw [HG.out]; exact ((hbs5.next HB3.out).next HB4.out))
              have HKK := Lib.hid (show Ks w4 g Ak 64 KC from by rw [HG.out]; exact (Rd.below HK3.out HB4.out).more HB4.out.size)
              have HG6 := HB'.out.size
              rw [← HG.out] at HG6
              have hgl : g < W6.heap.size := HS6.out.lt
              go_wp2_with fail
              go_loopw [10] (fun i wr => ∃ (j I : Nat) (s : Nat → Nat), i = .int .i64 (I : Int) ∧ I = 64 * j ∧ j ≤ N ∧ AB wr 78 g 8 s ∧ (stOf s).ok ∧ rblk KC (N - j) s ((padl l).drop I) = rblk KC N SC (padl l) ∧ Below g w4 wr) (fun i _ => (64 * N - intOf i).toNat)
              case atStart => exact ⟨0, 0, SC, rfl, rfl, Nat.zero_le _, HS6.out, SC_ok, rfl, HB'.out⟩
              case round =>
                obtain ⟨j, I, s, rfl, hI, hjN, hs, hok, hfin, hb⟩ := hrel
                have HI := Lib.hid hI
                have HS := Lib.hid hs
                have HOK := Lib.hid hok
                have HFN := Lib.hid hfin
                have HBB := Lib.hid hb
                have hIl : I ≤ 64 * N := by omega
                by_cases hj : j < N
                · have hI64 : I + 64 ≤ 64 * N := by omega
                  obtain ⟨A6, hsl, hrd⟩ := slice_mid Try.underlying31 size_5 A4 (64 * N) c4 I (I + 64) (by omega) hI64 hc5
                  rw [Nat.add_sub_cancel_left, show ((I + 64 : Nat) : Int) = (I : Int) + 64 from by push_cast; rfl] at hsl
                  rw [Nat.add_sub_cancel_left] at hrd
                  have HSL := Lib.hid hsl
                  obtain ⟨b, hbd⟩ : ∃ b, b = (padl l).drop I := ⟨_, rfl⟩
                  have hlen := HLN.out
                  have hbl : (padl l).length - I = b.length := by rw [hbd, List.length_drop]
                  have HB64 := Lib.hid (show Rd wr.drew wr.drew.heap.size 1 A6 64 (bf b) from
                    ((hrd w4 g _ (by rw [hlen]; exact HPL.out)).congr (fun j _ => by rw [hbd, bf_drop])).below hb |>.more (show g ≤ wr.heap.size from Nat.le_of_lt hs.lt))
                  have HBY := Lib.hid (show Byt b from by rw [hbd]; exact HPB.out.drop I)
                  have HKW := Lib.hid (show Ks wr.drew wr.drew.heap.size Ak 64 KC from (Rd.below HKK.out hb).more (show g ≤ wr.heap.size from Nat.le_of_lt hs.lt))
                  have HFN2 := Lib.hid (show rblk KC (N - (j + 1)) (blk KC s b) ((padl l).drop (I + 64)) = rblk KC N SC (padl l) from by
                    rw [← hfin, show N - j = (N - (j + 1)) + 1 from by omega, rblk_drop, hbd, List.drop_drop])
                  have hsz := hb.size
                  clear hI hs hok hfin hb hsl hrd hbd hlen hbl HFN
                  obtain ⟨CB, hCB⟩ : ∃ C, C = (wc 8 (blk KC s b)).toArray := ⟨_, rfl⟩
                  have HCBs := Lib.hid (show (Try.prog.info? 78).map (·.size) = some CB.size from by rw [hCB]; exact size_h8)
                  have HCBa := Lib.hid (show CB.all (·.oneCell') = true from by rw [hCB]; exact wc_all 8 _)
                  have HCBz := Lib.hid (show (wc 8 s).toArray.size = CB.size from by rw [hCB]; simp [wc])
                  have HCB := Lib.hid hCB
                  clear hCB
                  have hgr := HS.out.lt
                  have HWR := Lib.hid (show IntKind.i64.wrap ((I : Int) + 64) = (I : Int) + 64 from by simp [IntKind.wrap, IntKind.bits, IntKind.signed]; omega)
                  go_upto_region 19 with (fail)
                  refine wp_region_held_drew (S := (fun w' => Hid (Below g w4 w'))) (by kernel_rfl) ?_ (fun hHeld => ?_)
                  · (first | assumption | exact Lib.hid HBB.out.drew | exact HB8 | exact Lib.hid (below_setRow HB8.out (Nat.le_refl _) CB))
                  refine wpAnyH_take (i := 1) (oi := { dst := some 62, op := Op.move (Operand.tmp 3), type := 31, pos := "ref.go:119", after := #[], guard := none }) (v := ?_) rfl (by kernel_rfl) (by kernel_rfl) (by kernel_rfl) (fun _ _ _ h => h) (Or.inl ⟨by rfl, ?_⟩) (by assumption) ?_
                  rotate_left 1
                  · intro ws hSw; (try dsimp only at hSw); go_simp; all_goals with_reducible rfl
                  simp only [Act.put, List.setIfInBounds_toArray, List.set_cons_zero, List.set_cons_succ]
                  refine wpAnyH_take (i := 2) (oi := { dst := some 63, op := Op.move (Operand.tmp 10), type := 3, pos := "ref.go:119", after := #[], guard := none }) (v := ?_) rfl (by kernel_rfl) (by kernel_rfl) (by kernel_rfl) (fun _ _ _ h => h) (Or.inl ⟨by rfl, ?_⟩) (by assumption) ?_
                  rotate_left 1
                  · intro ws hSw; (try dsimp only at hSw); go_simp; all_goals with_reducible rfl
                  simp only [Act.put, List.setIfInBounds_toArray, List.set_cons_zero, List.set_cons_succ]
                  refine wpAnyH_take (i := 3) (oi := { dst := some 64, op := Op.move (Operand.tmp 10), type := 3, pos := "ref.go:119", after := #[], guard := none }) (v := ?_) rfl (by kernel_rfl) (by kernel_rfl) (by kernel_rfl) (fun _ _ _ h => h) (Or.inl ⟨by rfl, ?_⟩) (by assumption) ?_
                  rotate_left 1
                  · intro ws hSw; (try dsimp only at hSw); go_simp; all_goals with_reducible rfl
                  simp only [Act.put, List.setIfInBounds_toArray, List.set_cons_zero, List.set_cons_succ]
                  refine wpAnyH_take (i := 4) (oi := { dst := some 65, op := Op.binOp BinOp.add 3 (Operand.tmp 64) (Operand.const (Value.int IntKind.i64 64)) 3, type := 3, pos := "ref.go:119", after := #[{ on := 3, ground := Ground.data }], guard := none }) (v := ?_) rfl (by kernel_rfl) (by kernel_rfl) (by kernel_rfl) (fun _ _ _ h => h) (Or.inl ⟨by rfl, ?_⟩) (by assumption) ?_
                  rotate_left 1
                  · intro ws hSw; (try dsimp only at hSw); go_simp; all_goals with_reducible rfl
                  simp only [Act.put, List.setIfInBounds_toArray, List.set_cons_zero, List.set_cons_succ]
                  refine wpAnyH_take (i := 5) (oi := { dst := some 66, op := Op.slice 31 (Operand.tmp 62) (some (Operand.tmp 63)) (some (Operand.tmp 65)) none, type := 31, pos := "ref.go:119", after := #[{ on := 1, ground := Ground.data }, { on := 2, ground := Ground.data }, { on := 4, ground := Ground.data }], guard := none }) (v := .slice A6 64 (c4 - I)) rfl (by kernel_rfl) (by kernel_rfl) (by kernel_rfl) (fun _ _ _ h => h) (by exact yieldsIf_slice (by rfl) 31 (.tmp 62) (.tmp 63) (.tmp 65) (by rfl) (by kernel_rfl) _ _ _ _ (by rfl) (by rfl) (congrArg (Value.int .i64) HWR.out) HSL.out) (by assumption) ?_
                  simp only [Act.put, List.setIfInBounds_toArray, List.set_cons_zero, List.set_cons_succ]
                  refine wpAnyH_take (i := 6) (oi := { dst := some 67, op := Op.move (Operand.tmp 6), type := 85, pos := "ref.go:119", after := #[], guard := none }) (v := ?_) rfl (by kernel_rfl) (by kernel_rfl) (by kernel_rfl) (fun _ _ _ h => h) (Or.inl ⟨by rfl, ?_⟩) (by assumption) ?_
                  rotate_left 1
                  · intro ws hSw; (try dsimp only at hSw); go_simp; all_goals with_reducible rfl
                  simp only [Act.put, List.setIfInBounds_toArray, List.set_cons_zero, List.set_cons_succ]
                  refine wpAnyH_ready (rs := [0]) (by kernel_rfl) (by simp) ?_
                  refine AllReadyH.cons (o := { dst := some 61, op := Op.load 78 (Operand.tmp 8), type := 78, pos := "ref.go:119", after := #[], guard := none }) rfl (fun K hK => ?_) AllReadyH.nil
                  (rw [if_pos (by rfl)]; refine wp_load_row 78 (.tmp 8) (by rfl) g (by rfl) 78 (wc 8 s).toArray (0, 0) _ HS.out Try.underlying78 (by rfl) size_h8 ?_)
                  refine hK.out _ _ ?_ (fun hHeld => ?_)
                  · (first | assumption | exact Lib.hid HBB.out.drew | exact HB8 | exact Lib.hid (below_setRow HB8.out (Nat.le_refl _) CB))
                  clear hK K
                  try simp only [Act.put, List.setIfInBounds_toArray, List.set_cons_zero, List.set_cons_succ]
                  refine wpAnyH_ready (rs := [7]) (by kernel_rfl) (by simp) ?_
                  refine AllReadyH.cons (o := { dst := some 68, op := Op.call { callee := Callee.value (Operand.func 59), args := #[Operand.tmp 61, Operand.tmp 66, Operand.tmp 67], argTypes := #[78, 31, 85] }, type := 78, pos := "ref.go:119", after := #[{ on := 0, ground := Ground.data }, { on := 5, ground := Ground.data }, { on := 6, ground := Ground.data }], guard := none }) rfl (fun K hK => ?_) AllReadyH.nil
                  go_simp
                  (go_at_call 59; refine (rblock_any s A6 Ak (c4 - I) 64 ck b KC _ HB64.out (by omega) (by omega) HBY.out HOK.out HKW.out).mono ?_; rintro e w7 ⟨rfl, hb7⟩; rw [← HCB.out]; have HS7 := Lib.hid (show AB w7 78 g 8 s from HS.out.drew.next hb7); have HB8 := Lib.hid (show Below g w4 w7 from HBB.out.drew.trans (hb7.mono (Nat.le_of_lt hgr))); clear hb7)
                  refine hK.out _ _ ?_ (fun hHeld => ?_)
                  · (first | assumption | exact Lib.hid HBB.out.drew | exact HB8 | exact Lib.hid (below_setRow HB8.out (Nat.le_refl _) CB))
                  clear hK K
                  refine wpAnyH_ready (rs := [8]) (by kernel_rfl) (by simp) ?_
                  refine AllReadyH.cons (o := { dst := none, op := Op.store 78 (Operand.tmp 8) (Operand.tmp 68), type := 0, pos := "ref.go:119", after := #[{ on := 7, ground := Ground.data }, { on := 7, ground := Ground.chain }, { on := 0, ground := Ground.phase }, { on := 1, ground := Ground.phase }, { on := 2, ground := Ground.phase }, { on := 3, ground := Ground.phase }, { on := 4, ground := Ground.phase }, { on := 5, ground := Ground.phase }, { on := 6, ground := Ground.phase }, { on := 7, ground := Ground.phase }], guard := none }) rfl (fun K hK => ?_) AllReadyH.nil
                  rw [if_pos (by rfl)]
                  (refine wp_store_row 78 (.tmp 8) (.tmp 68) (by rfl) g CB (by rfl) (by rfl) 78 (wc 8 s).toArray HS7.out HCBs.out HCBz.out HCBa.out ?_)
                  refine hK.out _ _ ?_ (fun hHeld => ?_)
                  · (first | assumption | exact Lib.hid HBB.out.drew | exact HB8 | exact Lib.hid (below_setRow HB8.out (Nat.le_refl _) CB))
                  clear hK K
                  try simp only [Act.put]
                  refine wpAnyH_done (by kernel_rfl) ?_ _
                  have HS8 := Lib.hid (show AB (w7.setRow g CB) 78 g 8 (blk KC s b) from by unfold AB; rw [← HCB.out]; exact setRow_heap _ _ _ _ _ _ HS7.out)
                  have HB9 := Lib.hid (below_setRow HB8.out (Nat.le_refl _) CB)
                  go_wp2_with fail
                  go_roundw
                  case rel => exact ⟨j + 1, I + 64, blk KC s b, by first | rfl | go_num, by have := HI.out; omega, by omega, HS8.out, blk_ok _ _ _, HFN2.out, HB9.out⟩
                  case measure => simp [intOf]; omega
                · obtain rfl : j = N := by omega
                  have HSUM := Lib.hid (show sumH l = outH s from by rw [HFIN.out, ← hfin, Nat.sub_self]; rfl)
                  have hlt0 : w.heap.size < W0.heap.size := by have := HS0.out; omega
                  have HLT := Lib.hid hlt0
                  have HBW0 := Lib.hid (show Below W0.heap.size W0 wr from HB.out.trans ((HB3.out.mono HB.out.size).trans ((HB4.out.mono (by have := HB.out.size; have := HB3.out.size; omega)).trans (hb.mono (by have := HB.out.size; have := HB3.out.size; have := HB4.out.size; have := HG.out; omega)))))
                  have HOUT := Lib.hid (show wr.heap[w.heap.size]? = some (.cells (hc fun _ => 0) 33 (0, 0)) from (HBW0.out.block _ hlt0).trans HO0.out)
                  have HBW := Lib.hid (show Below w.heap.size w wr from HB0.out.trans (HBW0.out.mono (Nat.le_of_lt hlt0)))
                  have hg0 : w.heap.size < g := by have := HB.out.size; have := HB3.out.size; have := HB4.out.size; have := HG.out; omega
                  have hgr := hs.lt
                  obtain rfl := hI
                  clear hs hok hfin hb hj hlt0 HBW0 HFN HBB HPL HKK HK3 HF4 HCF
                  obtain ⟨W9, hW9⟩ : ∃ W, W = wr := ⟨_, rfl⟩
                  subst hW9
                  go_upto_region 20 with (fail)
                  obtain ⟨Y, hY⟩ : ∃ Z, Z = (hc fun _ => 0) := ⟨_, rfl⟩
                  have HYs := Lib.hid (show (Try.prog.info? 33).map (·.size) = some Y.size from by rw [hY]; exact size_hc)
                  have HYa := Lib.hid (show Y.all (·.oneCell') = true from by rw [hY]; exact hc_all _)
                  have HYY := Lib.hid hY
                  clear hY
                  refine wp_region_list ?_
                  go_step
                  go_step
                  go_step
                  go_step
                  go_step
                  refine wpList_store_row (by rfl) 33 (.tmp 11) (.tmp 69) (by rfl) W9.heap.size Y (by rfl) (by rw [HYY.out]; rfl) 33 (hc fun _ => 0) (by exact heap_alloc_new W9 _) HYs.out (by rw [HYY.out]) HYa.out ?_
                  obtain ⟨V, hV⟩ : ∃ W, W = (W9.alloc (.cells (hc fun _ => 0) 33)).setRow W9.heap.size Y := ⟨_, rfl⟩
                  change wpList _ _ _ _ _ ((W9.alloc (.cells (hc fun _ => 0) 33)).setRow W9.heap.size Y)
                  simp only [Act.put]
                  obtain ⟨o, ho⟩ : ∃ o, o = W9.heap.size := ⟨_, rfl⟩
                  rw [← hV, ← ho]
                  have HVO := Lib.hid (show V.heap[o]? = some (.cells (hc fun j => if j < 0 then outH s j else 0) 33 (0, 0)) from by
                    rw [hV, ho, HYY.out]
                    refine (setRow_heap _ _ _ _ _ _ (heap_alloc_new W9 _)).trans (congrArg some (congrArg (fun c => Obj.cells c 33 (0, 0)) (hc_congr fun j _ => (if_neg (Nat.not_lt_zero j)).symm))))
                  have HVB := Lib.hid (show Below W9.heap.size W9 V from by rw [hV]; exact below_setRow ((Below.refl _ _).alloc (Nat.le_refl _) _) (Nat.le_refl _) Y)
                  have hgo : g < o := by rw [ho]; exact hgr
                  have HVS := Lib.hid (show AB V 78 g 8 s from HS.out.next HVB.out)
                  have HVW := Lib.hid (show Below w.heap.size w V from below_chain HBW.out HVB.out)
                  have HVT := Lib.hid (show V.heap[w.heap.size]? = some (.cells (hc fun _ => 0) 33 (0, 0)) from (HVB.out.block _ (by omega)).trans HOUT.out)
                  clear hV ho HYs HYa HBW HS HOUT HVB
                  go_wp2_with fail
                  go_loopw [12] (fun i wr => ∃ k : Nat, i = .int .i64 (k : Int) ∧ k ≤ 32 ∧ wr.heap[o]? = some (.cells (hc fun j => if j < k then outH s j else 0) 33 (0, 0)) ∧ V.grownBy wr (some o)) (fun i _ => (32 - intOf i).toNat)
                  case atStart => exact ⟨0, rfl, by omega, HVO.out, World.grownBy.refl _ _⟩
                  case round =>
                    obtain ⟨k, rfl, hk, ho, hg⟩ := hrel
                    have HO := Lib.hid ho
                    have HGR := Lib.hid hg
                    have HS' := Lib.hid (show AB wr 78 g 8 s from HVS.out.keep (hg.block _ HVS.out.lt (fun e => by injection e with e; omega)))
                    by_cases hk32 : k < 32
                    · have hc1 := HS'.out.cell (j := k / 4) (by omega)
                      have hc2 : wr.cell? ⟨o, k, none⟩ = some (.int .u8 ((if k < k then outH s k else 0 : Nat) : Int)) := by rw [cell_of_row _ _ _ _ _ _ ho]; exact hc_get _ hk32
                      have hc3 : wr.frozen? ⟨o, k, none⟩ = false := frozen_of_row _ _ _ _ _ ho
                      have hk4 : (k : Int) / 4 < 8 := by omega
                      have hk5 : 0 ≤ (k : Int) / 4 := by omega
                      clear ho hg
                      go_wp2_with fail
                      have hv : ((s (k / 4) : Nat) : Int) / 2 ^ (24 - 8 * (k % 4)) % 256 = ((outH s k : Nat) : Int) := by unfold outH; push_cast; rfl
                      rw [hv]
                      refine ⟨⟨k + 1, by first | rfl | go_num, by omega, ?_, grown_trans HGR.out (set_grown _ _ _ _)⟩, by simp [intOf]; omega⟩
                      rw [hbox_set HO.out]
                      refine congrArg some (congrArg (fun c => Obj.cells c 33 (0, 0)) (hc_congr fun j hj => ?_))
                      by_cases h1 : j = k
                      · rw [if_pos h1, if_pos (by omega), h1]
                      · rw [if_neg h1]
                        by_cases h2 : j < k
                        · rw [if_pos h2, if_pos (by omega)]
                        · rw [if_neg h2, if_neg (by omega)]
                    · obtain rfl : k = 32 := by omega
                      obtain ⟨C, hC⟩ : ∃ C, C = hc (outH s) := ⟨_, rfl⟩
                      have HOC := Lib.hid (show wr.heap[o]? = some (.cells C 33 (0, 0)) from by rw [ho, hC]; exact congrArg some (congrArg (fun c => Obj.cells c 33 (0, 0)) (hc_congr fun j hj => if_pos hj)))
                      have HCs := Lib.hid (show (Try.prog.info? 33).map (·.size) = some C.size from by rw [hC]; exact size_hc)
                      have HCa := Lib.hid (show C.all (·.oneCell') = true from by rw [hC]; exact hc_all _)
                      have HCz := Lib.hid (show (hc fun _ => 0).size = C.size from by rw [hC, hc_size, hc_size])
                      have HC := Lib.hid hC
                      have HRT := Lib.hid (show wr.heap[w.heap.size]? = some (.cells (hc fun _ => 0) 33 (0, 0)) from (hg.block _ (Array.getElem?_eq_some_iff.1 HVT.out).1 (fun e => by injection e with e; omega)).trans HVT.out)
                      have HWR := Lib.hid (show Below w.heap.size w wr from HVW.out.grown hg HVW.out.size (fun k e => by injection e with e; omega))
                      clear hC ho hg
                      go_upto_region 25 with (fail)
                      refine wp_region_list ?_
                      refine wpList_load_row rfl 33 (.tmp 11) rfl o rfl 33 C (0, 0) _ HOC.out Try.underlying33 rfl HCs.out ?_
                      refine wpList_store_row rfl 33 (.tmp 2) (.tmp 87) rfl w.heap.size C rfl rfl 33 (hc fun _ => 0) HRT.out HCs.out HCz.out HCa.out ?_
                      go_wp2_with fail
                      exact bodyPost_ret (v := .agg C) (results_cell_row (by rfl) _ _ w.heap.size 33 _ (0, 0) _ (by rfl) (setRow_heap _ _ _ _ _ _ HRT.out) Try.underlying33 (by rfl) HCs.out) rfl ⟨by rw [HSUM.out, HC.out], below_setRow HWR.out (Nat.le_refl _) C⟩
        · have hml' : m' ≤ 10100 := by omega
          clear hm'
          rw [show ((q + 1 : Nat) : Int) - 1 = (q : Int) from by push_cast; omega]
          rw [HU4.out]
          have hsb : (0 : Int) ≤ 8 * (q : Int) := by omega
          have hsc : 8 * (q : Int) < 64 := by omega
          have hq0 : (0 : Int) ≤ (q : Int) := by omega
          obtain ⟨y, hy⟩ : ∃ y, y = n * 8 / 2 ^ (8 * q) % 256 := ⟨_, rfl⟩
          have HV : (n : Int) * 8 / 2 ^ (8 * q) % 256 = (y : Int) := by rw [hy]; push_cast; rfl
          have HONE := Lib.hid (show Bs (wr.alloc (.cells #[.int .u8 ((n : Int) * 8 / 2 ^ (8 * q) % 256)] 5)) (wr.heap.size + 1) (some ⟨wr.heap.size, 0, none⟩) [y] from by rw [HV]; exact Bs.ofOne wr y)
          have HY8 := Lib.hid hy
          clear hy HV
          go_wp2_with (at_builtin; go_loud (refine wpl_ob rfl (.tmp 33) (.tmp 40) rfl rfl (Ob.alloc HF.out (.cells #[.int .u8 ((n : Int) * 8 / 2 ^ (8 * q) % 256)] 5)) (some ⟨wr.heap.size, 0, none⟩) 1 1 (by rfl) (by rfl) (by rfl) HONE.out (by intro h; cases h) (by simp; have := HM.out; have := HL.out; have := ln8_len n; omega) (by simp; omega) ?_; intro v1 w3 hf1 hg1 hb1))
          obtain ⟨A5, c5, rfl, -, -, -, -⟩ := hf1.rd
          have hL3 : l ++ 128 :: List.replicate (zn n) 0 ++ (ln8 n).take (8 - (q + 1)) ++ [y] = l ++ 128 :: List.replicate (zn n) 0 ++ (ln8 n).take (8 - q) := by
            rw [show 8 - q = (8 - (q + 1)) + 1 from by omega, List.append_assoc _ ((ln8 n).take (8 - (q + 1))), List.take_succ_eq_append_getElem (by rw [ln8_len]; omega), HY8.out]
            simp [ln8]
            rw [show 56 - 8 * (7 - q) = 8 * q from by omega]
          have hL2 : (l ++ 128 :: List.replicate (zn n) 0 ++ (ln8 n).take (8 - (q + 1)) ++ [y]).length = m' + 1 := by rw [hL3]; simp; have := HM.out; have := HM'.out; have := HL.out; have := ln8_len n; omega
          rw [hL2] at hf1 ⊢
          rw [hL3] at hf1
          have HF1 := Lib.hid hf1
          have HB1 := Lib.hid (show Below W0.heap.size W0 w3 from HB.out.trans (((Below.refl _ _).alloc hms _).trans hb1))
          clear hf1 hb1 hg1 hL2 hL3
          go_wp2_with fail
          go_roundw
          case rel => exact ⟨q, m' + 1, A5, c5, by first | rfl | go_num, by omega, rfl, by have := HM'.out; omega, HF1.out, HB1.out⟩
          case measure => simp [intOf]
end Go.Proofs.Ytmpbimechgelfaa

/- The document's Code. -/
import Derived.Test.YtmpbimechgelfaaRSum
namespace Go.Proofs.Ytmpbimechgelfaa
open Go Go.RowKit

/-- Two slices of the call's own that share no block. -/
def Sep (a b : Value) : Prop := a.ownBlock = none ∨ b.ownBlock = none ∨ a.ownBlock ≠ b.ownBlock
theorem Sep.symm {a b : Value} (h : Sep a b) : Sep b a := by
  rcases h with h | h | h
  · exact .inr (.inl h)
  · exact .inl h
  · exact .inr (.inr (Ne.symm h))
theorem Sep.step {w : World} {base : Nat} {e : TypeId} {sz n k : Nat} {f : Nat → Value} {a a' b : Value} (h : Sep a b) (hown : Own w base e sz b n f) (h5 : a'.ownBlock = a.ownBlock ∨ a'.ownBlock = some k) (hk : w.heap.size ≤ k) : Sep a' b := by
  rcases h5 with h5 | h5
  · unfold Sep; rw [h5]; exact h
  · refine .inr (.inr ?_)
    rw [h5]
    intro e
    have := (Own.block hown k e.symm).2
    omega
theorem Own.keptSep {w w' : World} {base : Nat} {e : TypeId} {sz n : Nat} {f : Nat → Value} {a b : Value} (hown : Own w base e sz b n f) (h : Sep a b) (hg : w.grownBy w' a.ownBlock) : Own w' base e sz b n f := by
  refine hown.kept hg ?_
  rcases h with h | h | h
  · by_cases hb : b.ownBlock = none
    · exact .inl hb
    · exact .inr (by rw [h]; exact hb)
  · exact .inl h
  · exact .inr (Ne.symm h)
theorem run_ob2 {w : World} {base B : Nat} {v : Value} {l m : List Nat} (h : Ob w base v l) (A : Option Addr) (n c : Nat) (hn : n = m.length) (hr : Bs w B A m) (hc : A = none → c = 0) (hlen : l.length + m.length ≤ 2000000) (hbase : base ≤ w.heap.size) :
    ∃ v' w', (Builtin.append_ #[31, 31] 31 #[v, .slice A n c]).run Try.prog w = .ok v' w' ∧ Ob w' base v' (l ++ m) ∧ w.grownBy w' v.ownBlock ∧ Below base w w' ∧ (v'.ownBlock = v.ownBlock ∨ v'.ownBlock = some w.heap.size) := by
  obtain ⟨i0, hi0, hz0, hz1, hz2⟩ := info_parts info_u8
  subst hn
  obtain ⟨v', w', hrun, h2, h3, h4⟩ := run_app (P := Try.prog) w base 31 31 5 i0 _ 1 1 Try.underlying31 hi0 hz0 hz1 hz2 rfl (by omega) v l.length (bf l) h B A m.length c (bf m) hr hc (fun j _ => bf_one _ j) (by unfold maxLen; omega) (by omega) hbase
  exact ⟨v', w', hrun, Ob.app h2, h3, (Below.refl _ _).grown h3 hbase (fun k hk => (Own.block h k hk).1), h4⟩
/-- 'append(v, x...)' of bytes, at a plain region; where the bytes lie then. -/
theorem wpl_ob2 {w : World} {ops : Array Oper} {rest : List Oper} {o : Oper} {a : Act} {Q : Exit → Act → World → Prop} (hgd : o.guard = none) (s y : Operand)
    (ho : o.op = .call { callee := .builtin .append, args := #[s, y], argTypes := #[31, 31] }) (hty : o.type = 31) {base B : Nat} {v : Value} {l m : List Nat} (h : Ob w base v l) (A : Option Addr) (n c : Nat) (hn : n = m.length)
    (hs : a.eval s = v) (hy : a.eval y = .slice A n c) (hr : Bs w B A m) (hc : A = none → c = 0) (hlen : l.length + m.length ≤ 2000000) (hbase : base ≤ w.heap.size)
    (hk : ∀ v' w', Ob w' base v' (l ++ m) → w.grownBy w' v.ownBlock → Below base w w' → (v'.ownBlock = v.ownBlock ∨ v'.ownBlock = some w.heap.size) → wpList Try.prog ops Q rest (a.put o.dst v') w') : wpList Try.prog ops Q (o :: rest) a w := by
  obtain ⟨v', w', hrun, h2, h3, h4, h5⟩ := run_ob2 h A n c hn hr hc hlen hbase
  refine wpList_plain hgd fun K hK => ?_
  unfold Oper.wp execOp
  simp only [ho, hty, resolve, invoke, builtin, Sem.run_bind, Sem.run_pure, Result.andThen_ok, List.map_toArray, List.map_cons, List.map_nil, hs, hy, hrun]
  exact hK _ _ (hk v' w' h2 h3 h4 h5)
/-- The first j bytes of z, each turned by x. -/
def xz (z : List Nat) (x j : Nat) : List Nat := (List.range j).map fun i => x ^^^ (z[i]?.getD 0)
theorem xz_len (z : List Nat) (x j : Nat) : (xz z x j).length = j := by simp [xz]
theorem xz_succ (z : List Nat) (x j : Nat) : xz z x j ++ [x ^^^ (z[j]?.getD 0)] = xz z x (j + 1) := by unfold xz; rw [List.range_succ, List.map_append]; rfl
theorem pad_at (k : List Nat) (q i : Nat) : (k ++ List.replicate q 0)[i]?.getD 0 = k[i]?.getD 0 := by
  by_cases h : i < k.length
  · rw [List.getElem?_append_left h]
  · rw [List.getElem?_append_right (by omega), List.getElem?_eq_none (l := k) (by omega)]
    by_cases h2 : i - k.length < q
    · rw [List.getElem?_replicate, if_pos h2]; rfl
    · rw [List.getElem?_eq_none (by rw [List.length_replicate]; omega)]
theorem xz_pad (k : List Nat) (q x : Nat) : xz (k ++ List.replicate q 0) x 64 = xorK k x := List.map_congr_left fun i _ => by rw [pad_at]
set_option maxRecDepth 100000 in
set_option maxHeartbeats 8000000 in
theorem rcode_any (A1 A2 : Option Addr) (n m c1 c2 : Nat) (k t : List Nat) (w : World) (h1 : Bs w w.heap.size A1 k) (h2 : Bs w w.heap.size A2 t) (b1 : Byt k) (b2 : Byt t) (hn : n = k.length) (hm : m = t.length) (hk : n ≤ 600) (ht : m ≤ 600) (e1 : A1 = none → c1 = 0) (e2 : A2 = none → c2 = 0) :
    Calls Try.prog 35 #[.slice A1 n c1, .slice A2 m c2] w fun e w' => e = .returned (.agg (hc (codeH k t))) ∧ Below w.heap.size w w' := by
  have HN := Lib.hid hn
  have HM := Lib.hid hm
  have HBK := Lib.hid b1
  have HBT := Lib.hid b2
  have HE1 := Lib.hid e1
  have HE2 := Lib.hid e2
  have HI1 := Lib.hid h1
  have HI2 := Lib.hid h2
  clear hn hm b1 b2 e1 e2 h1 h2
  go_enter Try.func35, Try.ntmps35
  go_upto_region 1 with (fail)
  obtain ⟨W0, hW0⟩ : ∃ W0, W0 = w.alloc (.cells (hc fun _ => 0) 33) := ⟨_, rfl⟩
  change Code.wp _ _ _ _ (w.alloc (.cells (hc fun _ => 0) 33))
  rw [← hW0]
  have HS0 := Lib.hid (show W0.heap.size = w.heap.size + 1 from by rw [hW0]; simp)
  have HB0 := Lib.hid (show Below w.heap.size w W0 from by rw [hW0]; exact (by repeat (first | exact Below.refl _ _ | assumption | refine below_drewN ?_ _ | refine Below.drew ?_ | refine Below.alloc ?_ (by simp; try omega) _ | refine Below.setCell ?_ (by simp; try omega) _)))
  have HO0 := Lib.hid (show W0.heap[w.heap.size]? = some (.cells (hc fun _ => 0) 33 (0, 0)) from by rw [hW0]; exact heap_alloc_new w _)
  have HT0 := Lib.hid (HI2.out.next HB0.out)
  have HR0 := Lib.hid (show Bs (W0.alloc (.cells #[] 5)) W0.heap.size A1 k from ((HI1.out.next HB0.out).below ((Below.refl _ _).alloc (Nat.le_refl _) _)))
  clear hW0 HI1 HI2
  go_upto_if 16 with (at_builtin; go_loud (refine wpl_ob rfl (.tmp 11) (.tmp 12) rfl rfl (Ob.empty W0 (Nat.le_refl _)) A1 n c1 HN.out (by rfl) (by rfl) HR0.out HE1.out (by rw [← HN.out]; simp; omega) (by simp) ?_; intro v1 w1 hob1 hg1 hbl1; rw [List.nil_append] at hob1; obtain ⟨A3, c3, rfl, -, -, -, -⟩ := hob1.rd; rw [← HN.out] at hob1 ⊢; have HOB1 := Lib.hid hob1; have HB1 := Lib.hid (show Below W0.heap.size W0 w1 from ((Below.refl _ _).alloc (Nat.le_refl _) _).trans hbl1); have hsz1 := HB1.out.size; clear hob1 hg1 hbl1))
  go_cut [5] from 11 (fun u5 wc => ∃ (A : Option Addr) (q c : Nat), u5 = .slice A q c ∧ q = (keyN k).length ∧ Ob wc W0.heap.size (.slice A q c) (keyN k) ∧ Below W0.heap.size W0 wc)
  case first =>
    by_cases h64 : 64 < n
    · have hd3 : decide ((64 : Int) < (n : Int)) = true := by simp; omega
      have HKN := Lib.hid (show keyN k = hl (sumH k) from by unfold keyN; rw [if_pos (by rw [← HN.out]; omega)])
      have HA3 := Lib.hid HOB1.out.rd
      go_upto_region 3 with (fail)
      obtain ⟨A3', c3', he3, hbs3, hc3, hm3, hn3⟩ := HA3.out
      rw [← HN.out] at he3
      injection he3 with e1 _ e2
      subst e1 e2
      have HBS3 := Lib.hid hbs3
      have HN3 := Lib.hid hn3
      clear hbs3 hc3 hm3 hn3 HA3
      refine wp_region_list ?_
      repeat (first | go_values | go_skip | go_guarded | go_step | go_upon)
      refine (rsum_any A3 n c3 k _ HBS3.out HN.out HBK.out (by rw [← HN.out]; omega) HN3.out).mono ?_
      rintro e w3 ⟨rfl, hb3⟩
      obtain ⟨C1, hC1⟩ : ∃ C, C = hc (sumH k) := ⟨_, rfl⟩
      rw [← hC1]
      have HC1s := Lib.hid (show (Try.prog.info? 33).map (·.size) = some C1.size from by rw [hC1]; exact size_hc)
      have HC1a := Lib.hid (show C1.all (·.oneCell') = true from by rw [hC1]; exact hc_all _)
      have HC1z := Lib.hid (show (hc fun _ => 0).size = C1.size from by rw [hC1, hc_size, hc_size])
      have HCV := Lib.hid hC1
      have HB3 := Lib.hid (show Below W0.heap.size W0 w3 from HB1.out.trans (hb3.mono hsz1))
      clear hC1 hb3
      dsimp only
      go_step
      go_step
      go_step
      go_step
      refine wpList_store_row (by rfl) 33 (.tmp 6) (.tmp 18) (by rfl) w3.heap.size C1 (by rfl) (by rfl) 33 (hc fun _ => 0) (by exact heap_alloc_new w3 _) HC1s.out HC1z.out HC1a.out ?_
      obtain ⟨W4, hW4⟩ : ∃ W, W = (w3.alloc (.cells (hc fun _ => 0) 33)).setRow w3.heap.size C1 := ⟨_, rfl⟩
      change wpList _ _ _ _ _ ((w3.alloc (.cells (hc fun _ => 0) 33)).setRow w3.heap.size C1)
      simp only [Act.put]
      rw [← hW4]
      have HX4 := Lib.hid (show Bs W4 W4.heap.size (some ⟨w3.heap.size, 0, none⟩) (hl (sumH k)) from Bs.box (by rw [← HCV.out]; exact (box_made hW4).1) (by rw [hW4]; simp [World.setRow]))
      have hb34 := (box_made hW4).2
      have HB4 := Lib.hid (show Below W0.heap.size W0 W4 from HB3.out.trans (hb34.mono HB3.out.size))
      obtain ⟨g, hg⟩ : ∃ g, g = w3.heap.size := ⟨_, rfl⟩
      rw [← hg] at HX4 ⊢
      have hB4s := HB4.out.size
      have HX4b := Lib.hid (show Bs (W4.alloc (.cells #[] 5)) W4.heap.size (some ⟨g, 0, none⟩) (hl (sumH k)) from Bs.below HX4.out ((Below.refl _ _).alloc (Nat.le_refl _) _))
      have hl32 : 32 = (hl (sumH k)).length := (hl_len _).symm
      have HL32 := Lib.hid hl32
      clear hW4 hg hl32 hb34 HC1s HC1a HC1z
      go_wp2_with (at_builtin; go_loud (refine wpl_ob rfl (.tmp 19) (.tmp 20) rfl rfl (Ob.empty W4 hB4s) (some ⟨g, 0, none⟩) 32 32 HL32.out (by rfl) (by rfl) HX4b.out (by intro h; cases h) (by rw [← HL32.out]; simp) (by simp; omega) ?_; intro v5 w5 hob5 hg5 hbl5; rw [List.nil_append] at hob5))
      obtain ⟨A5, c5, rfl, -, -, -, -⟩ := hob5.rd
      rw [← HL32.out] at hob5 ⊢
      have HOB5 := Lib.hid hob5
      have HB5 := Lib.hid (show Below W0.heap.size W0 w5 from (HB4.out.alloc hB4s _).trans hbl5)
      clear hob5 hg5 hbl5
      go_wp2_with fail
      go_meet
      case rel => exact ⟨A5, 32, c5, rfl, by rw [HKN.out]; exact HL32.out, by rw [HKN.out]; exact HOB5.out, HB5.out⟩
    · have hd3 : decide ((64 : Int) < (n : Int)) = false := by simp; omega
      have HKN := Lib.hid (show keyN k = k from by unfold keyN; rw [if_neg (by rw [← HN.out]; omega)])
      go_wp2_with fail
      go_meet
      case rel => exact ⟨A3, n, c3, rfl, by rw [HKN.out]; exact HN.out, by rw [HKN.out]; exact HOB1.out, HB1.out⟩
  case rest =>
    obtain ⟨A4, q, c4, rfl, hq, hob4, hb4⟩ := hcut
    have HOB4 := Lib.hid hob4
    have HB4 := Lib.hid hb4
    have HQ := Lib.hid hq
    have hq64 : q ≤ 64 := by rw [hq]; exact keyN_len k
    have hTY := Lib.hid (keyN_byt HBK.out)
    obtain ⟨kk, hkk⟩ : ∃ kk, kk = keyN k := ⟨_, rfl⟩
    rw [← hkk] at HOB4 HQ hTY
    have HKK := Lib.hid hkk
    clear hob4 hb4 hq hkk HOB1 HB1 hsz1 HR0
    go_wp2_with fail
    go_loopw [5] (fun v wr => ∃ (r q' : Nat) (A : Option Addr) (c : Nat), v = .slice A q' c ∧ q' = q + r ∧ q' ≤ 64 ∧ Ob wr W0.heap.size (.slice A q' c) (kk ++ List.replicate r 0) ∧ Below W0.heap.size W0 wr) (fun v _ => (64 - (match v with | .slice _ m _ => m | _ => 0)))
    case atStart => exact ⟨0, q, A4, c4, rfl, rfl, hq64, by rw [List.replicate_zero, List.append_nil]; exact HOB4.out, HB4.out⟩
    case round =>
      obtain ⟨r, q', A5, c5, rfl, hq', hq'64, hob, hb⟩ := hrel
      have HOB := Lib.hid hob
      have HB := Lib.hid hb
      have HQ' := Lib.hid hq'
      have hms0 := hb.size
      clear hob hb hq' HOB4 HB4
      by_cases hlt : q' < 64
      · have HONE := Lib.hid (Bs.ofOne wr 0)
        go_wp2_with (at_builtin; go_loud (refine wpl_ob rfl (.tmp 25) (.tmp 26) rfl rfl (Ob.alloc HOB.out (.cells #[.int .u8 ((0 : Nat) : Int)] 5)) (some ⟨wr.heap.size, 0, none⟩) 1 1 (by rfl) (by rfl) (by rfl) HONE.out (by intro h; cases h) (by rw [List.length_append, ← HQ.out]; simp; have := HQ'.out; omega) (by simp; omega) ?_; intro v5 w5 hob5 hg5 hbl5))
        have hl5 : kk ++ List.replicate r 0 ++ [0] = kk ++ List.replicate (r + 1) 0 := by rw [List.append_assoc, List.replicate_succ']
        rw [hl5] at hob5
        obtain ⟨A6, c6, rfl, -, -, -, -⟩ := hob5.rd
        have hl6 : (kk ++ List.replicate (r + 1) 0).length = q' + 1 := by rw [List.length_append, ← HQ.out]; simp; have := HQ'.out; omega
        rw [hl6] at hob5 ⊢
        have HOB5 := Lib.hid hob5
        have HB5 := Lib.hid (show Below W0.heap.size W0 w5 from (HB.out.alloc hms0 _).trans hbl5)
        clear hob5 hg5 hbl5 hl5 hl6
        go_wp2_with fail
        go_roundw
        case rel => exact ⟨r + 1, q' + 1, A6, c6, rfl, by have := HQ'.out; omega, by omega, HOB5.out, HB5.out⟩
        case measure => simp; omega
      · obtain rfl : q' = 64 := by omega
        have HZ64 := Lib.hid (show (kk ++ List.replicate r 0).length = 64 from by rw [List.length_append, ← HQ.out, List.length_replicate]; exact HQ'.out.symm)
        have HX54 := Lib.hid (xz_pad kk r 54)
        have HX92 := Lib.hid (xz_pad kk r 92)
        have HZB := Lib.hid (show Byt (kk ++ List.replicate r 0) from hTY.out.app (by intro x hx; rw [List.eq_of_mem_replicate hx]; decide))
        obtain ⟨z, hz⟩ : ∃ z, z = kk ++ List.replicate r 0 := ⟨_, rfl⟩
        rw [← hz] at HOB HZ64 HX54 HX92 HZB
        obtain ⟨A5', c5', he5, hbs5, -, -, -⟩ := HOB.out.rd
        rw [HZ64.out] at he5
        injection he5 with e1 _ e2
        subst e1 e2
        obtain ⟨bk, ok, rfl, hbk, hck⟩ := hbs5 (by rw [HZ64.out]; omega)
        have HCK := Lib.hid (show ∀ j, j < 64 → wr.cell? ⟨bk, ok + j, none⟩ = some (.int .u8 ((z[j]?.getD 0 : Nat) : Int)) from fun j hj => hck j (by rw [HZ64.out]; omega))
        obtain ⟨W1, hW1⟩ : ∃ W, W = wr := ⟨_, rfl⟩
        subst hW1
        clear hbs5 hck hz hlt
        go_wp2_with fail
        go_loopw [7, 8, 9] (fun vi vo i wr => ∃ (j q1 q2 : Nat) (A B : Option Addr) (c d : Nat), i = .int .i64 (j : Int) ∧ j ≤ 64 ∧ vi = .slice A q1 c ∧ vo = .slice B q2 d ∧ q1 = j ∧ q2 = j ∧ Ob wr W1.heap.size (.slice A q1 c) (xz z 54 j) ∧ Ob wr W1.heap.size (.slice B q2 d) (xz z 92 j) ∧ Sep (.slice A q1 c) (.slice B q2 d) ∧ Below W1.heap.size W1 wr) (fun _ _ i _ => (64 - intOf i).toNat)
        case atStart => exact ⟨0, 0, 0, none, none, 0, 0, rfl, by omega, rfl, rfl, rfl, rfl, Ob.nil, Ob.nil, .inl rfl, Below.refl _ _⟩
        case round =>
          obtain ⟨j, q1, q2, A7, A8, c7, c8, rfl, hj, rfl, rfl, hq1, hq2, hi, ho, hsep, hb⟩ := hrel
          have HIN := Lib.hid hi
          have HOU := Lib.hid ho
          have HSEP := Lib.hid hsep
          have HBW := Lib.hid hb
          have HQ1 := Lib.hid hq1
          have HQ2 := Lib.hid hq2
          have hms := hb.size
          clear hi ho hsep hb hq1 hq2
          by_cases hlt : j < 64
          · obtain ⟨x, hx⟩ : ∃ x, x = z[j]?.getD 0 := ⟨_, rfl⟩
            have hx256 : x < 256 := by rw [hx]; exact HZB.out.at_ j
            have d0 : wr.cell? ⟨bk, ok + j, none⟩ = some (.int .u8 (x : Int)) := by rw [HBW.out.cell (p := ⟨bk, ok + j, none⟩) hbk, HCK.out j hlt, hx]
            obtain ⟨y1, hy1⟩ : ∃ y, y = x ^^^ 54 := ⟨_, rfl⟩
            obtain ⟨y2, hy2⟩ : ∃ y, y = x ^^^ 92 := ⟨_, rfl⟩
            have e1 : bits BinOp.xor IntKind.u8 (x : Int) 54 = (y1 : Int) := by rw [hy1]; exact u8_xor_nat x 54 hx256 (by omega)
            have e2 : bits BinOp.xor IntKind.u8 (x : Int) 92 = (y2 : Int) := by rw [hy2]; exact u8_xor_nat x 92 hx256 (by omega)
            have HX1 := Lib.hid (show xz z 54 j ++ [y1] = xz z 54 (j + 1) from by rw [← xz_succ, hy1, hx, Nat.xor_comm])
            have HX2 := Lib.hid (show xz z 92 j ++ [y2] = xz z 92 (j + 1) from by rw [← xz_succ, hy2, hx, Nat.xor_comm])
            have HONE1 := Lib.hid (Bs.ofOne wr y1)
            clear hx hy1 hy2 hx256
            go_wp2_with (at_builtin; first | ((refine wpl_ob2 rfl (.tmp 32) (.tmp 38) rfl rfl (Ob.alloc HIN.out (.cells #[.int .u8 (y1 : Int)] 5)) (some ⟨wr.heap.size, 0, none⟩) 1 1 (by rfl) (by rfl) (by rfl) HONE1.out (by intro h; cases h) (by rw [xz_len]; simp; omega) (by simp; omega) ?_; intro v5 w5 hob5 hg5 hbl5 ho5; have d1 := (hbl5.cell (p := ⟨bk, ok + j, none⟩) hbk).trans (((Below.refl W1.heap.size wr).alloc hms (.cells #[.int .u8 (y1 : Int)] 5)).cell (p := ⟨bk, ok + j, none⟩) hbk |>.trans d0); have HOU5 := Lib.hid (show Ob w5 W1.heap.size (.slice A8 q2 c8) (xz z 92 j) from Own.keptSep (Own.alloc HOU.out _) HSEP.out hg5); have HSEP5 := Lib.hid (show Sep v5 (.slice A8 q2 c8) from Sep.step HSEP.out (Own.alloc HOU.out (.cells #[.int .u8 (y1 : Int)] 5)) ho5 (Nat.le_refl _)); have HIN5 := Lib.hid (show Ob w5 W1.heap.size v5 (xz z 54 (j + 1)) from by rw [← HX1.out]; exact hob5); have HBW5 := Lib.hid (show Below W1.heap.size W1 w5 from (HBW.out.alloc hms _).trans hbl5); have hms5 := HBW5.out.size; have HONE2 := Lib.hid (Bs.ofOne w5 y2); clear hob5 hg5 hbl5 ho5)) | (go_loud (refine wpl_ob2 rfl (.tmp 40) (.tmp 46) rfl rfl (Ob.alloc HOU5.out (.cells #[.int .u8 (y2 : Int)] 5)) (some ⟨w5.heap.size, 0, none⟩) 1 1 (by rfl) (by rfl) (by rfl) HONE2.out (by intro h; cases h) (by rw [xz_len]; simp; omega) (by simp; omega) ?_; intro v6 w6 hob6 hg6 hbl6 ho6)))
            have HIN6 := Lib.hid (show Ob w6 W1.heap.size v5 (xz z 54 (j + 1)) from Own.keptSep (Own.alloc HIN5.out _) HSEP5.out.symm hg6)
            have HSEP6 := Lib.hid (show Sep v5 v6 from (Sep.step HSEP5.out.symm (Own.alloc HIN5.out (.cells #[.int .u8 (y2 : Int)] 5)) ho6 (Nat.le_refl _)).symm)
            have HOU6 := Lib.hid (show Ob w6 W1.heap.size v6 (xz z 92 (j + 1)) from by rw [← HX2.out]; exact hob6)
            have HBW6 := Lib.hid (show Below W1.heap.size W1 w6 from (HBW5.out.alloc hms5 _).trans hbl6)
            obtain ⟨A9, c9, rfl, -, -, -, -⟩ := HIN5.out.rd
            obtain ⟨A10, c10, rfl, -, -, -, -⟩ := HOU6.out.rd
            clear hob6 hg6 hbl6 ho6 HIN5 HSEP5 HOU5 HBW5
            rw [xz_len z 54] at HIN6 HSEP6 ⊢
            rw [xz_len z 92] at HSEP6 HOU6 ⊢
            go_roundw
            case rel => exact ⟨j + 1, j + 1, j + 1, A9, A10, c9, c10, by first | rfl | go_num, by omega, rfl, rfl, rfl, rfl, HIN6.out, HOU6.out, HSEP6.out, HBW6.out⟩
            case measure => simp [intOf]; omega
          · obtain rfl : j = 64 := by omega
            obtain rfl : q1 = 64 := HQ1.out
            obtain rfl : q2 = 64 := HQ2.out
            rw [HX54.out] at HIN
            rw [HX92.out] at HOU
            have HT1 := Lib.hid (show Bs wr W0.heap.size A2 t from Bs.below HT0.out (HB.out.trans (HBW.out.mono hms0)))
            obtain ⟨W2, hW2⟩ : ∃ W, W = wr := ⟨_, rfl⟩
            subst hW2
            clear hlt HX54 HX92 HZB HZ64
            go_upto_region 14 with (fail)
            refine wp_region_list ?_
            repeat (first | (at_builtin; refine wpl_ob2 rfl (.tmp 48) (.tmp 49) rfl rfl HIN.out A2 m c2 HM.out (by rfl) (by rfl) HT1.out HE2.out (by rw [xorK_len, ← HM.out]; omega) hms ?_; intro v5 w5 hob5 hg5 hbl5 ho5) | go_values | go_skip | go_guarded | go_step | go_upon)
            obtain ⟨A9, c9, rfl, hbs9, hc9, hm9, hn9⟩ := hob5.rd
            have HOU5 := Lib.hid (show Ob w5 W1.heap.size (.slice A8 64 c8) (xorK kk 92) from Own.keptSep HOU.out HSEP.out hg5)
            have HBW5 := Lib.hid (show Below W1.heap.size W1 w5 from HBW.out.trans hbl5)
            have hms5 := HBW5.out.size
            obtain ⟨T1, hT1⟩ : ∃ T, T = xorK kk 54 ++ t := ⟨_, rfl⟩
            have HT1l := Lib.hid (show T1.length = 64 + m from by rw [hT1, List.length_append, xorK_len, ← HM.out])
            have HT1b := Lib.hid (show Byt T1 from by rw [hT1]; exact (xorK_byt hTY.out (by omega)).app HBT.out)
            rw [← hT1] at hbs9 ⊢
            have HBS9 := Lib.hid hbs9
            have HTT1 := Lib.hid hT1
            clear hob5 hg5 hbl5 ho5 hbs9 hT1 HIN HOU HSEP hc9 hm9
            refine (rsum_any A9 _ c9 T1 _ HBS9.out rfl HT1b.out (by rw [HT1l.out]; omega) hn9).mono ?_
            rintro e w6 ⟨rfl, hb6⟩
            obtain ⟨H1, hH1⟩ : ∃ h, h = sumH T1 := ⟨_, rfl⟩
            obtain ⟨C1, hC1⟩ : ∃ C, C = hc H1 := ⟨_, rfl⟩
            rw [← hH1, ← hC1]
            have HH1 := Lib.hid hH1
            have HH1b := Lib.hid (show ∀ j, H1 j < 256 from by rw [hH1]; exact sumH_lt T1)
            have HC1s := Lib.hid (show (Try.prog.info? 33).map (·.size) = some C1.size from by rw [hC1]; exact size_hc)
            have HC1a := Lib.hid (show C1.all (·.oneCell') = true from by rw [hC1]; exact hc_all _)
            have HC1z := Lib.hid (show (hc fun _ => 0).size = C1.size from by rw [hC1, hc_size, hc_size])
            have HCV := Lib.hid hC1
            have HOU6 := Lib.hid (HOU5.out.next hb6)
            have HB6 := Lib.hid (show Below W1.heap.size W1 w6 from HBW5.out.trans (hb6.mono hms5))
            clear hC1 hH1 hb6 HOU5
            dsimp only
            go_step
            go_step
            go_step
            go_step
            refine wpList_store_row (by rfl) 33 (.tmp 10) (.tmp 51) (by rfl) w6.heap.size C1 (by rfl) (by rfl) 33 (hc fun _ => 0) (by exact heap_alloc_new w6 _) HC1s.out HC1z.out HC1a.out ?_
            obtain ⟨W7, hW7⟩ : ∃ W, W = (w6.alloc (.cells (hc fun _ => 0) 33)).setRow w6.heap.size C1 := ⟨_, rfl⟩
            change wpList _ _ _ _ _ ((w6.alloc (.cells (hc fun _ => 0) 33)).setRow w6.heap.size C1)
            simp only [Act.put]
            rw [← hW7]
            have HX7 := Lib.hid (show Bs W7 W7.heap.size (some ⟨w6.heap.size, 0, none⟩) (hl H1) from Bs.box (by rw [← HCV.out]; exact (box_made hW7).1) (by rw [hW7]; simp [World.setRow]))
            have hb67 := (box_made hW7).2
            have HB7 := Lib.hid (show Below W1.heap.size W1 W7 from HB6.out.trans (hb67.mono HB6.out.size))
            have HOU7 := Lib.hid (HOU6.out.next hb67)
            obtain ⟨g, hg⟩ : ∃ g, g = w6.heap.size := ⟨_, rfl⟩
            rw [← hg] at HX7 ⊢
            have hB7s := HB7.out.size
            have hl32 : 32 = (hl H1).length := (hl_len _).symm
            have HL32 := Lib.hid hl32
            clear hW7 hg hl32 hb67 HC1s HC1a HC1z HOU6
            go_upto_region 15 with (fail)
            refine wp_region_list ?_
            repeat (first | (at_builtin; refine wpl_ob2 rfl (.tmp 52) (.tmp 53) rfl rfl HOU7.out (some ⟨g, 0, none⟩) 32 32 HL32.out (by rfl) (by rfl) HX7.out (by intro h; cases h) (by rw [xorK_len, ← HL32.out]; omega) hB7s ?_; intro v8 w8 hob8 hg8 hbl8 ho8) | go_values | go_skip | go_guarded | go_step | go_upon)
            obtain ⟨A10, c10, rfl, hbs10, hc10, hm10, hn10⟩ := hob8.rd
            have HBW8 := Lib.hid (show Below W1.heap.size W1 w8 from HB7.out.trans hbl8)
            have hms8 := HBW8.out.size
            obtain ⟨T2, hT2⟩ : ∃ T, T = xorK kk 92 ++ hl H1 := ⟨_, rfl⟩
            have HT2l := Lib.hid (show T2.length = 96 from by rw [hT2, List.length_append, xorK_len, hl_len])
            have HT2b := Lib.hid (show Byt T2 from by rw [hT2]; exact (xorK_byt hTY.out (by omega)).app (hl_byt HH1b.out))
            rw [← hT2] at hbs10 ⊢
            have HFIN := Lib.hid (show codeH k t = sumH T2 from by unfold codeH; rw [← HKK.out, ← HTT1.out, ← HH1.out, ← hT2])
            have HBS10 := Lib.hid hbs10
            clear hob8 hg8 hbl8 ho8 hbs10 hT2 hc10 hm10
            refine (rsum_any A10 _ c10 T2 _ HBS10.out rfl HT2b.out (by rw [HT2l.out]; omega) hn10).mono ?_
            rintro e w9 ⟨rfl, hb9⟩
            obtain ⟨C2, hC2⟩ : ∃ C, C = hc (sumH T2) := ⟨_, rfl⟩
            rw [← hC2]
            have HC2s := Lib.hid (show (Try.prog.info? 33).map (·.size) = some C2.size from by rw [hC2]; exact size_hc)
            have HC2a := Lib.hid (show C2.all (·.oneCell') = true from by rw [hC2]; exact hc_all _)
            have HC2z := Lib.hid (show (hc fun _ => 0).size = C2.size from by rw [hC2, hc_size, hc_size])
            have HC2v := Lib.hid hC2
            have HB9 := Lib.hid (show Below W1.heap.size W1 w9 from HBW8.out.trans (hb9.mono hms8))
            have hlt0 : w.heap.size < W0.heap.size := by have := HS0.out; omega
            have HBA := Lib.hid (show Below W0.heap.size W0 w9 from HB.out.trans (HB9.out.mono hms0))
            have HOR := Lib.hid (show w9.heap[w.heap.size]? = some (.cells (hc fun _ => 0) 33 (0, 0)) from (HBA.out.block _ hlt0).trans HO0.out)
            have HBF := Lib.hid (show Below w.heap.size w w9 from HB0.out.trans (HBA.out.mono (Nat.le_of_lt hlt0)))
            clear hC2 hb9 hlt0
            dsimp only
            repeat (first
              | refine wpList_store_row (by rfl) 33 (.tmp 4) (.tmp 55) (by rfl) w.heap.size C2 (by rfl) (by rfl) 33 (hc fun _ => 0) HOR.out HC2s.out HC2z.out HC2a.out ?_
              | go_values | go_skip | go_guarded | go_step | go_upon)
            go_wp2_with fail
            exact bodyPost_ret (v := .agg C2) (results_cell_row (by rfl) _ _ w.heap.size 33 _ (0, 0) _ (by rfl) (setRow_heap _ _ _ _ _ _ HOR.out) Try.underlying33 (by rfl) HC2s.out) rfl ⟨by rw [HFIN.out, HC2v.out], below_setRow HBF.out (Nat.le_refl _) C2⟩
end Go.Proofs.Ytmpbimechgelfaa

/- The document's numbers and texts (its Int, its Text). -/
import Derived.Test.YtbnlobfhcanbgaaRead
namespace Go.Proofs.Ytbnlobfhcanbgaa
open Go Go.RowKit

/-- A new slice that is full. -/
theorem Own.full {w : World} {base e sz n : Nat} {f : Nat → Value} {cur : Array Value} (hb : base ≤ w.heap.size) (hm : n ≤ maxLen) (hs : cur.size = n * sz) (hc : ∀ j, j < n * sz → cur[j]? = some (f j)) :
    Own (w.alloc (.cells cur e)) base e sz (.slice (some ⟨w.heap.size, 0, none⟩) n n) n f := by
  refine ⟨by simp, .inr ⟨w.heap.size, n, cur, rfl, hb, heap_alloc_new w _, Nat.le_refl _, hm, hs, ?_⟩⟩
  refine List.ext_getElem? fun i => ?_
  by_cases hi : i < n * sz
  · rw [List.getElem?_take_of_lt hi, Array.getElem?_toList, hc i hi]; simp [hi]
  · rw [List.getElem?_eq_none (by simp; omega), List.getElem?_eq_none (by simp; omega)]
theorem twice_any (n : Int) (w : World) (hn : Fit n) : Calls Try.prog 29 #[.int .i64 n] w fun e w' => e = .returned (.int .u64 ((zz n : Nat) : Int)) ∧ w' = w := by
  by_cases h : n < 0
  · have hz : IntKind.u64.wrap (IntKind.u64.wrap (2 * IntKind.u64.wrap (wrap64 (-wrap64 (n + 1)))) + 1) = ((zz n : Nat) : Int) := by
      unfold zz Fit wrap64 at *
      rw [if_pos h]
      simp only [wrap_u64]
      omega
    have HZ := Lib.hid hz
    clear hz hn
    go_enter Try.func29, Try.ntmps29
    go_wp2
    go_ret
    exact ⟨congrArg (fun x => Ending.returned (.int .u64 x)) HZ.out, rfl⟩
  · have hz : IntKind.u64.wrap (2 * IntKind.u64.wrap n) = ((zz n : Nat) : Int) := by
      unfold zz Fit at *
      rw [if_neg h]
      simp only [wrap_u64]
      omega
    have HZ := Lib.hid hz
    clear hz hn
    go_enter Try.func29, Try.ntmps29
    go_wp2
    go_ret
    exact ⟨congrArg (fun x => Ending.returned (.int .u64 x)) HZ.out, rfl⟩
set_option maxHeartbeats 1000000 in
theorem refint_any (n : Int) (w : World) (hn : Fit n) : Calls Try.prog 13 #[.int .i64 n] w (BEnd (enc n) w) := by
  obtain ⟨i0, hi0, hz0, hz1, hz2⟩ := info_parts info_u8
  go_enter Try.func13, Try.ntmps13
  go_wp2_with fail
  refine (twice_any n w hn).mono ?_
  rintro e w1 ⟨rfl, rfl⟩
  have hu := zz_lt hn
  have HE : Hid (∀ s, Top (zz n) s → enc n = encS (zz n) s) := fun s h => enc_eq hn h
  generalize zz n = u at *
  go_wp2_with fail
  have hfull : Ob (w1.alloc (.cells #[.int .u8 ((u : Int) % 128)] 5)) w1.heap.size (.slice (some ⟨w1.heap.size, 0, none⟩) 1 1) (encS u 0) :=
    Own.full (Nat.le_refl _) (by unfold maxLen; omega) (by simp) (fun j hj => by cases (Nat.lt_one_iff.1 hj); rfl)
  go_loopw [3, 4] (fun d o wr => ∃ D s : Nat, d = .int .u64 (D : Int) ∧ D = u / 128 ^ (s + 1) ∧ s ≤ 9 ∧ (s = 0 ∨ u / 128 ^ s ≠ 0) ∧ Ob wr w1.heap.size o (encS u s) ∧ Below w1.heap.size w1 wr)
    (fun d _ _ => (intOf d).toNat)
  case atStart => exact ⟨u / 128, 0, by go_num, by rw [Nat.zero_add, Nat.pow_one], by omega, .inl rfl, hfull, (Below.refl _ _).alloc (Nat.le_refl _) _⟩
  case round =>
    obtain ⟨D, s, rfl, hD, hs9, hs, ho, hbr⟩ := hrel
    obtain ⟨A, c, rfl, -, -, hz⟩ := Own.shape ho
    have HD := Lib.hid hD
    have HS := Lib.hid hs
    have HO := Lib.hid ho
    have HBR := Lib.hid hbr
    have HZ := Lib.hid hz
    have HLEN := Lib.hid (encS_len u s)
    have hszr := hbr.size
    clear hD hs ho hbr hz hfull
    by_cases hD0 : 0 < D
    · have hs8 : s ≤ 8 := by
        rcases Nat.lt_or_ge s 9 with h | h
        · omega
        · exfalso
          obtain rfl : s = 9 := by omega
          have := HD.out
          have h2 : u / 128 ^ (9 + 1) = 0 := Nat.div_eq_of_lt (Nat.lt_trans hu two64_lt)
          omega
      have hd128 : D % 128 < 128 := by omega
      have hfull2 : Ob (wr.alloc (.cells #[.int .u8 ((D : Int) % 128 + 128)] 5)) w1.heap.size (.slice (some ⟨wr.heap.size, 0, none⟩) 1 1) [D % 128 + 128] :=
        Own.full hszr (by unfold maxLen; omega) (by simp) (fun j hj => by cases (Nat.lt_one_iff.1 hj); rfl)
      have hDw : IntKind.u64.wrap ((D : Int) / 128) = ((D / 128 : Nat) : Int) := by
        have h1 : D ≤ u := by rw [HD.out]; exact Nat.div_le_self _ _
        rw [wrap_u64]; omega
      have HU := Lib.hid hu
      clear hu
      go_wp2_with (at_builtin; refine wpl_app _ rfl (.tmp 21) (.tmp 22) 25 rfl w1.heap.size 5 i0 _ 1 1 Try.underlying25 hi0 hz0 hz1 hz2 rfl (by omega) (.slice (some ⟨wr.heap.size, 0, none⟩) 1 1) 1 (bf [D % 128 + 128]) rfl hfull2 wr.heap.size A (encS u s).length c (bf (encS u s)) rfl (Rd.alloc (Own.rd HO.out) (Nat.le_refl _) _) (fun e => (HZ.out e).2) (fun j _ => bf_one _ j) (by rw [HLEN.out]; unfold maxLen; omega) (by rw [HLEN.out]; omega) (by simp; omega) ?_; intro v2 w2 o2 g2 a2)
      have ho2 : Ob w2 w1.heap.size v2 (encS u (s + 1)) := by
        have := Ob.app (l := [D % 128 + 128]) (m := encS u s) o2
        rw [HD.out] at this
        exact this
      have hb2 := (HBR.out.alloc hszr (.cells #[.int .u8 ((D : Int) % 128 + 128)] 5)).grown g2 (by simp; omega) (by intro k e; cases e; exact hszr)
      go_roundw
      case rel => exact ⟨D / 128, s + 1, rfl, by rw [HD.out, Nat.div_div_eq_div_mul, ← Nat.pow_succ], by omega, .inr (by rw [← HD.out]; omega), ho2, hb2⟩
      case measure => simp [intOf]; omega
    · have htop : Top u s := ⟨by rw [← HD.out]; omega, HS.out⟩
      have HT := Lib.hid (HE.out s htop)
      clear htop
      have HL := Lib.hid (congrArg List.length HT.out)
      go_wp2_with fail
      go_ret
      refine ⟨A, c, by rw [HL.out]; rfl, ?_, fun e => (HZ.out e).2, ?_, HBR.out⟩
      · rw [HT.out]; exact Ob.bs HO.out
      · rw [HT.out]; exact HO.out
/-- The document's bytes of bytes. -/
theorem reftext_any (A : Option Addr) (c : Nat) (bs : List Nat) (w : World) (hb : Bs w w.heap.size A bs) (hz : A = none → c = 0) (hlb : bs.length ≤ 1000) :
    Calls Try.prog 14 #[.slice A bs.length c] w (BEnd (enc bs.length ++ bs) w) := by
  obtain ⟨i0, hi0, hz0, hz1, hz2⟩ := info_parts info_u8
  have hf : Fit (bs.length : Int) := by unfold Fit; omega
  have hel := (enc_len hf).2
  have HZ := Lib.hid hz
  clear hz
  go_enter Try.func14, Try.ntmps14
  go_wp2_with fail
  refine (refint_any bs.length w hf).mono ?_
  rintro e w1 ⟨A1, c1, rfl, b1, z1, o1, l1⟩
  have HO1 := Lib.hid o1
  have HL1 := Lib.hid l1
  have HB1 := Lib.hid (hb.next l1)
  have hsz := l1.size
  clear b1 z1 o1 l1 hb
  go_wp2_with (at_builtin; refine wpl_app _ rfl (.tmp 5) (.tmp 6) 25 rfl w.heap.size 5 i0 _ 1 1 Try.underlying25 hi0 hz0 hz1 hz2 rfl (by omega) (.slice A1 (enc bs.length).length c1) (enc bs.length).length (bf (enc bs.length)) rfl HO1.out w1.heap.size A bs.length c (bf bs) rfl HB1.out HZ.out (fun j _ => bf_one _ j) (by unfold maxLen; omega) (by omega) (by omega) ?_; intro v2 w2 o2 g2 a2)
  have ho2 : Ob w2 w.heap.size v2 (enc bs.length ++ bs) := Ob.app o2
  have hb2 := HL1.out.grown g2 hsz (fun k e => (Own.block HO1.out k e).1)
  obtain ⟨A2, c2, rfl, -, -, hz2⟩ := Own.shape ho2
  go_ret
  exact ⟨A2, c2, rfl, Ob.bs ho2, fun e => (hz2 e).2, ho2, hb2⟩
end Go.Proofs.Ytbnlobfhcanbgaa

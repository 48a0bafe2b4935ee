/- Writer.Int's contract. -/
import Derived.Test.YtbnlobfhcanbgaaWr
import Derived.Deep.RegionHeld3
import Derived.Deep.RegionLaw
namespace Go.Proofs.Ytbnlobfhcanbgaa
open Go Go.RowKit
theorem shr_cast (u s : Nat) : (u : Int) / 2 ^ (7 * s) = ((u / 128 ^ s : Nat) : Int) := by
  rw [← pow7]; norm_cast
theorem mod256 (x : Nat) : ((x : Nat) : Int) % 256 = ((x % 256 : Nat) : Int) := by omega
theorem hi_byte (u s : Nat) : bits BinOp.or IntKind.u8 (IntKind.u8.wrap ((u : Int) / 2 ^ (7 * s))) 128 = ((u / 128 ^ s % 128 + 128 : Nat) : Int) := by
  rw [shr_cast, IntKind.wrap_u8', mod256, show (128 : Int) = ((128 : Nat) : Int) from rfl, u8_or_nat _ _ (Nat.mod_lt _ (by omega)) (by omega), digit_or]
theorem lo_byte (u : Nat) : bits BinOp.and IntKind.u8 (IntKind.u8.wrap (u : Int)) 127 = ((u % 128 : Nat) : Int) := by
  rw [IntKind.wrap_u8', mod256, show (127 : Int) = ((127 : Nat) : Int) from rfl, u8_and_nat _ _ (Nat.mod_lt _ (by omega)) (by omega), digit_and]

def WEnd (base p : Nat) (l : List Nat) (w : World) (e : Ending) (w' : World) : Prop := ∃ v, e = .returned (.tuple #[]) ∧ Wr w' base p v l ∧ Below base w w'

set_option maxHeartbeats 2000000 in
theorem wint_any (p : Nat) (n : Int) (base : Nat) (v : Value) (l : List Nat) (w : World) (hn : Fit n) (hw : Wr w base p v l) (hl : l.length ≤ 1000000) :
    Calls Try.prog 23 #[.pointer (some ⟨p, 0, none⟩), .int .i64 n] w (WEnd base p (l ++ enc n) w) := by
  obtain ⟨i0, hi0, hz0, hz1, hz2⟩ := info_parts info_u8
  go_enter Try.func23, Try.ntmps23
  go_wp2
  rw [zz_bits hn]
  have hu := zz_lt hn
  have HE : Hid (∀ s, Top (zz n) s → enc n = encS (zz n) s) := fun s h => enc_eq hn h
  generalize hzu : zz n = u at *
  clear hzu
  go_loop [5] (fun i => ∃ s : Nat, s ≤ 9 ∧ i = .int .i64 ((7 * s : Nat) : Int) ∧ u / 128 ^ (s + 1) = 0) (fun i => (intOf i).toNat)
  case atStart => exact ⟨9, Nat.le_refl _, rfl, Nat.div_eq_of_lt (Nat.lt_trans hu two64_lt)⟩
  case round =>
    obtain ⟨s, hs, rfl, hz⟩ := hrel
    have HZ := Lib.hid hz
    clear hz
    by_cases hs0 : 0 < s ∧ u / 128 ^ s = 0
    · obtain ⟨h1, h2⟩ := hs0
      have hb : ((u : Int) / 2 ^ (7 * s) == 0) = true := by rw [shr_cast, h2]; rfl
      have H2 := Lib.hid h2
      clear h2
      go_wp2
      go_round
      case rel => exact ⟨s - 1, by omega, by go_num, by rw [show s - 1 + 1 = s from by omega]; exact H2.out⟩
      case measure => simp [intOf]; omega
    · have htop : Top u s := ⟨HZ.out, by by_cases h : s = 0 <;> simp_all <;> omega⟩
      have HTop := Lib.hid htop
      have hsp : s = 0 ∨ (0 < s ∧ ((u : Int) / 2 ^ (7 * s) == 0) = false) := by
        rcases htop.2 with h | h
        · exact .inl h
        · rcases Nat.eq_zero_or_pos s with h0 | h0
          · exact .inl h0
          · exact .inr ⟨h0, by rw [shr_cast]; exact beq_eq_false_iff_ne.2 (fun e => h (Int.natCast_eq_zero.1 e))⟩
      clear hs0 htop
      rcases hsp with hsp | ⟨hsp, hsb⟩
      · obtain rfl := hsp
        go_wp2
        go_loopw [5] (fun i wr => ∃ t : Nat, t ≤ 0 ∧ i = .int .i64 ((7 * t : Nat) : Int) ∧ ∃ v' L pre, L = l ++ pre ∧ pre ++ encS u t = encS u 0 ∧ Wr wr base p v' L ∧ Below base w wr) (fun i _ => (intOf i).toNat)
        case atStart => exact ⟨0, Nat.le_refl _, by go_num, v, l, [], by simp, rfl, hw, Below.refl _ _⟩
        case round =>
          obtain ⟨t, ht, rfl, v', L, pre, hL, hpre, hwr, hbr⟩ := hrel
          have hlen : pre.length + (t + 1) = 0 + 1 := by have := congrArg List.length hpre; simpa [encS_len] using this
          have hll : L.length ≤ 1000020 := by rw [hL]; simp; omega
          have HP := Lib.hid hpre
          have HL := Lib.hid hL
          clear hL
          clear hpre
          have hcell := hwr.cell
          have hfree := hwr.free
          have hsz := hwr.lt
          have hlow := hwr.low
          rcases Nat.eq_zero_or_pos t with ht0 | ht0
          · obtain rfl := ht0
            obtain ⟨d, hd⟩ : ∃ d, d = u % 128 := ⟨_, rfl⟩
            have lo : bits BinOp.and IntKind.u8 ((u : Int) % 256) 127 = (d : Int) := by rw [← IntKind.wrap_u8', lo_byte, hd]
            have HD := Lib.hid hd
            clear hd
            go_wp2_with (at_builtin; go_must (refine wpl_app _ rfl (.tmp 47) (.tmp 51) 25 rfl base 5 i0 _ 1 1 Try.underlying25 hi0 hz0 hz1 hz2 rfl (by omega) v' L.length (bf L) rfl (Own.alloc hwr.own _) (wr.heap.size + 1) (some ⟨wr.heap.size, 0, none⟩) 1 1 (bf [d]) rfl (Rd.new (one_bf d)) (by intro h; cases h) (fun j _ => bf_one _ j) (by unfold maxLen; omega) (by omega) (by simp; omega) ?_); intro v1 w1 o1 g1 a1; obtain ⟨A1, c1, rfl, -⟩ := o1.shape; have hh := (hwr.alloc _).held g1; have hh0 := hh.1; have hh1 := hh.2)
            refine bodyPost_ret (results_none rfl _ _ _) rfl ?_
            have o2 := Ob.app (m := [d]) o1
            refine ⟨.slice A1 (L.length + 1) c1, rfl, ?_, Wr.frame (hwr.alloc _) (hbr.alloc (by omega) _) g1⟩
            have he := HE.out 0 HTop.out
            rw [he, ← HP.out, show encS u 0 = [d] from by rw [HD.out]; rfl, ← List.append_assoc, ← HL.out]
            exact (hwr.alloc _).put o2 g1 a1
          · exact absurd ht0 (by omega)
      · go_wp2
        go_loopw [5] (fun i wr => ∃ t : Nat, t ≤ s ∧ i = .int .i64 ((7 * t : Nat) : Int) ∧ ∃ v' L pre, L = l ++ pre ∧ pre ++ encS u t = encS u s ∧ Wr wr base p v' L ∧ Below base w wr) (fun i _ => (intOf i).toNat)
        case atStart => exact ⟨s, Nat.le_refl _, by go_num, v, l, [], by simp, rfl, hw, Below.refl _ _⟩
        case round =>
          obtain ⟨t, ht, rfl, v', L, pre, hL, hpre, hwr, hbr⟩ := hrel
          have hlen : pre.length + (t + 1) = s + 1 := by have := congrArg List.length hpre; simpa [encS_len] using this
          have hll : L.length ≤ 1000020 := by rw [hL]; simp; omega
          have HP := Lib.hid hpre
          have HL := Lib.hid hL
          clear hL
          clear hpre
          have hcell := hwr.cell
          have hfree := hwr.free
          have hsz := hwr.lt
          have hlow := hwr.low
          rcases Nat.eq_zero_or_pos t with ht0 | ht0
          · obtain rfl := ht0
            obtain ⟨d, hd⟩ : ∃ d, d = u % 128 := ⟨_, rfl⟩
            have lo : bits BinOp.and IntKind.u8 ((u : Int) % 256) 127 = (d : Int) := by rw [← IntKind.wrap_u8', lo_byte, hd]
            have HD := Lib.hid hd
            clear hd
            go_wp2_with (at_builtin; go_must (refine wpl_app _ rfl (.tmp 47) (.tmp 51) 25 rfl base 5 i0 _ 1 1 Try.underlying25 hi0 hz0 hz1 hz2 rfl (by omega) v' L.length (bf L) rfl (Own.alloc hwr.own _) (wr.heap.size + 1) (some ⟨wr.heap.size, 0, none⟩) 1 1 (bf [d]) rfl (Rd.new (one_bf d)) (by intro h; cases h) (fun j _ => bf_one _ j) (by unfold maxLen; omega) (by omega) (by simp; omega) ?_); intro v1 w1 o1 g1 a1; obtain ⟨A1, c1, rfl, -⟩ := o1.shape; have hh := (hwr.alloc _).held g1; have hh0 := hh.1; have hh1 := hh.2)
            refine bodyPost_ret (results_none rfl _ _ _) rfl ?_
            have o2 := Ob.app (m := [d]) o1
            refine ⟨.slice A1 (L.length + 1) c1, rfl, ?_, Wr.frame (hwr.alloc _) (hbr.alloc (by omega) _) g1⟩
            have he := HE.out s HTop.out
            rw [he, ← HP.out, show encS u 0 = [d] from by rw [HD.out]; rfl, ← List.append_assoc, ← HL.out]
            exact (hwr.alloc _).put o2 g1 a1
          · obtain ⟨D, hD⟩ : ∃ D, D = u / 128 ^ t % 128 + 128 := ⟨_, rfl⟩
            have hi : bits BinOp.or IntKind.u8 (IntKind.u8.wrap ((u : Int) / 2 ^ (7 * (t : Int)).toNat)) 128 = (D : Int) := by rw [show (7 * (t : Int)).toNat = 7 * t from by omega, hi_byte, hD]
            have HD := Lib.hid hD
            clear hD
            go_wp2
            go_region_law (first | (refine step_app _ (by rfl) (.tmp 33) (.tmp 39) 25 (by rfl) base 5 i0 _ 1 1 Try.underlying25 hi0 hz0 hz1 hz2 rfl (by omega) v' L.length (bf L) (by rfl) (Own.alloc (Own.drew hwr.own) _) (wr.heap.size + 1) (some ⟨wr.heap.size, 0, none⟩) 1 1 (bf [D]) (by rfl) (Rd.new (one_bf D)) (by intro h; cases h) (fun j _ => bf_one _ j) (by unfold maxLen; omega) (by omega) (by simp; omega) ?_; intro v1 w1 o1 g1 a1; obtain ⟨A1, c1, rfl, -⟩ := o1.shape; have hh := (hwr.drew.alloc _).held g1; have hh0 := hh.1; have hh1 := hh.2))
            all_goals
              have hfr := Wr.frame (v' := .slice A1 (L.length + 1) c1) (hwr.drew.alloc _) (hbr.drew.alloc (by simp; omega) _) g1
              have hpt := (hwr.drew.alloc _).put (Ob.app (m := [D]) o1) g1 a1
              clear hh hh0 hh1 o1 g1 a1 hcell hfree hwr hbr hi
              go_wp2
              go_roundw
              case rel => exact ⟨t - 1, by omega, by go_num, .slice A1 (L.length + 1) c1, L ++ [D], pre ++ [D], by rw [HL.out, List.append_assoc], by rw [← HP.out, List.append_assoc]; congr 1; rw [show t = (t - 1) + 1 from by omega] at HD ⊢; rw [HD.out]; rfl, hpt, hfr⟩
              case measure => simp [intOf]; omega
end Go.Proofs.Ytbnlobfhcanbgaa

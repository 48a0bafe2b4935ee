/- Written's contract. -/
import Derived.Test.YtbnlobfhcanbgaaPart
import Derived.Deep.Cut
namespace Go.Proofs.Ytbnlobfhcanbgaa
open Go Go.RowKit
set_option maxHeartbeats 4000000 in
theorem written_any (A : Option Addr) (c : Nat) (l : List Pt) (w : World) (h : Pts w w.heap.size A c l) (hlen : l.length ≤ 100) :
    Calls Try.prog 15 #[.slice A l.length c] w (BEnd (wrs l) w) := by
  go_enter Try.func15, Try.ntmps15
  go_wp2
  go_loopw [4] (fun i wr => ∃ k : Nat, i = .int .i64 (k : Int) ∧ k ≤ l.length ∧ ∃ v, Wr wr w.heap.size w.heap.size v (wrs (l.take k)) ∧ Below w.heap.size w wr)
    (fun i _ => (l.length - intOf i).toNat)
  case atStart => exact ⟨0, rfl, Nat.zero_le _, _, Wr.new, (Below.refl _ _).alloc (Nat.le_refl _) _⟩
  case round =>
    obtain ⟨k, rfl, hk, v, hwr, hbr⟩ := hrel
    by_cases hkl : k < l.length
    · obtain ⟨x, hx⟩ : ∃ x, l[k]? = some x := ⟨_, List.getElem?_eq_getElem hkl⟩
      obtain ⟨b, off, rfl, hb, hat⟩ := (h.below hbr).at_ hx
      have hok := (h.below hbr).ok x (List.mem_of_getElem? hx)
      have h0 := hat.f0
      have h1 := hat.f1
      have h4 := hat.f4
      have h5 := hat.loadH
      have HS := Lib.hid (wrs_snoc l k x hx)
      have HL := Lib.hid (wrs_take_len l k h.ok hlen)
      have HWR := Lib.hid hwr
      have HX := Lib.hid hx
      have HOK := Lib.hid hok
      have HA := Lib.hid hat
      clear hx hok hat hwr
      by_cases hk1 : x.kind = 1
      · have hb1 : (x.kind == 1) = true := by simp [hk1]
        have HK := Lib.hid (show wr1 x = enc x.n from by unfold wr1; rw [if_pos hk1])
        clear hk1
        go_wp2_with fail
        refine (wint_any w.heap.size x.n w.heap.size v (wrs (l.take k)) wr HOK.out.fit.1 HWR.out (by have := HL.out; omega)).mono ?_
        rintro e w2 ⟨v2, rfl, hw2, hb2⟩
        have HW2 := Lib.hid hw2
        clear hw2
        go_wp2_with fail
        go_round
        case rel => exact ⟨k + 1, by go_num, by omega, v2, by rw [HS.out, HK.out]; exact HW2.out, hbr.trans hb2⟩
        case measure => simp [intOf]; omega
      · by_cases hk2 : x.kind = 2
        · have hb1 : (x.kind == 1) = false := by simp [hk2]
          have hb2 : (x.kind == 2) = true := by simp [hk2]
          have HK := Lib.hid (show wr1 x = enc x.b.length ++ x.b from by unfold wr1; rw [if_neg hk1, if_pos hk2])
          clear hk1 hk2
          go_wp2_with fail
          refine (wtext_any w.heap.size x.A x.c x.b w.heap.size v (wrs (l.take k)) wr HWR.out HOK.out.bs (fun h => (HOK.out.none_ h).2) (by have := HL.out; omega) HOK.out.len).mono ?_
          rintro e w2 ⟨v2, rfl, hw2, hb2⟩
          have HW2 := Lib.hid hw2
          clear hw2
          go_wp2_with fail
          go_round
          case rel => exact ⟨k + 1, by go_num, by omega, v2, by rw [HS.out, HK.out]; exact HW2.out, hbr.trans hb2⟩
          case measure => simp [intOf]; omega
        · by_cases hk3 : x.kind = 3
          · have hb1 : (x.kind == 1) = false := by simp [hk3]
            have hb2 : (x.kind == 2) = false := by simp [hk3]
            have hb3 : (x.kind == 3) = true := by simp [hk3]
            have HK := Lib.hid (show wr1 x = hl x.h from by unfold wr1; rw [if_neg hk1, if_neg hk2, if_pos hk3])
            clear hk1 hk2 hk3
            go_upto_region 11 with (fail)
            refine wp_region_list ?_
            repeat (first
              | refine wpList_load_mid (by rfl) 26 (.tmp 42) (by rfl) b (off + k * 37 + 5) (by rfl) (hc x.h).toList _ HA.out.f5 Try.underlying26 (by rfl) (by rw [Array.length_toList]; exact size_hc) ?_
              | go_values | go_skip | go_guarded | go_step | go_upon)
            refine (whash_any w.heap.size x.h w.heap.size v (wrs (l.take k)) wr HWR.out (by have := HL.out; omega)).mono ?_
            rintro e w2 ⟨v2, rfl, hw2, hb2⟩
            have HW2 := Lib.hid hw2
            clear hw2
            go_wp2_with fail
            go_round
            case rel => exact ⟨k + 1, by go_num, by omega, v2, by rw [HS.out, HK.out]; exact HW2.out, hbr.trans hb2⟩
            case measure => simp [intOf]; omega
          · have hb1 : (x.kind == 1) = false := by simp [hk1]
            have hb2 : (x.kind == 2) = false := by simp [hk2]
            have hb3 : (x.kind == 3) = false := by simp [hk3]
            have HK := Lib.hid (show wr1 x = [] from by unfold wr1; rw [if_neg hk1, if_neg hk2, if_neg hk3])
            clear hk1 hk2 hk3
            go_wp2_with fail
            go_round
            case rel => exact ⟨k + 1, by go_num, by omega, v, by rw [HS.out, HK.out, List.append_nil]; exact HWR.out, hbr⟩
            case measure => simp [intOf]; omega
    · have hb1 : decide (k < l.length) = false := by simp [hkl]
      obtain rfl : k = l.length := by omega
      go_wp2_with fail
      refine (wbytes_any w.heap.size w.heap.size v (wrs l) wr (by rw [List.take_length] at hwr; exact hwr) (by have := wrs_len l h.ok; omega)).mono ?_
      rintro e w2 ⟨A2, c2, rfl, h1, h2, h3, h4⟩
      go_wp2_with fail
      go_ret
      exact ⟨A2, c2, rfl, h1, h2, Own.mono h3 hbr.size, hbr.trans (h4.mono hbr.size)⟩
end Go.Proofs.Ytbnlobfhcanbgaa

/- Writer.Text's, Writer.Bytes' and bytes.Clone's contracts. -/
import Derived.Test.YtbnlobfhcanbgaaWInt
import Derived.Lib.SliceRun
namespace Go.Proofs.Ytbnlobfhcanbgaa
open Go Go.RowKit

set_option maxHeartbeats 1000000 in
theorem wtext_any (p : Nat) (A : Option Addr) (c : Nat) (bs : List Nat) (base : Nat) (v : Value) (l : List Nat) (w : World) (hw : Wr w base p v l) (hb : Bs w base A bs) (hz : A = none → c = 0) (hl : l.length ≤ 900000) (hlb : bs.length ≤ 1000) :
    Calls Try.prog 22 #[.pointer (some ⟨p, 0, none⟩), .slice A bs.length c] w (WEnd base p (l ++ (enc bs.length ++ bs)) w) := by
  obtain ⟨i0, hi0, hz0, hz1, hz2⟩ := info_parts info_u8
  have HZ := Lib.hid hz
  clear hz
  have hf : Fit (bs.length : Int) := by unfold Fit; omega
  have hel := (enc_len hf).2
  go_enter Try.func22, Try.ntmps22
  go_wp2_with fail
  refine (wint_any p bs.length base v l w hf hw (by omega)).mono ?_
  rintro e w1 ⟨v1, rfl, hw1, hb1⟩
  have hc1 := hw1.cell
  have hf1 := hw1.free
  obtain ⟨L, hL⟩ : ∃ L, L = l ++ enc bs.length := ⟨_, rfl⟩
  rw [← hL] at hw1
  have hlL : L.length ≤ 900010 := by rw [hL]; simp; omega
  have HL := Lib.hid hL
  clear hL
  go_wp2_with (at_builtin; go_must (refine wpl_app _ rfl (.tmp 14) (.tmp 15) 25 rfl base 5 i0 _ 1 1 Try.underlying25 hi0 hz0 hz1 hz2 rfl (by omega) v1 L.length (bf L) rfl hw1.own base A bs.length c (bf bs) rfl (hb.below hb1) HZ.out (fun j _ => bf_one _ j) (by unfold maxLen; omega) (by omega) (by have := hw1.lt; have := hw1.low; omega) ?_); intro v2 w2 o2 g2 a2; obtain ⟨A2, c2, rfl, -⟩ := o2.shape; have hh := hw1.held g2; have hh0 := hh.1; have hh1 := hh.2)
  refine bodyPost_ret (results_none rfl _ _ _) rfl ?_
  refine ⟨.slice A2 (L.length + bs.length) c2, rfl, ?_, hw1.frame hb1 g2⟩
  rw [← List.append_assoc, ← HL.out]
  exact hw1.put (Ob.app o2) g2 a2

/-- The call answers bytes in memory of its own, and leaves what was there. -/
def BEnd (l : List Nat) (w : World) (e : Ending) (w' : World) : Prop :=
  ∃ A c, e = .returned (.slice A l.length c) ∧ Bs w' w'.heap.size A l ∧ (A = none → c = 0) ∧ Ob w' w.heap.size (.slice A l.length c) l ∧ Below w.heap.size w w'

set_option maxHeartbeats 1000000 in
theorem clone_any (A : Option Addr) (c : Nat) (l : List Nat) (w : World) (hb : Bs w w.heap.size A l) (hz : A = none → l.length = 0 ∧ c = 0) (hl : l.length ≤ 1000000) :
    Calls Try.prog 35 #[.slice A l.length c] w (BEnd l w) := by
  obtain ⟨i0, hi0, hz0, hz1, hz2⟩ := info_parts info_u8
  have qT : ∀ (w : World) (a : Option Addr) (n c n' c' : Nat), (binOp .eql 25 (.slice a n c) (.slice none n' c')).run Try.prog w = .ok (.bool a.isNone) w := fun w a n c n' c' => Lib.run_eql_slice_nil w _ _ a n c n' c' Try.underlying25
  rcases A with _ | ad
  · obtain ⟨h0, rfl⟩ := hz rfl
    obtain rfl : l = [] := List.eq_nil_of_length_eq_zero h0
    go_enter Try.func35, Try.ntmps35
    go_wp2
    go_ret
    exact ⟨none, 0, rfl, Bs.nil, fun _ => rfl, Ob.nil, Below.refl _ _⟩
  · go_enter Try.func35, Try.ntmps35
    go_wp2_with (at_builtin; go_must (refine wpl_app _ rfl (.tmp 5) (.tmp 6) 25 rfl w.heap.size 5 i0 _ 1 1 Try.underlying25 hi0 hz0 hz1 hz2 rfl (by omega) (.slice (some ⟨w.heap.size, 0, none⟩) 0 0) 0 (bf []) rfl (Own.made _ _ _ (Nat.le_refl _) (Nat.zero_le _) rfl) w.heap.size (some ad) l.length c (bf l) rfl (Rd.alloc hb (Nat.le_refl _) _) (by intro h; cases h) (fun j _ => bf_one _ j) (by unfold maxLen; omega) (by omega) (by simp) ?_); intro v2 w2 o2 g2 a2)
    have o3 : Ob w2 w.heap.size v2 l := Ob.app (l := []) o2
    have hbl : Below w.heap.size w w2 := ((Below.refl _ _).alloc (Nat.le_refl _) _).grown g2 (by simp) (by simp [Value.ownBlock])
    obtain ⟨A2, c2, rfl, _, _, z2⟩ := o3.shape
    go_ret
    exact ⟨A2, c2, rfl, o3.bs, fun h => (z2 h).2, o3, hbl⟩

set_option maxHeartbeats 1000000 in
theorem wbytes_any (p : Nat) (base : Nat) (v : Value) (l : List Nat) (w : World) (hw : Wr w base p v l) (hl : l.length ≤ 1000000) :
    Calls Try.prog 24 #[.pointer (some ⟨p, 0, none⟩)] w (BEnd l w) := by
  obtain ⟨A, c, rfl, _, _, hz⟩ := Own.shape hw.own
  have hc := hw.cell
  have H := Lib.hid (clone_any A c l w hw.own.rd hz hl)
  clear hz
  go_enter Try.func24, Try.ntmps24
  go_wp2_with fail
  refine (Hid.out H).mono ?_
  rintro e w1 ⟨A1, c1, rfl, h1, h2, h3, h4⟩
  go_wp2
  go_ret
  exact ⟨A1, c1, rfl, h1, h2, h3, h4⟩
end Go.Proofs.Ytbnlobfhcanbgaa

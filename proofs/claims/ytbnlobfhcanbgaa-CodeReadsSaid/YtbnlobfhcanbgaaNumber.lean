/- number's contract. -/
import Derived.Test.YtbnlobfhcanbgaaBits
import Derived.Deep.Cut
namespace Go.Proofs.Ytbnlobfhcanbgaa
open Go Go.RowKit

/-- The number that bytes go on with, behind what was read, and what is left. -/
def num : Nat → Bool → List Nat → Option (Nat × List Nat)
  | _, _, [] => none
  | u, first, c :: r => if u < 144115188075855872 ∧ ¬ (first = true ∧ c = 128) then (if c < 128 then some (u * 128 + c % 128, r) else num (u * 128 + c % 128) false r) else none
theorem num_ok {u : Nat} {f : Bool} {x : Nat} {r : List Nat} (h : u < 144115188075855872 ∧ ¬ (f = true ∧ x = 128)) : num u f (x :: r) = if x < 128 then some (u * 128 + x % 128, r) else num (u * 128 + x % 128) false r := by
  rw [num, if_pos h]
theorem num_bad {u : Nat} {f : Bool} {x : Nat} {r : List Nat} (h : ¬ (u < 144115188075855872 ∧ ¬ (f = true ∧ x = 128))) : num u f (x :: r) = none := by
  rw [num, if_neg h]
theorem num_lt {u : Nat} {first : Bool} {l : List Nat} {v : Nat} {r : List Nat} (h : num u first l = some (v, r)) : v < 18446744073709551616 := by
  induction l generalizing u first with
  | nil => simp [num] at h
  | cons c l ih =>
    unfold num at h
    split at h
    · split at h
      · simp only [Option.some.injEq, Prod.mk.injEq] at h; omega
      · exact ih h
    · simp at h
/-- Some reader is left behind, whatever it holds. -/
def Left (w : World) (p : Nat) (w' : World) : Prop := w.grownBy w' (some p) ∧ ∃ v, w'.heap[p]? = some (.cells #[v, .bool false] 67 (0, 0))
def Lt64 (u : Nat) : Prop := u < 18446744073709551616
/-- How reading a number, from least to most, ends. -/
def NumEnd (p : Nat) (l : List Nat) (least most : Int) (w : World) (e : Ending) (w' : World) : Prop :=
  (∃ u r A c, num 0 true l = some (u, r) ∧ least ≤ unzz u ∧ unzz u ≤ most ∧ e = .returned (.int .i64 (unzz u)) ∧ w.grownBy w' (some p) ∧ Rr w' p A c r false) ∨
  ((∀ u r, num 0 true l = some (u, r) → ¬ (least ≤ unzz u ∧ unzz u ≤ most)) ∧ e = .panicked lostChain ∧ Left w p w')
theorem Rr.left {w w' : World} {p c : Nat} {A : Option Addr} {l : List Nat} (hg : w.grownBy w' (some p)) (h : Rr w' p A c l false) : Left w p w' := ⟨hg, _, h.blk⟩
/-- How many bytes the reader at p has left. -/
def leftAt (p : Nat) (w : World) : Nat := match w.cell? ⟨p, 0, none⟩ with | some (.slice _ n _) => n | _ => 0
theorem Rr.leftAt {w : World} {p c : Nat} {A : Option Addr} {l : List Nat} {b : Bool} (h : Rr w p A c l b) : leftAt p w = l.length := by
  unfold Proofs.Ytbnlobfhcanbgaa.leftAt; rw [(cell2 h.blk).1]
theorem lost_left {p : Nat} {l : List Nat} {least most : Int} {w w' : World} (h : num 0 true l = none) (hl : Left w p w') : NumEnd p l least most w (.panicked lostChain) w' :=
  .inr ⟨(fun u r e => by rw [h] at e; cases e), rfl, hl⟩

set_option maxRecDepth 100000 in
set_option maxHeartbeats 2000000 in
theorem number_any (p c : Nat) (A : Option Addr) (l : List Nat) (least most : Int) (w : World) (hR : Rr w p A c l false) (hl : l.length ≤ 1000000) (h1 : Fit least) (h2 : Fit most) :
    Calls Try.prog 37 #[.pointer (some ⟨p, 0, none⟩), .int .i64 least, .int .i64 most] w (NumEnd p l least most w) := by
  go_enter Try.func37, Try.ntmps37
  go_wp2
  go_loopw [7, 8] (fun u first wr => ∃ (v : Int) (U : Nat) (f : Bool) (A' : Option Addr) (c' : Nat) (l' : List Nat), u = .int .u64 v ∧ first = .bool f ∧ Hid (v = (U : Int) ∧ Lt64 U) ∧ l'.length ≤ l.length ∧ num 0 true l = num U f l' ∧ w.grownBy wr (some p) ∧ Rr wr p A' c' l' false)
    (fun _ _ wr => leftAt p wr)
  case atStart => exact ⟨0, 0, true, A, c, l, rfl, rfl, Lib.hid ⟨rfl, by unfold Lt64; omega⟩, Nat.le_refl _, rfl, World.grownBy.refl w _, hR⟩
  case round =>
    obtain ⟨v, U, f, A', c', l', rfl, rfl, HU, hlen, hnum, hg, hR'⟩ := hrel
    have HN := Lib.hid hnum
    clear hnum
    cases hl' : l' with
    | nil =>
      subst hl'
      go_wp2_with (go_at_call 36; refine (take_no p c' A' [] 1 _ hR' (.inr (by simp)) (by simp)).mono ?_; rintro e w' ⟨rfl, rfl⟩)
      exact ⟨rfl, lost_left (by rw [HN.out]; rfl) (hR'.left hg)⟩
    | cons x r =>
      subst hl'
      obtain ⟨b, off, rfl, hb, hcell⟩ := hR'.bytes (by simp)
      have hx : x < 256 := hR'.byt x (by simp)
      have HM := Lib.hid hR'.leftAt
      have hcell0 := hcell 0 (by simp)
      rw [Nat.add_zero] at hcell0
      clear hcell
      go_wp2_with fail
      refine (take_yes p c' (some ⟨b, off, none⟩) (x :: r) 1 _ hR' (by simp) (by simp at hlen; simp; omega)).mono ?_
      rintro e w2 ⟨rfl, hbs, hg2, A2, c2, hR2⟩
      have hxc : w2.cell? ⟨b, off, none⟩ = some (.int .u8 (x : Int)) := (World.cell?_of_block (hg2.block b (Nat.lt_trans hb hR'.lt) (fun e => by injection e with e; omega))).trans hcell0
      clear hcell0 hbs hb
      have HR2 := Lib.hid hR2
      have HG2 := Lib.hid hg2
      have HL2 := Lib.hid hR2.leftAt
      clear hR2 hg2
      by_cases hok : U < 144115188075855872 ∧ ¬ (f = true ∧ x = 128)
      · have HN2 := Lib.hid (num_ok (r := r) hok)
        have hb0 : 0 ≤ v := by have := HU.out; omega
        have hb1 : v < 144115188075855872 := by have := HU.out; omega
        have hor : bits BinOp.or IntKind.u64 (v * 128) (IntKind.u64.wrap (bits BinOp.and IntKind.u8 (x : Int) 127)) = ((U * 128 + x % 128 : Nat) : Int) := by rw [HU.out.1]; exact or_step hok.1 hx
        have HOR := Lib.hid hor
        have HOK := Lib.hid hok
        clear hok hor
        have hU2 : U * 128 + x % 128 < 18446744073709551616 := by have := HOK.out.1; omega
        have HU2 := Lib.hid hU2
        clear hU2
        by_cases hx1 : x < 128
        · have hd : decide ((x : Int) < 128) = true := by simp; omega
          have HN3 := Lib.hid (HN.out.trans (HN2.out.trans (if_pos hx1)))
          have hend : ∀ (w3 : World), w3 = w2 → (least ≤ unzz (U * 128 + x % 128) ∧ unzz (U * 128 + x % 128) ≤ most) → NumEnd p l least most w (.returned (.int .i64 (unzz (U * 128 + x % 128)))) w3 := fun w3 e3 hb => .inl ⟨_, _, _, _, HN3.out, hb.1, hb.2, rfl, only_trans hg (e3 ▸ HG2.out), e3 ▸ HR2.out⟩
          have hendno : ¬ (least ≤ unzz (U * 128 + x % 128) ∧ unzz (U * 128 + x % 128) ≤ most) → NumEnd p l least most w (.panicked lostChain) w2 := fun hb => .inr ⟨fun u r' e => by rw [HN3.out] at e; obtain ⟨rfl, rfl⟩ := Prod.mk.inj (Option.some.inj e); exact hb, rfl, HR2.out.left (only_trans hg HG2.out)⟩
          cases f
          · go_upto_region 7 with (go_at_call 39; refine (must_yes _).mono ?_; rintro e w' ⟨rfl, rfl⟩)
            rw [HOR.out]
            generalize hv2 : ((U * 128 + x % 128 : Nat) : Int) = v2
            have HV2 := Lib.hid hv2
            clear hv2
            go_upto_region 9 with (fail)
            rw [show bits BinOp.xor IntKind.i64 (wrap64 (v2 / 2)) (wrap64 (-wrap64 (bits BinOp.and IntKind.u64 v2 1))) = unzz (U * 128 + x % 128) from by rw [← HV2.out]; exact xor_unzz HU2.out]
            generalize unzz (U * 128 + x % 128) = n at *
            by_cases hb1 : least ≤ n ∧ n ≤ most
            · have hh := hend _ rfl hb1
              obtain ⟨hb1, hb2⟩ := hb1
              go_wp2_with (go_at_call 39; refine (must_yes _).mono ?_; rintro e w' ⟨rfl, rfl⟩)
              go_ret
              exact hh
            · have hh := hendno hb1
              by_cases hb2 : least ≤ n
              · have hb3 : decide (n ≤ most) = false := by simp; omega
                clear hb1
                go_wp2_with (go_at_call 39; refine (must_no _).mono ?_; rintro e w' ⟨rfl, rfl⟩)
                exact ⟨rfl, hh⟩
              · have hb3 : decide (least ≤ n) = false := by simp; omega
                clear hb1 hb2
                go_wp2_with (go_at_call 39; refine (must_no _).mono ?_; rintro e w' ⟨rfl, rfl⟩)
                exact ⟨rfl, hh⟩
          · have hx3 : ((x : Int) == 128) = false := by simp; omega
            go_upto_region 7 with (go_at_call 39; refine (must_yes _).mono ?_; rintro e w' ⟨rfl, rfl⟩)
            rw [HOR.out]
            generalize hv2 : ((U * 128 + x % 128 : Nat) : Int) = v2
            have HV2 := Lib.hid hv2
            clear hv2
            go_upto_region 9 with (fail)
            rw [show bits BinOp.xor IntKind.i64 (wrap64 (v2 / 2)) (wrap64 (-wrap64 (bits BinOp.and IntKind.u64 v2 1))) = unzz (U * 128 + x % 128) from by rw [← HV2.out]; exact xor_unzz HU2.out]
            generalize unzz (U * 128 + x % 128) = n at *
            by_cases hb1 : least ≤ n ∧ n ≤ most
            · have hh := hend _ rfl hb1
              obtain ⟨hb1, hb2⟩ := hb1
              go_wp2_with (go_at_call 39; refine (must_yes _).mono ?_; rintro e w' ⟨rfl, rfl⟩)
              go_ret
              exact hh
            · have hh := hendno hb1
              by_cases hb2 : least ≤ n
              · have hb3 : decide (n ≤ most) = false := by simp; omega
                clear hb1
                go_wp2_with (go_at_call 39; refine (must_no _).mono ?_; rintro e w' ⟨rfl, rfl⟩)
                exact ⟨rfl, hh⟩
              · have hb3 : decide (least ≤ n) = false := by simp; omega
                clear hb1 hb2
                go_wp2_with (go_at_call 39; refine (must_no _).mono ?_; rintro e w' ⟨rfl, rfl⟩)
                exact ⟨rfl, hh⟩
        · have hx2 : 128 ≤ x := by omega
          have hd : decide ((x : Int) < 128) = false := by simp; omega
          have HN3 := Lib.hid (HN.out.trans (HN2.out.trans (if_neg hx1)))
          clear hx1
          cases f
          · go_upto_region 7 with (go_at_call 39; refine (must_yes _).mono ?_; rintro e w' ⟨rfl, rfl⟩)
            rw [HOR.out]
            generalize hv2 : ((U * 128 + x % 128 : Nat) : Int) = v2
            have HV2 := Lib.hid hv2
            clear hv2
            go_wp2_with fail
            go_round
            case rel => exact ⟨v2, U * 128 + x % 128, false, _, _, _, rfl, rfl, Lib.hid ⟨HV2.out.symm, HU2.out⟩, by simp at hlen ⊢; omega, HN3.out, only_trans hg HG2.out, HR2.out⟩
            case measure => rw [HM.out, HL2.out]; simp
          · have hx3 : ((x : Int) == 128) = false := by have := HOK.out.2; simp at this; simp; omega
            go_upto_region 7 with (go_at_call 39; refine (must_yes _).mono ?_; rintro e w' ⟨rfl, rfl⟩)
            rw [HOR.out]
            generalize hv2 : ((U * 128 + x % 128 : Nat) : Int) = v2
            have HV2 := Lib.hid hv2
            clear hv2
            go_wp2_with fail
            go_round
            case rel => exact ⟨v2, U * 128 + x % 128, false, _, _, _, rfl, rfl, Lib.hid ⟨HV2.out.symm, HU2.out⟩, by simp at hlen ⊢; omega, HN3.out, only_trans hg HG2.out, HR2.out⟩
            case measure => rw [HM.out, HL2.out]; simp
      · have HNo := Lib.hid (HN.out.trans (num_bad hok))
        have hend : NumEnd p l least most w (.panicked lostChain) w2 := lost_left HNo.out (HR2.out.left (only_trans hg HG2.out))
        by_cases hlt : U < 144115188075855872
        · have hb1 : v < 144115188075855872 := by have := HU.out; omega
          have hh : f = true ∧ x = 128 := by simp_all
          obtain ⟨rfl, rfl⟩ := hh
          clear hok hlt
          go_wp2_with (go_at_call 39; refine (must_no _).mono ?_; rintro e w' ⟨rfl, rfl⟩)
          exact ⟨rfl, hend⟩
        · have hb1 : 144115188075855872 ≤ v := by have := HU.out; omega
          clear hok hlt
          cases f
          · go_wp2_with (go_at_call 39; refine (must_no _).mono ?_; rintro e w' ⟨rfl, rfl⟩)
            exact ⟨rfl, hend⟩
          · go_wp2_with (go_at_call 39; refine (must_no _).mono ?_; rintro e w' ⟨rfl, rfl⟩)
            exact ⟨rfl, hend⟩
end Go.Proofs.Ytbnlobfhcanbgaa

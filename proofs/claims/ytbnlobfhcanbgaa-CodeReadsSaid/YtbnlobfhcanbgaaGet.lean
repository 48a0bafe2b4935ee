/- The document's Get and GetText. -/
import Derived.Test.YtbnlobfhcanbgaaRefInt
import Derived.Test.YtbnlobfhcanbgaaPlain
import Derived.Test.YtbnlobfhcanbgaaStr
import Derived.Deep.RegionHeld
import Derived.Deep.Cut
namespace Go.Proofs.Ytbnlobfhcanbgaa
open Go Go.RowKit

/-- The number that bytes begin with, and how many bytes it has. -/
def getR (l : List Nat) : Int × Nat :=
  match num 0 true l with
  | some (u, r) => (unzz u, l.length - r.length)
  | none => (0, 0)
theorem getR_none {l : List Nat} (h : num 0 true l = none) : getR l = (0, 0) := by unfold getR; simp only [h]
theorem getR_some {l r : List Nat} {u : Nat} (h : num 0 true l = some (u, r)) : getR l = (unzz u, l.length - r.length) := by unfold getR; simp only [h]
/-- How far Get has come. -/
structure GetAt (l : List Nat) (k U : Nat) : Prop where
  go : ∀ v r, num 0 true l = some (v, r) → num U (decide (k = 0)) (l.drop k) = some (v, r)
  big : num 0 true l = none ∨ k = 0 ∨ 128 ^ (k - 1) ≤ U
  lt : U < 18446744073709551616
theorem GetAt.start (l : List Nat) : GetAt l 0 0 := ⟨fun v r h => h, .inr (.inl rfl), by omega⟩
theorem GetAt.next {l : List Nat} {k U x : Nat} (h : GetAt l k U) (hx : l[k]? = some x) (hU : U < 144115188075855872) (h128 : ¬ x < 128) (hb : x < 256) : GetAt l (k + 1) (U * 128 + x % 128) := by
  have hd : l.drop k = x :: l.drop (k + 1) := by
    have hk : k < l.length := (List.getElem?_eq_some_iff.1 hx).1
    rw [List.drop_eq_getElem_cons hk, (List.getElem?_eq_some_iff.1 hx).2]
  refine ⟨fun v r hn => ?_, ?_, by omega⟩
  · have h1 := h.go v r hn
    rw [hd] at h1
    by_cases hok : U < 144115188075855872 ∧ ¬ (decide (k = 0) = true ∧ x = 128)
    · rw [num_ok hok, if_neg h128] at h1
      rw [show decide (k + 1 = 0) = false from by simp]
      exact h1
    · rw [num_bad hok] at h1; cases h1
  · rcases h.big with h1 | h1 | h1
    · exact .inl h1
    · subst h1
      by_cases hx2 : x = 128
      · left
        cases hn : num 0 true l with
        | none => rfl
        | some vr =>
          obtain ⟨v, r⟩ := vr
          have h1 := h.go v r hn
          rw [hd, num_bad (by intro hh; exact hh.2 ⟨rfl, hx2⟩)] at h1
          cases h1
      · right; right
        show 128 ^ 0 ≤ _
        rw [Nat.pow_zero]; omega
    · rcases Nat.eq_zero_or_pos k with h0 | h0
      · subst h0
        by_cases hx2 : x = 128
        · left
          cases hn : num 0 true l with
          | none => rfl
          | some vr =>
            obtain ⟨v, r⟩ := vr
            have h1 := h.go v r hn
            rw [hd, num_bad (by intro hh; exact hh.2 ⟨rfl, hx2⟩)] at h1
            cases h1
        · right; right
          show 128 ^ 0 ≤ _
          rw [Nat.pow_zero]; omega
      · right; right
        rw [show k + 1 - 1 = (k - 1) + 1 from by omega, Nat.pow_succ]
        omega
theorem GetAt.over {l : List Nat} {k U : Nat} (h : GetAt l k U) (hU : ¬ U < 144115188075855872) : getR l = (0, 0) := by
  refine getR_none ?_
  cases hn : num 0 true l with
  | none => rfl
  | some vr =>
    obtain ⟨v, r⟩ := vr
    have h1 := h.go v r hn
    cases hd : l.drop k with
    | nil => rw [hd] at h1; simp [num] at h1
    | cons c r' => rw [hd, num_bad (fun hh => hU hh.1)] at h1; cases h1
theorem GetAt.end_ {l : List Nat} {U : Nat} (h : GetAt l l.length U) : getR l = (0, 0) := by
  refine getR_none ?_
  cases hn : num 0 true l with
  | none => rfl
  | some vr =>
    obtain ⟨v, r⟩ := vr
    have h1 := h.go v r hn
    rw [List.drop_length] at h1
    simp [num] at h1
theorem GetAt.ten {l : List Nat} {U : Nat} (h : GetAt l 10 U) : getR l = (0, 0) := by
  rcases h.big with h1 | h1 | h1
  · exact getR_none h1
  · cases h1
  · refine h.over fun hU => ?_
    have : (128 : Nat) ^ (10 - 1) = 9223372036854775808 := by decide
    omega
theorem GetAt.last {l : List Nat} {k U x : Nat} (hby : Byt l) (h : GetAt l k U) (hx : l[k]? = some x) (hU : U < 144115188075855872) (h128 : x < 128) :
    getR l = if enc (unzz (U * 128 + x % 128)) = l.take (k + 1) then (unzz (U * 128 + x % 128), k + 1) else (0, 0) := by
  have hk : k < l.length := (List.getElem?_eq_some_iff.1 hx).1
  have hd : l.drop k = x :: l.drop (k + 1) := by rw [List.drop_eq_getElem_cons hk, (List.getElem?_eq_some_iff.1 hx).2]
  have hf : Fit (unzz (U * 128 + x % 128)) := unzz_fit (by omega)
  by_cases he : enc (unzz (U * 128 + x % 128)) = l.take (k + 1)
  · rw [if_pos he]
    have h1 := num_enc hf (l.drop (k + 1))
    rw [he, List.take_append_drop, zz_unzz] at h1
    rw [getR_some h1, List.length_drop]
    congr 1
    omega
  · rw [if_neg he]
    refine getR_none ?_
    cases hn : num 0 true l with
    | none => rfl
    | some vr =>
      obtain ⟨v, r⟩ := vr
      have h1 := h.go v r hn
      rw [hd] at h1
      by_cases hok : U < 144115188075855872 ∧ ¬ (decide (k = 0) = true ∧ x = 128)
      · rw [num_ok hok, if_pos h128] at h1
        obtain ⟨rfl, rfl⟩ := Prod.mk.inj (Option.some.inj h1)
        exfalso
        refine he ?_
        have h2 := enc_num hby hn
        refine List.append_cancel_right (bs := l.drop (k + 1)) ?_
        rw [List.take_append_drop]
        exact h2.symm
      · rw [num_bad hok] at h1; cases h1
set_option maxRecDepth 100000 in
set_option maxHeartbeats 4000000 in
theorem get_any (A : Option Addr) (c : Nat) (l : List Nat) (w : World) (hb : Bs w w.heap.size A l) (hc : l.length ≤ c ∧ c ≤ maxLen) (hby : Byt l) (hl : l.length ≤ 1000000) :
    Calls Try.prog 31 #[.slice A l.length c] w fun e w' => e = .returned (.tuple #[.int .i64 (getR l).1, .int .i64 ((getR l).2 : Nat)]) ∧ Below w.heap.size w w' := by
  have HBS := Lib.hid hb
  have HBY := Lib.hid hby
  obtain ⟨hc1, hc2⟩ := hc
  unfold maxLen at hc2
  clear hb hby
  go_enter Try.func31, Try.ntmps31
  go_wp2_with fail
  go_loopw [4, 5] (fun u i wr => ∃ (k U : Nat) (v : Int), i = .int .i64 (k : Int) ∧ u = .int .u64 v ∧ Hid (v = (U : Int)) ∧ k ≤ l.length ∧ k ≤ 10 ∧ GetAt l k U ∧ wr = w) (fun _ i _ => (l.length - intOf i).toNat)
  case atStart => exact ⟨0, 0, 0, rfl, rfl, Lib.hid rfl, Nat.zero_le _, Nat.zero_le _, GetAt.start l, rfl⟩
  case round =>
    obtain ⟨k, U, v, rfl, rfl, HV, hk, hk10, hat, rfl⟩ := hrel
    have HA := Lib.hid hat
    have HU := Lib.hid hat.lt
    clear hat
    by_cases hkl : k < l.length ∧ k < 10
    · obtain ⟨hkl, hk9⟩ := hkl
      obtain ⟨x, hx⟩ : ∃ x, l[k]? = some x := ⟨_, List.getElem?_eq_getElem hkl⟩
      obtain ⟨b, off, rfl, hb, hcell⟩ := HBS.out (by omega)
      have hck := hcell k (by omega)
      unfold bf at hck
      rw [hx] at hck
      simp only [Option.getD_some] at hck
      have hx256 : x < 256 := by have := HBY.out x (List.mem_of_getElem? hx); exact this
      have HX := Lib.hid hx
      clear hcell hx
      by_cases hover : U < 144115188075855872
      · have hv0 : 0 ≤ v := by have := HV.out; omega
        have hv1 : v < 144115188075855872 := by have := HV.out; omega
        have HO := Lib.hid hover
        clear hover
        go_upto_region 8 with (fail)
        generalize hv2 : v * 128 + (x : Int) % 128 = v2
        have HV2 := Lib.hid (show v2 = ((U * 128 + x % 128 : Nat) : Int) from by rw [← hv2, HV.out]; omega)
        have hv20 : 0 ≤ v2 := by rw [← hv2]; omega
        clear hv2
        by_cases h128 : x < 128
        · have HL := Lib.hid (HA.out.last HBY.out HX.out HO.out h128)
          have hd : decide (128 ≤ (x : Int)) = false := by simp; omega
          have hf := unzz_fit (u := U * 128 + x % 128) (by have := HO.out; omega)
          have hzz : unzz (U * 128 + x % 128) = if v2 % 2 = 1 then -(v2 / 2) - 1 else v2 / 2 := by
            unfold unzz
            have := HV2.out
            by_cases hp : v2 % 2 = 1
            · rw [if_neg (by omega), if_pos hp]; omega
            · rw [if_pos (by omega), if_neg hp]; omega
          obtain ⟨n, hn⟩ : ∃ n, n = unzz (U * 128 + x % 128) := ⟨_, rfl⟩
          rw [← hn] at hzz hf HL
          have hvl : v2 < 18446744073709551616 := by have := HV2.out; have := HO.out; omega
          have HF := Lib.hid hf
          clear h128 hn hf
          by_cases hp : v2 % 2 = 1
          · rw [if_pos hp] at hzz
            have hw : wrap64 (wrap64 (-wrap64 (IntKind.u64.wrap (v2.tdiv 2))) - 1) = n := by rw [hzz, Int.tdiv_eq_ediv_of_nonneg hv20, wrap_u64]; unfold wrap64; omega
            have HW := Lib.hid hw
            have hpb : (v2 % 2 == 1) = true := by rw [beq_iff_eq]; exact hp
            clear hw hzz hp hvl
            go_upto_region 12 with (fail)
            rw [HW.out]
            clear HW
            have HRI := Lib.hid (show Calls Try.prog 13 #[.int .i64 n] wr.drew (fun e w3 => ∃ A3 c3, e = .returned (.slice A3 (enc n).length c3) ∧ (convert 25 9 (.slice A3 (enc n).length c3)).run Try.prog w3 = .ok (.string (str (enc n))) w3 ∧ (convert 25 9 (.slice (some ⟨b, off, none⟩) (k + 1) c)).run Try.prog w3 = .ok (.string (str (l.take (k + 1)))) w3 ∧ Hid (Below wr.heap.size wr w3)) from by
              refine (refint_any n wr.drew HF.out).mono ?_
              rintro e w3 ⟨A3, c3, rfl, b3, z3, o3, l3⟩
              have l4 : Below wr.heap.size wr w3 := ((Below.refl wr.heap.size wr).drew).trans l3
              exact ⟨A3, c3, rfl, str_conv c3 b3, str_convN (k + 1) c ((Bs.next HBS.out l4).take (k + 1)) (by rw [List.length_take]; omega), Lib.hid l4⟩)
            have hcb : (convert 25 9 (.slice (some ⟨b, off, none⟩) (k + 1) c)).run Try.prog wr.drew = .ok (.string (str (l.take (k + 1)))) wr.drew := str_convN (k + 1) c (Rd.drew (Bs.take HBS.out (k + 1))) (by rw [List.length_take]; omega)
            obtain ⟨S, hS⟩ : ∃ S, S = str (enc n) := ⟨_, rfl⟩
            obtain ⟨T, hT⟩ : ∃ T, T = str (l.take (k + 1)) := ⟨_, rfl⟩
            rw [← hS, ← hT] at HRI
            rw [← hT] at hcb
            have HL4 : Hid (Below wr.heap.size wr wr.drew) := Lib.hid ((Below.refl _ _).drew)
            have hkc1 : (k : Int) + 1 ≤ (c : Int) := by omega
            have hkw : IntKind.i64.wrap ((k : Int) + 1) = (k : Int) + 1 := by rw [IntKind.wrap_i64]; omega
            have hk00 : (0 : Int) ≤ (k : Int) + 1 := by omega
            by_cases hE : enc n = l.take (k + 1)
            · have hST : (S.toList == T.toList) = true := by rw [hS, hT, hE]; simp
              have HR := Lib.hid (HL.out.trans (if_pos hE))
              clear hE hS hT
              refine wp_region_held_drew (S := (fun w' => (convert 25 9 (.slice (some ⟨b, off, none⟩) (k + 1) c)).run Try.prog w' = .ok (.string T) w' ∧ Hid (Below wr.heap.size wr w'))) (by kernel_rfl) ?_ (fun hHeld => ?_)
              · (first | exact ⟨hcb, HL4⟩ | exact ⟨hc4, HB4⟩ | assumption)
              refine wpAnyH_take (i := 0) (oi := { dst := some 42, op := Op.move (Operand.tmp 6), type := 2, pos := "ref.go:40", after := #[], guard := none }) (v := ?_) rfl (by kernel_rfl) (by kernel_rfl) (by kernel_rfl) (fun _ _ _ h => h) (Or.inl ⟨by rfl, ?_⟩) (by assumption) ?_
              rotate_left 1
              · intro ws hSw; (try dsimp only at hSw); go_simp; all_goals with_reducible rfl
              simp only [Act.put, List.setIfInBounds_toArray, List.set_cons_zero, List.set_cons_succ]
              refine wpAnyH_take (i := 3) (oi := { dst := some 45, op := Op.move (Operand.tmp 0), type := 25, pos := "ref.go:40", after := #[], guard := none }) (v := ?_) rfl (by kernel_rfl) (by kernel_rfl) (by kernel_rfl) (fun _ _ _ h => h) (Or.inl ⟨by rfl, ?_⟩) (by assumption) ?_
              rotate_left 1
              · intro ws hSw; (try dsimp only at hSw); go_simp; all_goals with_reducible rfl
              simp only [Act.put, List.setIfInBounds_toArray, List.set_cons_zero, List.set_cons_succ]
              refine wpAnyH_take (i := 4) (oi := { dst := some 46, op := Op.move (Operand.tmp 5), type := 3, pos := "ref.go:40", after := #[], guard := none }) (v := ?_) rfl (by kernel_rfl) (by kernel_rfl) (by kernel_rfl) (fun _ _ _ h => h) (Or.inl ⟨by rfl, ?_⟩) (by assumption) ?_
              rotate_left 1
              · intro ws hSw; (try dsimp only at hSw); go_simp; all_goals with_reducible rfl
              simp only [Act.put, List.setIfInBounds_toArray, List.set_cons_zero, List.set_cons_succ]
              refine wpAnyH_take (i := 5) (oi := { dst := some 47, op := Op.binOp BinOp.add 3 (Operand.tmp 46) (Operand.const (Value.int IntKind.i64 1)) 3, type := 3, pos := "ref.go:40", after := #[{ on := 4, ground := Ground.data }], guard := none }) (v := ?_) rfl (by kernel_rfl) (by kernel_rfl) (by kernel_rfl) (fun _ _ _ h => h) (Or.inl ⟨by rfl, ?_⟩) (by assumption) ?_
              rotate_left 1
              · intro ws hSw; (try dsimp only at hSw); go_simp; all_goals with_reducible rfl
              simp only [Act.put, List.setIfInBounds_toArray, List.set_cons_zero, List.set_cons_succ]
              refine wpAnyH_take (i := 6) (oi := { dst := some 48, op := Op.slice 25 (Operand.tmp 45) none (some (Operand.tmp 47)) none, type := 25, pos := "ref.go:40", after := #[{ on := 3, ground := Ground.data }, { on := 5, ground := Ground.data }], guard := none }) (v := ?_) rfl (by kernel_rfl) (by kernel_rfl) (by kernel_rfl) (fun _ _ _ h => h) (Or.inl ⟨by rfl, ?_⟩) (by assumption) ?_
              rotate_left 1
              · intro ws hSw; (try dsimp only at hSw); go_simp; all_goals with_reducible rfl
              simp only [Act.put, List.setIfInBounds_toArray, List.set_cons_zero, List.set_cons_succ]
              refine wpAnyH_take (i := 7) (oi := { dst := some 49, op := Op.convert 25 9 (Operand.tmp 48), type := 9, pos := "ref.go:40", after := #[{ on := 6, ground := Ground.data }], guard := none }) (v := ?_) rfl (by kernel_rfl) (by kernel_rfl) (by kernel_rfl) (fun _ _ _ h => h) (Or.inl ⟨by rfl, ?_⟩) (by assumption) ?_
              rotate_left 1
              · intro ws hSw; (try dsimp only at hSw); go_simp; all_goals with_reducible rfl
              simp only [Act.put, List.setIfInBounds_toArray, List.set_cons_zero, List.set_cons_succ]
              refine wpAnyH_ready (rs := [1]) (by kernel_rfl) (by simp) ?_
              refine AllReadyH.cons (o := { dst := some 43, op := Op.call { callee := Callee.value (Operand.func 13), args := #[Operand.tmp 42], argTypes := #[2] }, type := 25, pos := "ref.go:40", after := #[{ on := 0, ground := Ground.data }], guard := none }) rfl (fun K hK => ?_) AllReadyH.nil
              go_simp
              (go_at_call 13; refine (Hid.out HRI).mono ?_; rintro e w4 ⟨A4, c4, rfl, hc3, hc4, HB4⟩)
              refine hK.out _ _ ?_ (fun hHeld => ?_)
              · (first | exact ⟨hcb, HL4⟩ | exact ⟨hc4, HB4⟩ | assumption)
              clear hK K
              refine wpAnyH_ready (rs := [2]) (by kernel_rfl) (by simp) ?_
              refine AllReadyH.cons (o := { dst := some 44, op := Op.convert 25 9 (Operand.tmp 43), type := 9, pos := "ref.go:40", after := #[{ on := 1, ground := Ground.data }], guard := none }) rfl (fun K hK => ?_) AllReadyH.nil
              go_simp
              refine hK.out _ _ (by assumption) (fun hHeld => ?_)
              clear hK K
              refine wpAnyH_take (i := 8) (oi := { dst := some 50, op := Op.binOp BinOp.neq 9 (Operand.tmp 44) (Operand.tmp 49) 9, type := 4, pos := "ref.go:40", after := #[{ on := 2, ground := Ground.data }, { on := 7, ground := Ground.data }], guard := none }) (v := ?_) rfl (by kernel_rfl) (by kernel_rfl) (by kernel_rfl) (fun _ _ _ h => h) (Or.inl ⟨by rfl, ?_⟩) (by assumption) ?_
              rotate_left 1
              · intro ws hSw; (try dsimp only at hSw); go_simp; all_goals with_reducible rfl
              simp only [Act.put, List.setIfInBounds_toArray, List.set_cons_zero, List.set_cons_succ]
              refine wpAnyH_done (by kernel_rfl) ?_ _
              go_wp2_with fail
              go_ret2
              rw [HR.out]
              exact ⟨rfl, HB4.out⟩
            · have hST : (S.toList == T.toList) = false := by
                rw [Bool.eq_false_iff]
                intro e
                rw [beq_iff_eq, ByteArray.toList_eq, ByteArray.toList_eq] at e
                exact hE (str_inj (enc_byt n) (HBY.out.take _) (by rw [← hS, ← hT]; exact ByteArray.ext (Array.ext' e)))
              have HR := Lib.hid (HL.out.trans (if_neg hE))
              clear hE hS hT
              refine wp_region_held_drew (S := (fun w' => (convert 25 9 (.slice (some ⟨b, off, none⟩) (k + 1) c)).run Try.prog w' = .ok (.string T) w' ∧ Hid (Below wr.heap.size wr w'))) (by kernel_rfl) ?_ (fun hHeld => ?_)
              · (first | exact ⟨hcb, HL4⟩ | exact ⟨hc4, HB4⟩ | assumption)
              refine wpAnyH_take (i := 0) (oi := { dst := some 42, op := Op.move (Operand.tmp 6), type := 2, pos := "ref.go:40", after := #[], guard := none }) (v := ?_) rfl (by kernel_rfl) (by kernel_rfl) (by kernel_rfl) (fun _ _ _ h => h) (Or.inl ⟨by rfl, ?_⟩) (by assumption) ?_
              rotate_left 1
              · intro ws hSw; (try dsimp only at hSw); go_simp; all_goals with_reducible rfl
              simp only [Act.put, List.setIfInBounds_toArray, List.set_cons_zero, List.set_cons_succ]
              refine wpAnyH_take (i := 3) (oi := { dst := some 45, op := Op.move (Operand.tmp 0), type := 25, pos := "ref.go:40", after := #[], guard := none }) (v := ?_) rfl (by kernel_rfl) (by kernel_rfl) (by kernel_rfl) (fun _ _ _ h => h) (Or.inl ⟨by rfl, ?_⟩) (by assumption) ?_
              rotate_left 1
              · intro ws hSw; (try dsimp only at hSw); go_simp; all_goals with_reducible rfl
              simp only [Act.put, List.setIfInBounds_toArray, List.set_cons_zero, List.set_cons_succ]
              refine wpAnyH_take (i := 4) (oi := { dst := some 46, op := Op.move (Operand.tmp 5), type := 3, pos := "ref.go:40", after := #[], guard := none }) (v := ?_) rfl (by kernel_rfl) (by kernel_rfl) (by kernel_rfl) (fun _ _ _ h => h) (Or.inl ⟨by rfl, ?_⟩) (by assumption) ?_
              rotate_left 1
              · intro ws hSw; (try dsimp only at hSw); go_simp; all_goals with_reducible rfl
              simp only [Act.put, List.setIfInBounds_toArray, List.set_cons_zero, List.set_cons_succ]
              refine wpAnyH_take (i := 5) (oi := { dst := some 47, op := Op.binOp BinOp.add 3 (Operand.tmp 46) (Operand.const (Value.int IntKind.i64 1)) 3, type := 3, pos := "ref.go:40", after := #[{ on := 4, ground := Ground.data }], guard := none }) (v := ?_) rfl (by kernel_rfl) (by kernel_rfl) (by kernel_rfl) (fun _ _ _ h => h) (Or.inl ⟨by rfl, ?_⟩) (by assumption) ?_
              rotate_left 1
              · intro ws hSw; (try dsimp only at hSw); go_simp; all_goals with_reducible rfl
              simp only [Act.put, List.setIfInBounds_toArray, List.set_cons_zero, List.set_cons_succ]
              refine wpAnyH_take (i := 6) (oi := { dst := some 48, op := Op.slice 25 (Operand.tmp 45) none (some (Operand.tmp 47)) none, type := 25, pos := "ref.go:40", after := #[{ on := 3, ground := Ground.data }, { on := 5, ground := Ground.data }], guard := none }) (v := ?_) rfl (by kernel_rfl) (by kernel_rfl) (by kernel_rfl) (fun _ _ _ h => h) (Or.inl ⟨by rfl, ?_⟩) (by assumption) ?_
              rotate_left 1
              · intro ws hSw; (try dsimp only at hSw); go_simp; all_goals with_reducible rfl
              simp only [Act.put, List.setIfInBounds_toArray, List.set_cons_zero, List.set_cons_succ]
              refine wpAnyH_take (i := 7) (oi := { dst := some 49, op := Op.convert 25 9 (Operand.tmp 48), type := 9, pos := "ref.go:40", after := #[{ on := 6, ground := Ground.data }], guard := none }) (v := ?_) rfl (by kernel_rfl) (by kernel_rfl) (by kernel_rfl) (fun _ _ _ h => h) (Or.inl ⟨by rfl, ?_⟩) (by assumption) ?_
              rotate_left 1
              · intro ws hSw; (try dsimp only at hSw); go_simp; all_goals with_reducible rfl
              simp only [Act.put, List.setIfInBounds_toArray, List.set_cons_zero, List.set_cons_succ]
              refine wpAnyH_ready (rs := [1]) (by kernel_rfl) (by simp) ?_
              refine AllReadyH.cons (o := { dst := some 43, op := Op.call { callee := Callee.value (Operand.func 13), args := #[Operand.tmp 42], argTypes := #[2] }, type := 25, pos := "ref.go:40", after := #[{ on := 0, ground := Ground.data }], guard := none }) rfl (fun K hK => ?_) AllReadyH.nil
              go_simp
              (go_at_call 13; refine (Hid.out HRI).mono ?_; rintro e w4 ⟨A4, c4, rfl, hc3, hc4, HB4⟩)
              refine hK.out _ _ ?_ (fun hHeld => ?_)
              · (first | exact ⟨hcb, HL4⟩ | exact ⟨hc4, HB4⟩ | assumption)
              clear hK K
              refine wpAnyH_ready (rs := [2]) (by kernel_rfl) (by simp) ?_
              refine AllReadyH.cons (o := { dst := some 44, op := Op.convert 25 9 (Operand.tmp 43), type := 9, pos := "ref.go:40", after := #[{ on := 1, ground := Ground.data }], guard := none }) rfl (fun K hK => ?_) AllReadyH.nil
              go_simp
              refine hK.out _ _ (by assumption) (fun hHeld => ?_)
              clear hK K
              refine wpAnyH_take (i := 8) (oi := { dst := some 50, op := Op.binOp BinOp.neq 9 (Operand.tmp 44) (Operand.tmp 49) 9, type := 4, pos := "ref.go:40", after := #[{ on := 2, ground := Ground.data }, { on := 7, ground := Ground.data }], guard := none }) (v := ?_) rfl (by kernel_rfl) (by kernel_rfl) (by kernel_rfl) (fun _ _ _ h => h) (Or.inl ⟨by rfl, ?_⟩) (by assumption) ?_
              rotate_left 1
              · intro ws hSw; (try dsimp only at hSw); go_simp; all_goals with_reducible rfl
              simp only [Act.put, List.setIfInBounds_toArray, List.set_cons_zero, List.set_cons_succ]
              refine wpAnyH_done (by kernel_rfl) ?_ _
              go_wp2_with fail
              go_ret2
              rw [HR.out]
              exact ⟨rfl, HB4.out⟩
          · rw [if_neg hp] at hzz
            have hw : wrap64 (IntKind.u64.wrap (v2.tdiv 2)) = n := by rw [hzz, Int.tdiv_eq_ediv_of_nonneg hv20, wrap_u64]; unfold wrap64; omega
            have HW := Lib.hid hw
            have hpb : (v2 % 2 == 1) = false := by rw [beq_eq_false_iff_ne]; exact hp
            clear hw hzz hp hvl
            go_upto_region 12 with (fail)
            rw [HW.out]
            clear HW
            have HRI := Lib.hid (show Calls Try.prog 13 #[.int .i64 n] wr.drew (fun e w3 => ∃ A3 c3, e = .returned (.slice A3 (enc n).length c3) ∧ (convert 25 9 (.slice A3 (enc n).length c3)).run Try.prog w3 = .ok (.string (str (enc n))) w3 ∧ (convert 25 9 (.slice (some ⟨b, off, none⟩) (k + 1) c)).run Try.prog w3 = .ok (.string (str (l.take (k + 1)))) w3 ∧ Hid (Below wr.heap.size wr w3)) from by
              refine (refint_any n wr.drew HF.out).mono ?_
              rintro e w3 ⟨A3, c3, rfl, b3, z3, o3, l3⟩
              have l4 : Below wr.heap.size wr w3 := ((Below.refl wr.heap.size wr).drew).trans l3
              exact ⟨A3, c3, rfl, str_conv c3 b3, str_convN (k + 1) c ((Bs.next HBS.out l4).take (k + 1)) (by rw [List.length_take]; omega), Lib.hid l4⟩)
            have hcb : (convert 25 9 (.slice (some ⟨b, off, none⟩) (k + 1) c)).run Try.prog wr.drew = .ok (.string (str (l.take (k + 1)))) wr.drew := str_convN (k + 1) c (Rd.drew (Bs.take HBS.out (k + 1))) (by rw [List.length_take]; omega)
            obtain ⟨S, hS⟩ : ∃ S, S = str (enc n) := ⟨_, rfl⟩
            obtain ⟨T, hT⟩ : ∃ T, T = str (l.take (k + 1)) := ⟨_, rfl⟩
            rw [← hS, ← hT] at HRI
            rw [← hT] at hcb
            have HL4 : Hid (Below wr.heap.size wr wr.drew) := Lib.hid ((Below.refl _ _).drew)
            have hkc1 : (k : Int) + 1 ≤ (c : Int) := by omega
            have hkw : IntKind.i64.wrap ((k : Int) + 1) = (k : Int) + 1 := by rw [IntKind.wrap_i64]; omega
            have hk00 : (0 : Int) ≤ (k : Int) + 1 := by omega
            by_cases hE : enc n = l.take (k + 1)
            · have hST : (S.toList == T.toList) = true := by rw [hS, hT, hE]; simp
              have HR := Lib.hid (HL.out.trans (if_pos hE))
              clear hE hS hT
              refine wp_region_held_drew (S := (fun w' => (convert 25 9 (.slice (some ⟨b, off, none⟩) (k + 1) c)).run Try.prog w' = .ok (.string T) w' ∧ Hid (Below wr.heap.size wr w'))) (by kernel_rfl) ?_ (fun hHeld => ?_)
              · (first | exact ⟨hcb, HL4⟩ | exact ⟨hc4, HB4⟩ | assumption)
              refine wpAnyH_take (i := 0) (oi := { dst := some 42, op := Op.move (Operand.tmp 6), type := 2, pos := "ref.go:40", after := #[], guard := none }) (v := ?_) rfl (by kernel_rfl) (by kernel_rfl) (by kernel_rfl) (fun _ _ _ h => h) (Or.inl ⟨by rfl, ?_⟩) (by assumption) ?_
              rotate_left 1
              · intro ws hSw; (try dsimp only at hSw); go_simp; all_goals with_reducible rfl
              simp only [Act.put, List.setIfInBounds_toArray, List.set_cons_zero, List.set_cons_succ]
              refine wpAnyH_take (i := 3) (oi := { dst := some 45, op := Op.move (Operand.tmp 0), type := 25, pos := "ref.go:40", after := #[], guard := none }) (v := ?_) rfl (by kernel_rfl) (by kernel_rfl) (by kernel_rfl) (fun _ _ _ h => h) (Or.inl ⟨by rfl, ?_⟩) (by assumption) ?_
              rotate_left 1
              · intro ws hSw; (try dsimp only at hSw); go_simp; all_goals with_reducible rfl
              simp only [Act.put, List.setIfInBounds_toArray, List.set_cons_zero, List.set_cons_succ]
              refine wpAnyH_take (i := 4) (oi := { dst := some 46, op := Op.move (Operand.tmp 5), type := 3, pos := "ref.go:40", after := #[], guard := none }) (v := ?_) rfl (by kernel_rfl) (by kernel_rfl) (by kernel_rfl) (fun _ _ _ h => h) (Or.inl ⟨by rfl, ?_⟩) (by assumption) ?_
              rotate_left 1
              · intro ws hSw; (try dsimp only at hSw); go_simp; all_goals with_reducible rfl
              simp only [Act.put, List.setIfInBounds_toArray, List.set_cons_zero, List.set_cons_succ]
              refine wpAnyH_take (i := 5) (oi := { dst := some 47, op := Op.binOp BinOp.add 3 (Operand.tmp 46) (Operand.const (Value.int IntKind.i64 1)) 3, type := 3, pos := "ref.go:40", after := #[{ on := 4, ground := Ground.data }], guard := none }) (v := ?_) rfl (by kernel_rfl) (by kernel_rfl) (by kernel_rfl) (fun _ _ _ h => h) (Or.inl ⟨by rfl, ?_⟩) (by assumption) ?_
              rotate_left 1
              · intro ws hSw; (try dsimp only at hSw); go_simp; all_goals with_reducible rfl
              simp only [Act.put, List.setIfInBounds_toArray, List.set_cons_zero, List.set_cons_succ]
              refine wpAnyH_take (i := 6) (oi := { dst := some 48, op := Op.slice 25 (Operand.tmp 45) none (some (Operand.tmp 47)) none, type := 25, pos := "ref.go:40", after := #[{ on := 3, ground := Ground.data }, { on := 5, ground := Ground.data }], guard := none }) (v := ?_) rfl (by kernel_rfl) (by kernel_rfl) (by kernel_rfl) (fun _ _ _ h => h) (Or.inl ⟨by rfl, ?_⟩) (by assumption) ?_
              rotate_left 1
              · intro ws hSw; (try dsimp only at hSw); go_simp; all_goals with_reducible rfl
              simp only [Act.put, List.setIfInBounds_toArray, List.set_cons_zero, List.set_cons_succ]
              refine wpAnyH_take (i := 7) (oi := { dst := some 49, op := Op.convert 25 9 (Operand.tmp 48), type := 9, pos := "ref.go:40", after := #[{ on := 6, ground := Ground.data }], guard := none }) (v := ?_) rfl (by kernel_rfl) (by kernel_rfl) (by kernel_rfl) (fun _ _ _ h => h) (Or.inl ⟨by rfl, ?_⟩) (by assumption) ?_
              rotate_left 1
              · intro ws hSw; (try dsimp only at hSw); go_simp; all_goals with_reducible rfl
              simp only [Act.put, List.setIfInBounds_toArray, List.set_cons_zero, List.set_cons_succ]
              refine wpAnyH_ready (rs := [1]) (by kernel_rfl) (by simp) ?_
              refine AllReadyH.cons (o := { dst := some 43, op := Op.call { callee := Callee.value (Operand.func 13), args := #[Operand.tmp 42], argTypes := #[2] }, type := 25, pos := "ref.go:40", after := #[{ on := 0, ground := Ground.data }], guard := none }) rfl (fun K hK => ?_) AllReadyH.nil
              go_simp
              (go_at_call 13; refine (Hid.out HRI).mono ?_; rintro e w4 ⟨A4, c4, rfl, hc3, hc4, HB4⟩)
              refine hK.out _ _ ?_ (fun hHeld => ?_)
              · (first | exact ⟨hcb, HL4⟩ | exact ⟨hc4, HB4⟩ | assumption)
              clear hK K
              refine wpAnyH_ready (rs := [2]) (by kernel_rfl) (by simp) ?_
              refine AllReadyH.cons (o := { dst := some 44, op := Op.convert 25 9 (Operand.tmp 43), type := 9, pos := "ref.go:40", after := #[{ on := 1, ground := Ground.data }], guard := none }) rfl (fun K hK => ?_) AllReadyH.nil
              go_simp
              refine hK.out _ _ (by assumption) (fun hHeld => ?_)
              clear hK K
              refine wpAnyH_take (i := 8) (oi := { dst := some 50, op := Op.binOp BinOp.neq 9 (Operand.tmp 44) (Operand.tmp 49) 9, type := 4, pos := "ref.go:40", after := #[{ on := 2, ground := Ground.data }, { on := 7, ground := Ground.data }], guard := none }) (v := ?_) rfl (by kernel_rfl) (by kernel_rfl) (by kernel_rfl) (fun _ _ _ h => h) (Or.inl ⟨by rfl, ?_⟩) (by assumption) ?_
              rotate_left 1
              · intro ws hSw; (try dsimp only at hSw); go_simp; all_goals with_reducible rfl
              simp only [Act.put, List.setIfInBounds_toArray, List.set_cons_zero, List.set_cons_succ]
              refine wpAnyH_done (by kernel_rfl) ?_ _
              go_wp2_with fail
              go_ret2
              rw [HR.out]
              exact ⟨rfl, HB4.out⟩
            · have hST : (S.toList == T.toList) = false := by
                rw [Bool.eq_false_iff]
                intro e
                rw [beq_iff_eq, ByteArray.toList_eq, ByteArray.toList_eq] at e
                exact hE (str_inj (enc_byt n) (HBY.out.take _) (by rw [← hS, ← hT]; exact ByteArray.ext (Array.ext' e)))
              have HR := Lib.hid (HL.out.trans (if_neg hE))
              clear hE hS hT
              refine wp_region_held_drew (S := (fun w' => (convert 25 9 (.slice (some ⟨b, off, none⟩) (k + 1) c)).run Try.prog w' = .ok (.string T) w' ∧ Hid (Below wr.heap.size wr w'))) (by kernel_rfl) ?_ (fun hHeld => ?_)
              · (first | exact ⟨hcb, HL4⟩ | exact ⟨hc4, HB4⟩ | assumption)
              refine wpAnyH_take (i := 0) (oi := { dst := some 42, op := Op.move (Operand.tmp 6), type := 2, pos := "ref.go:40", after := #[], guard := none }) (v := ?_) rfl (by kernel_rfl) (by kernel_rfl) (by kernel_rfl) (fun _ _ _ h => h) (Or.inl ⟨by rfl, ?_⟩) (by assumption) ?_
              rotate_left 1
              · intro ws hSw; (try dsimp only at hSw); go_simp; all_goals with_reducible rfl
              simp only [Act.put, List.setIfInBounds_toArray, List.set_cons_zero, List.set_cons_succ]
              refine wpAnyH_take (i := 3) (oi := { dst := some 45, op := Op.move (Operand.tmp 0), type := 25, pos := "ref.go:40", after := #[], guard := none }) (v := ?_) rfl (by kernel_rfl) (by kernel_rfl) (by kernel_rfl) (fun _ _ _ h => h) (Or.inl ⟨by rfl, ?_⟩) (by assumption) ?_
              rotate_left 1
              · intro ws hSw; (try dsimp only at hSw); go_simp; all_goals with_reducible rfl
              simp only [Act.put, List.setIfInBounds_toArray, List.set_cons_zero, List.set_cons_succ]
              refine wpAnyH_take (i := 4) (oi := { dst := some 46, op := Op.move (Operand.tmp 5), type := 3, pos := "ref.go:40", after := #[], guard := none }) (v := ?_) rfl (by kernel_rfl) (by kernel_rfl) (by kernel_rfl) (fun _ _ _ h => h) (Or.inl ⟨by rfl, ?_⟩) (by assumption) ?_
              rotate_left 1
              · intro ws hSw; (try dsimp only at hSw); go_simp; all_goals with_reducible rfl
              simp only [Act.put, List.setIfInBounds_toArray, List.set_cons_zero, List.set_cons_succ]
              refine wpAnyH_take (i := 5) (oi := { dst := some 47, op := Op.binOp BinOp.add 3 (Operand.tmp 46) (Operand.const (Value.int IntKind.i64 1)) 3, type := 3, pos := "ref.go:40", after := #[{ on := 4, ground := Ground.data }], guard := none }) (v := ?_) rfl (by kernel_rfl) (by kernel_rfl) (by kernel_rfl) (fun _ _ _ h => h) (Or.inl ⟨by rfl, ?_⟩) (by assumption) ?_
              rotate_left 1
              · intro ws hSw; (try dsimp only at hSw); go_simp; all_goals with_reducible rfl
              simp only [Act.put, List.setIfInBounds_toArray, List.set_cons_zero, List.set_cons_succ]
              refine wpAnyH_take (i := 6) (oi := { dst := some 48, op := Op.slice 25 (Operand.tmp 45) none (some (Operand.tmp 47)) none, type := 25, pos := "ref.go:40", after := #[{ on := 3, ground := Ground.data }, { on := 5, ground := Ground.data }], guard := none }) (v := ?_) rfl (by kernel_rfl) (by kernel_rfl) (by kernel_rfl) (fun _ _ _ h => h) (Or.inl ⟨by rfl, ?_⟩) (by assumption) ?_
              rotate_left 1
              · intro ws hSw; (try dsimp only at hSw); go_simp; all_goals with_reducible rfl
              simp only [Act.put, List.setIfInBounds_toArray, List.set_cons_zero, List.set_cons_succ]
              refine wpAnyH_take (i := 7) (oi := { dst := some 49, op := Op.convert 25 9 (Operand.tmp 48), type := 9, pos := "ref.go:40", after := #[{ on := 6, ground := Ground.data }], guard := none }) (v := ?_) rfl (by kernel_rfl) (by kernel_rfl) (by kernel_rfl) (fun _ _ _ h => h) (Or.inl ⟨by rfl, ?_⟩) (by assumption) ?_
              rotate_left 1
              · intro ws hSw; (try dsimp only at hSw); go_simp; all_goals with_reducible rfl
              simp only [Act.put, List.setIfInBounds_toArray, List.set_cons_zero, List.set_cons_succ]
              refine wpAnyH_ready (rs := [1]) (by kernel_rfl) (by simp) ?_
              refine AllReadyH.cons (o := { dst := some 43, op := Op.call { callee := Callee.value (Operand.func 13), args := #[Operand.tmp 42], argTypes := #[2] }, type := 25, pos := "ref.go:40", after := #[{ on := 0, ground := Ground.data }], guard := none }) rfl (fun K hK => ?_) AllReadyH.nil
              go_simp
              (go_at_call 13; refine (Hid.out HRI).mono ?_; rintro e w4 ⟨A4, c4, rfl, hc3, hc4, HB4⟩)
              refine hK.out _ _ ?_ (fun hHeld => ?_)
              · (first | exact ⟨hcb, HL4⟩ | exact ⟨hc4, HB4⟩ | assumption)
              clear hK K
              refine wpAnyH_ready (rs := [2]) (by kernel_rfl) (by simp) ?_
              refine AllReadyH.cons (o := { dst := some 44, op := Op.convert 25 9 (Operand.tmp 43), type := 9, pos := "ref.go:40", after := #[{ on := 1, ground := Ground.data }], guard := none }) rfl (fun K hK => ?_) AllReadyH.nil
              go_simp
              refine hK.out _ _ (by assumption) (fun hHeld => ?_)
              clear hK K
              refine wpAnyH_take (i := 8) (oi := { dst := some 50, op := Op.binOp BinOp.neq 9 (Operand.tmp 44) (Operand.tmp 49) 9, type := 4, pos := "ref.go:40", after := #[{ on := 2, ground := Ground.data }, { on := 7, ground := Ground.data }], guard := none }) (v := ?_) rfl (by kernel_rfl) (by kernel_rfl) (by kernel_rfl) (fun _ _ _ h => h) (Or.inl ⟨by rfl, ?_⟩) (by assumption) ?_
              rotate_left 1
              · intro ws hSw; (try dsimp only at hSw); go_simp; all_goals with_reducible rfl
              simp only [Act.put, List.setIfInBounds_toArray, List.set_cons_zero, List.set_cons_succ]
              refine wpAnyH_done (by kernel_rfl) ?_ _
              go_wp2_with fail
              go_ret2
              rw [HR.out]
              exact ⟨rfl, HB4.out⟩
        · have HN := Lib.hid (HA.out.next HX.out HO.out h128 hx256)
          have hd : decide (128 ≤ (x : Int)) = true := by simp; omega
          clear h128
          go_wp2_with fail
          go_roundw
          case rel => exact ⟨k + 1, _, v2, by go_num, rfl, HV2, by omega, by omega, HN.out, by trivial⟩
          case measure => simp [intOf]; omega
      · have hov : ¬ v < 144115188075855872 := by have := HV.out; omega
        have HR := Lib.hid (HA.out.over hover)
        clear hover
        go_wp2_with fail
        go_ret2
        rw [HR.out]
        exact ⟨rfl, (by repeat (first | exact Below.refl _ _ | assumption | refine below_drewN ?_ _ | refine Below.drew ?_ | refine Below.alloc ?_ (by simp; try omega) _ | refine Below.setCell ?_ (by simp; try omega) _))⟩
    · have HR : Hid (getR l = (0, 0)) := by
        rcases Nat.lt_or_ge k 10 with h1 | h1
        · obtain rfl : k = l.length := by omega
          exact HA.out.end_
        · obtain rfl : k = 10 := by omega
          exact HA.out.ten
      by_cases hkl2 : k < l.length
      · have hk9 : ¬ k < 10 := by omega
        clear hkl
        go_wp2_with fail
        go_ret2
        rw [HR.out]
        exact ⟨rfl, (by repeat (first | exact Below.refl _ _ | assumption | refine below_drewN ?_ _ | refine Below.drew ?_ | refine Below.alloc ?_ (by simp; try omega) _ | refine Below.setCell ?_ (by simp; try omega) _))⟩
      · clear hkl
        go_wp2_with fail
        go_ret2
        rw [HR.out]
        exact ⟨rfl, (by repeat (first | exact Below.refl _ _ | assumption | refine below_drewN ?_ _ | refine Below.drew ?_ | refine Below.alloc ?_ (by simp; try omega) _ | refine Below.setCell ?_ (by simp; try omega) _))⟩
end Go.Proofs.Ytbnlobfhcanbgaa

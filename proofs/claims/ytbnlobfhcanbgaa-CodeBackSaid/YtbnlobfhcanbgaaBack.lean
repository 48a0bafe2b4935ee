/- What is written is read, part by part: plain laws. -/
import Derived.Test.YtbnlobfhcanbgaaPlain
import Derived.Test.YtbnlobfhcanbgaaCSame
namespace Go.Proofs.Ytbnlobfhcanbgaa
open Go Go.RowKit

theorem intR_more {least most : Int} {s r : List Nat} (t : List Nat) (h : (intR least most (some s)).2 = some r) : (intR least most (some (s ++ t))).2 = some (r ++ t) := by
  cases hn : num 0 true s with
  | none => simp [intR, hn] at h
  | some ur =>
    obtain ⟨u, r'⟩ := ur
    simp only [intR, hn] at h
    split at h
    · next hc =>
      simp only [Option.some.injEq] at h
      subst h
      simp only [intR, num_more t hn]
      rw [if_pos hc]
    · simp at h
theorem textR_more {most : Int} {s r : List Nat} (t : List Nat) (h : (textR most (some s)).2 = some r) : (textR most (some (s ++ t))).2 = some (r ++ t) := by
  cases hn : num 0 true s with
  | none => simp [textR, hn] at h
  | some ur =>
    obtain ⟨u, r'⟩ := ur
    simp only [textR, hn] at h
    split at h
    · next hc =>
      simp only [Option.some.injEq] at h
      subst h
      simp only [textR, num_more t hn]
      rw [if_pos (by rw [List.length_append]; omega), List.drop_append_of_le_length (by omega)]
    · simp at h
theorem hashR_more {s r : List Nat} (t : List Nat) (h : (hashR (some s)).2 = some r) : (hashR (some (s ++ t))).2 = some (r ++ t) := by
  simp only [hashR] at h
  split at h
  · next hc =>
    simp only [Option.some.injEq] at h
    subst h
    simp only [hashR]
    rw [if_pos (by rw [List.length_append]; omega), List.drop_append_of_le_length hc]
  · simp at h
theorem takeR_more {x : Pt} {s r : List Nat} (t : List Nat) (h : (takeR x (some s)).2 = some r) : (takeR x (some (s ++ t))).2 = some (r ++ t) := by
  unfold takeR at *
  split at h
  · next hc => rw [if_pos hc]; exact intR_more t h
  · next hc =>
    rw [if_neg hc]
    split at h
    · next hc => rw [if_pos hc]; exact textR_more t h
    · next hc =>
      rw [if_neg hc]
      split at h
      · next hc => rw [if_pos hc]; exact hashR_more t h
      · next hc =>
        rw [if_neg hc]
        simp only [Option.some.injEq] at h
        subst h
        rfl
theorem readR_none (l : List Pt) : (readR l none).2 = none := by
  induction l with
  | nil => rfl
  | cons x l ih =>
    have : (takeR x none).2 = none := by
      unfold takeR
      split
      · rfl
      · split
        · rfl
        · split <;> rfl
    simp only [readR, this, ih]
/-- What is read of bytes is read with more behind them, too. -/
theorem readR_more (l : List Pt) {s r : List Nat} (t : List Nat) (h : (readR l (some s)).2 = some r) : (readR l (some (s ++ t))).2 = some (r ++ t) := by
  induction l generalizing s with
  | nil => simp only [readR, Option.some.injEq] at *; rw [h]
  | cons x l ih =>
    simp only [readR] at *
    cases hx : (takeR x (some s)).2 with
    | none => rw [hx, readR_none] at h; cases h
    | some m =>
      rw [hx] at h
      rw [takeR_more t hx]
      exact ih h
/-- The kinds that are written. -/
def sel (x : Pt) : Bool := decide (1 ≤ x.kind ∧ x.kind ≤ 3)
/-- What CodeBack asks for, and what it wants. -/
def askOf (x : Pt) : Pt := { Pt.nil with kind := x.kind, least := x.n, most := if x.kind = 2 then 300 else 9223372036854775807 }
def wantOf (x : Pt) : Pt := if x.kind = 1 then { Pt.nil with kind := x.kind, n := x.n } else if x.kind = 2 then { Pt.nil with kind := x.kind, A := x.A, c := x.c, b := x.b } else { Pt.nil with kind := x.kind, h := x.h }
def asksOf (l : List Pt) : List Pt := (l.filter sel).map askOf
def wantsOf (l : List Pt) : List Pt := (l.filter sel).map wantOf
theorem hl_at (h : Nat → Nat) (r : List Nat) (j : Nat) (hj : j < 32) : (hl h ++ r)[j]?.getD 0 = h j := by
  rw [List.getElem?_append_left (by rw [hl_len]; exact hj)]
  unfold hl
  simp [hj]
theorem hc_congr {f g : Nat → Nat} (h : ∀ j, j < 32 → f j = g j) : hc f = hc g := by
  unfold hc
  congr 1
  exact List.map_congr_left fun j hj => by rw [h j (by simpa using hj)]
theorem key_face (x : Pt) : key x.face = key x := rfl
theorem fit_len300 {l : List Nat} (h : l.length ≤ 300) : Fit (l.length : Int) := by unfold Fit; omega
theorem textR_back {l : List Nat} (hl : l.length ≤ 300) (r : List Nat) : textR ((300 : Int).tmod 100000) (some (enc l.length ++ (l ++ r))) = (l, some r) := by
  rw [textR_yes (num_enc (fit_len300 hl) _) (by rw [unzz_zz]; omega) (by rw [unzz_zz]; show (l.length : Int) ≤ 300; omega) (by rw [unzz_zz]; simp; omega), unzz_zz]
  simp
theorem back_one {x : Pt} (hs : sel x = true) (hf : Fit x.n) (hb : x.b.length ≤ 300) (r : List Nat) : ∃ y, takeR (askOf x) (some (wr1 x ++ r)) = (some y, some r) ∧ key y = key (wantOf x) := by
  unfold sel at hs
  simp only [decide_eq_true_eq] at hs
  by_cases h1 : x.kind = 1
  · refine ⟨{ Pt.nil with kind := 1, n := x.n }, ?_, ?_⟩
    · unfold takeR wr1 askOf
      simp only [h1, if_true]
      rw [intR_enc hf (Int.le_refl _) (by have := hf.2; simpa using this)]
    · unfold wantOf; rw [if_pos h1, h1]
  · by_cases h2 : x.kind = 2
    · refine ⟨{ Pt.nil with kind := 2, b := x.b }, ?_, ?_⟩
      · have hw : wr1 x = enc x.b.length ++ x.b := by unfold wr1; rw [if_neg h1, if_pos h2]
        have hk : (askOf x).kind = 2 := h2
        have hm : (askOf x).most = 300 := by show (if x.kind = 2 then _ else _) = _; rw [if_pos h2]
        unfold takeR
        rw [if_neg (by rw [hk]; decide), if_pos hk, hm, hw, List.append_assoc, textR_back hb]
      · unfold wantOf; rw [if_neg h1, if_pos h2, h2]; rfl
    · have h3 : x.kind = 3 := by omega
      refine ⟨{ Pt.nil with kind := 3, h := fun j => (hl x.h ++ r)[j]?.getD 0 }, ?_, ?_⟩
      · have hw : wr1 x = hl x.h := by unfold wr1; rw [if_neg h1, if_neg h2, if_pos h3]
        have hk : (askOf x).kind = 3 := h3
        unfold takeR
        rw [if_neg (by rw [hk]; decide), if_neg (by rw [hk]; decide), if_pos hk, hw, hashR_yes (by rw [List.length_append, hl_len]; omega)]
        have e : (hl x.h ++ r).drop 32 = r := by rw [List.drop_append_of_le_length (by rw [hl_len]; omega), List.drop_of_length_le (by rw [hl_len]; omega)]; rfl
        rw [e]
      · unfold wantOf; rw [if_neg h1, if_neg h2, h3]
        unfold key
        simp only [Prod.mk.injEq, true_and]
        exact hc_congr fun j hj => hl_at x.h r j hj
theorem wr1_not {x : Pt} (hs : sel x = false) : wr1 x = [] := by
  unfold sel at hs
  simp only [decide_eq_false_iff_not] at hs
  unfold wr1
  rw [if_neg (by omega), if_neg (by omega), if_neg (by omega)]
/-- What is written is read. -/
theorem readR_back (l : List Pt) (hok : ∀ x ∈ l, Fit x.n ∧ x.b.length ≤ 300) (r : List Nat) : (readR (asksOf l) (some (wrs l ++ r))).2 = some r ∧ (readR (asksOf l) (some (wrs l ++ r))).1.map key = (wantsOf l).map key := by
  induction l with
  | nil => exact ⟨rfl, rfl⟩
  | cons x l ih =>
    have hx := hok x (by simp)
    have ih := ih (fun y hy => hok y (by simp [hy]))
    have hw : wrs (x :: l) ++ r = wr1 x ++ (wrs l ++ r) := by unfold wrs; simp
    rw [hw]
    unfold asksOf wantsOf at *
    cases hs : sel x with
    | true =>
      obtain ⟨y, hy, hk⟩ := back_one hs hx.1 hx.2 (wrs l ++ r)
      rw [List.filter_cons_of_pos hs, List.map_cons, List.map_cons]
      simp only [readR, hy, Option.toList, List.map_append, List.map_cons, List.map_nil]
      exact ⟨ih.1, by rw [ih.2, hk]; rfl⟩
    | false =>
      rw [List.filter_cons_of_neg (by rw [hs]; decide), wr1_not hs, List.nil_append]
      exact ih
theorem doneR_no {s : Option (List Nat)} (h : s ≠ some []) : doneR s = 20 := by
  cases s with
  | none => rfl
  | some l =>
    cases l with
    | nil => exact absurd rfl h
    | cons x l => rfl
/-- With one byte fewer it is given up. -/
theorem readR_fewer (l : List Pt) (hok : ∀ x ∈ l, Fit x.n ∧ x.b.length ≤ 300) (hne : wrs l ≠ []) : doneR (readR (asksOf l) (some ((wrs l).take ((wrs l).length - 1)))).2 = 20 := by
  refine doneR_no fun e => ?_
  have h1 := (readR_back l hok []).1
  rw [List.append_nil] at h1
  have h2 := readR_more (asksOf l) ((wrs l).drop ((wrs l).length - 1)) e
  rw [List.take_append_drop, h1, List.nil_append] at h2
  have h3 := congrArg List.length (Option.some.inj h2)
  rw [List.length_nil, List.length_drop] at h3
  have : 0 < (wrs l).length := List.length_pos_iff.2 hne
  omega
theorem asksOf_snoc (l : List Pt) (k : Nat) (x : Pt) (h : l[k]? = some x) : asksOf (l.take (k + 1)) = asksOf (l.take k) ++ (if sel x then [askOf x] else []) ∧ wantsOf (l.take (k + 1)) = wantsOf (l.take k) ++ (if sel x then [wantOf x] else []) := by
  have hk : k < l.length := (List.getElem?_eq_some_iff.1 h).1
  have hx : l[k] = x := (List.getElem?_eq_some_iff.1 h).2
  unfold asksOf wantsOf
  rw [List.take_succ_eq_append_getElem hk, hx, List.filter_append, List.map_append, List.map_append]
  cases hs : sel x with
  | true => rw [List.filter_cons_of_pos hs]; exact ⟨rfl, rfl⟩
  | false => rw [List.filter_cons_of_neg (by rw [hs]; decide)]; exact ⟨rfl, rfl⟩
theorem asksOf_len (l : List Pt) : (asksOf l).length ≤ l.length ∧ (wantsOf l).length = (asksOf l).length := by
  unfold asksOf wantsOf
  rw [List.length_map, List.length_map]
  exact ⟨List.length_filter_le _ _, rfl⟩
theorem wr1_byt {w : World} {B : Nat} {x : Pt} (h : PtOk w B x) : Byt (wr1 x) := by
  unfold wr1
  split
  · exact enc_byt _
  · split
    · exact (enc_byt _).app h.byt
    · split
      · intro z hz
        unfold hl at hz
        obtain ⟨j, -, rfl⟩ := List.mem_map.1 hz
        exact h.h j
      · intro z hz; cases hz
theorem wrs_byt {w : World} {B : Nat} (l : List Pt) (h : ∀ x ∈ l, PtOk w B x) : Byt (wrs l) := by
  induction l with
  | nil => intro z hz; cases hz
  | cons x l ih =>
    have := (wr1_byt (h x (by simp))).app (ih (fun y hy => h y (by simp [hy])))
    exact this
end Go.Proofs.Ytbnlobfhcanbgaa

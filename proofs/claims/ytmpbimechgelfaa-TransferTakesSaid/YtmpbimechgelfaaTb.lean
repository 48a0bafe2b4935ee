/- Lists of Booleans: what is missing, and whether all are there. -/
import Derived.Test.YtmpbimechgelfaaBytes
import Derived.BigQuiet
import Derived.Deep.QuietTactic
namespace Go.Proofs.Ytmpbimechgelfaa
open Go Go.RowKit

def bb (l : List Bool) (j : Nat) : Value := .bool (l[j]?.getD false)
/-- The slice A reads as the Booleans l, below block B. -/
def Bo (w : World) (B : Nat) (A : Option Addr) (l : List Bool) : Prop := Rd w B 1 A l.length (bb l)
/-- The slice v is the call's own and holds the Booleans l. -/
def Ol (w : World) (base : Nat) (v : Value) (l : List Bool) : Prop := Own w base 4 1 v l.length (bb l)
theorem Bo.next {w w' : World} {A : Option Addr} {l : List Bool} (h : Bo w w.heap.size A l) (hb : Below w.heap.size w w') : Bo w' w'.heap.size A l := (Rd.below h hb).more hb.size
theorem Bo.none {w : World} {B : Nat} : Bo w B none [] := Rd.zero
/-- How many are missing. -/
def missB (l : List Bool) : Nat := l.countP (fun b => !b)
theorem miss_take {l : List Bool} {j : Nat} (hj : j < l.length) : missB (l.take (j + 1)) = missB (l.take j) + (if l[j]?.getD false = true then 0 else 1) := by
  unfold missB
  rw [List.take_add_one, List.countP_append, List.getElem?_eq_getElem hj]
  cases l[j] <;> simp
theorem miss_le (l : List Bool) : missB l ≤ l.length := List.countP_le_length
/-- Are all there, and is there any? -/
def doneB (l : List Bool) : Bool := decide (0 < l.length) && decide (missB l = 0)
set_option maxHeartbeats 4000000 in
theorem missing_any (l : List Bool) (A : Option Addr) (c : Nat) (w : World) (h : Bo w w.heap.size A l) (hl : l.length ≤ 1000) :
    Calls Try.prog 18 #[.slice A l.length c] w fun e w' => e = .returned (.int .i64 (missB l : Int)) ∧ w' = w := by
  have HH := Lib.hid h
  obtain ⟨n, hn⟩ : ∃ n, n = l.length := ⟨_, rfl⟩
  rw [← hn] at hl ⊢
  have HN := Lib.hid hn
  clear h hn
  go_enter Try.func18, Try.ntmps18
  go_wp2_with fail
  go_loop [2, 7] (fun m i => ∃ j k : Nat, i = .int .i64 (j : Int) ∧ m = .int .i64 (k : Int) ∧ j ≤ n ∧ k = missB (l.take j) ∧ k ≤ j) (fun _ i => (n - intOf i).toNat)
  case atStart => exact ⟨0, 0, rfl, rfl, by omega, rfl, by omega⟩
  case round =>
    obtain ⟨j, k, rfl, rfl, hj, hk, hkj⟩ := hrel
    by_cases hlt : j < n
    · obtain ⟨bk, ok, hA, hbk, hkc⟩ := HH.out (by rw [← HN.out]; omega)
      have HS := Lib.hid (miss_take (l := l) (j := j) (by rw [← HN.out]; exact hlt))
      obtain ⟨x, hx⟩ : ∃ x, x = l[j]?.getD false := ⟨_, rfl⟩
      have ck : w.cell? ⟨bk, ok + j, none⟩ = some (.bool x) := by rw [hkc j (by rw [← HN.out]; omega), hx]; rfl
      rw [← hx, ← hk] at HS
      have hjI : (j : Int) < (n : Int) := by omega
      subst hA
      clear hkc hx hk
      cases x with
      | true =>
        go_wp2_with fail
        go_round
        case rel => exact ⟨j + 1, k, by first | rfl | go_num, rfl, by omega, by rw [HS.out]; simp, by omega⟩
        case measure => simp [intOf]; omega
      | false =>
        go_wp2_with fail
        go_round
        case rel => exact ⟨j + 1, k + 1, by first | rfl | go_num, by first | rfl | go_num, by omega, by rw [HS.out]; simp, by omega⟩
        case measure => simp [intOf]; omega
    · obtain rfl : j = n := by omega
      have HR := Lib.hid (show k = missB l from by rw [hk, List.take_of_length_le (by rw [← HN.out]; exact Nat.le_refl _)])
      clear hk
      go_wp2_with fail
      go_ret
      exact ⟨by rw [HR.out]; rfl, rfl⟩
set_option maxHeartbeats 4000000 in
theorem rmissing_any (l : List Bool) (A : Option Addr) (c : Nat) (w : World) (h : Bo w w.heap.size A l) (hl : l.length ≤ 1000) :
    Calls Try.prog 17 #[.slice A l.length c] w fun e w' => e = .returned (.int .i64 (missB l : Int)) ∧ w' = w := by
  have HH := Lib.hid h
  obtain ⟨n, hn⟩ : ∃ n, n = l.length := ⟨_, rfl⟩
  rw [← hn] at hl ⊢
  have HN := Lib.hid hn
  clear h hn
  go_enter Try.func17, Try.ntmps17
  go_wp2_with fail
  go_loop [3, 4] (fun m i => ∃ j k : Nat, i = .int .i64 (j : Int) ∧ m = .int .i64 (k : Int) ∧ j ≤ n ∧ k = missB (l.take j) ∧ k ≤ j) (fun _ i => (n - intOf i).toNat)
  case atStart => exact ⟨0, 0, rfl, rfl, by omega, rfl, by omega⟩
  case round =>
    obtain ⟨j, k, rfl, rfl, hj, hk, hkj⟩ := hrel
    by_cases hlt : j < n
    · obtain ⟨bk, ok, hA, hbk, hkc⟩ := HH.out (by rw [← HN.out]; omega)
      have HS := Lib.hid (miss_take (l := l) (j := j) (by rw [← HN.out]; exact hlt))
      obtain ⟨x, hx⟩ : ∃ x, x = l[j]?.getD false := ⟨_, rfl⟩
      have ck : w.cell? ⟨bk, ok + j, none⟩ = some (.bool x) := by rw [hkc j (by rw [← HN.out]; omega), hx]; rfl
      rw [← hx, ← hk] at HS
      have hjI : (j : Int) < (n : Int) := by omega
      subst hA
      clear hkc hx hk
      cases x with
      | true =>
        go_wp2_with fail
        go_round
        case rel => exact ⟨j + 1, k, by first | rfl | go_num, rfl, by omega, by rw [HS.out]; simp, by omega⟩
        case measure => simp [intOf]; omega
      | false =>
        go_wp2_with fail
        go_round
        case rel => exact ⟨j + 1, k + 1, by first | rfl | go_num, by first | rfl | go_num, by omega, by rw [HS.out]; simp, by omega⟩
        case measure => simp [intOf]; omega
    · obtain rfl : j = n := by omega
      have HR := Lib.hid (show k = missB l from by rw [hk, List.take_of_length_le (by rw [← HN.out]; exact Nat.le_refl _)])
      clear hk
      go_wp2_with fail
      go_ret
      exact ⟨by rw [HR.out]; rfl, rfl⟩
/-- The place of the first one that is missing. -/
theorem miss_zero {l : List Bool} {j : Nat} (h : missB (l.take (j + 1)) = 0) (hj : j < l.length) : l[j]?.getD false = true := by
  rw [miss_take hj] at h
  by_cases hx : l[j]?.getD false = true
  · exact hx
  · rw [if_neg hx] at h; omega
set_option maxHeartbeats 4000000 in
theorem index_any (l : List Bool) (A : Option Addr) (c : Nat) (w : World) (h : Bo w w.heap.size A l) (hl : l.length ≤ 1000) :
    Calls Try.prog 60 #[.slice A l.length c, .bool false] w fun e w' => (∃ r : Int, e = .returned (.int .i64 r) ∧ -1 ≤ r ∧ r ≤ 1000 ∧ (decide (0 ≤ r) = !decide (missB l = 0))) ∧ w' = w := by
  have HH := Lib.hid h
  obtain ⟨n, hn⟩ : ∃ n, n = l.length := ⟨_, rfl⟩
  rw [← hn] at hl ⊢
  have HN := Lib.hid hn
  clear h hn
  go_enter Try.func60, Try.ntmps60
  go_wp2_with fail
  go_loop [8] (fun i => ∃ j : Nat, i = .int .i64 (j : Int) ∧ j ≤ n ∧ missB (l.take j) = 0) (fun i => (n - intOf i).toNat)
  case atStart => exact ⟨0, rfl, by omega, rfl⟩
  case round =>
    obtain ⟨j, rfl, hj, hk⟩ := hrel
    by_cases hlt : j < n
    · obtain ⟨bk, ok, hA, hbk, hkc⟩ := HH.out (by rw [← HN.out]; omega)
      have HS := Lib.hid (miss_take (l := l) (j := j) (by rw [← HN.out]; exact hlt))
      obtain ⟨x, hx⟩ : ∃ x, x = l[j]?.getD false := ⟨_, rfl⟩
      have ck : w.cell? ⟨bk, ok + j, none⟩ = some (.bool x) := by rw [hkc j (by rw [← HN.out]; omega), hx]; rfl
      rw [← hx, hk] at HS
      have hjI : (j : Int) < (n : Int) := by omega
      subst hA
      clear hkc hx hk
      cases x with
      | true =>
        go_wp2_with fail
        go_round
        case rel => exact ⟨j + 1, by first | rfl | go_num, by omega, by rw [HS.out]; simp⟩
        case measure => simp [intOf]; omega
      | false =>
        have HM := Lib.hid (show ¬ missB l = 0 from by
          have h1 : missB l = missB (l.take (j + 1)) + missB (l.drop (j + 1)) := by
            unfold missB
            rw [← List.countP_append, List.take_append_drop]
          rw [h1, HS.out]; simp)
        go_wp2_with fail
        go_ret
        exact ⟨⟨(j : Int), rfl, by omega, by omega, by rw [decide_eq_true (by omega), decide_eq_false HM.out]; rfl⟩, rfl⟩
    · obtain rfl : j = n := by omega
      have HR := Lib.hid (show missB l = 0 from by rw [← hk, List.take_of_length_le (by rw [← HN.out]; exact Nat.le_refl _)])
      clear hk
      go_wp2_with fail
      go_ret
      exact ⟨⟨-1, rfl, by omega, by omega, by rw [decide_eq_true HR.out]; rfl⟩, rfl⟩
theorem contains_any (l : List Bool) (A : Option Addr) (c : Nat) (w : World) (h : Bo w w.heap.size A l) (hl : l.length ≤ 1000) :
    Calls Try.prog 43 #[.slice A l.length c, .bool false] w fun e w' => e = .returned (.bool (!decide (missB l = 0))) ∧ w' = w := by
  have HC := Lib.hid (index_any l A c w h hl)
  obtain ⟨b, hb⟩ : ∃ b, b = !decide (missB l = 0) := ⟨_, rfl⟩
  rw [← hb] at HC ⊢
  clear h hl hb
  go_enter Try.func43, Try.ntmps43
  go_wp2_with fail
  refine HC.out.mono ?_
  rintro e w' ⟨⟨r, rfl, h1, h2, h3⟩, hw⟩
  have hw2 := hw.symm
  clear hw
  subst hw2
  go_wp2_with fail
  go_ret
  exact ⟨by first | rfl | (rw [← h3]; rfl), rfl⟩
theorem done_any (l : List Bool) (A : Option Addr) (c : Nat) (w : World) (h : Bo w w.heap.size A l) (hl : l.length ≤ 1000) :
    Calls Try.prog 19 #[.slice A l.length c] w fun e w' => e = .returned (.bool (doneB l)) ∧ w' = w := by
  have HC := Lib.hid (contains_any l A c w h hl)
  obtain ⟨b, hb⟩ : ∃ b, b = !decide (missB l = 0) := ⟨_, rfl⟩
  have HD := Lib.hid (show doneB l = (decide (0 < l.length) && !b) from by rw [hb]; unfold doneB; simp)
  rw [← hb] at HC
  clear h hb
  obtain ⟨n, hn⟩ : ∃ n, n = l.length := ⟨_, rfl⟩
  rw [← hn] at HC HD hl ⊢
  clear hn
  by_cases hn0 : 0 < n
  · have hd : decide ((0 : Int) < (n : Int)) = true := by simp; omega
    have hd' : decide (0 < n) = true := by simp; omega
    go_enter Try.func19, Try.ntmps19
    go_wp2_with fail
    refine HC.out.mono ?_
    rintro e w' ⟨rfl, hw⟩
    have hw2 := hw.symm
    clear hw
    subst hw2
    go_wp2_with fail
    go_ret
    exact ⟨by rw [HD.out, hd']; cases b <;> rfl, rfl⟩
  · obtain rfl : n = 0 := by omega
    go_enter Try.func19, Try.ntmps19
    go_wp2_with fail
    go_ret
    exact ⟨by rw [HD.out]; rfl, rfl⟩
/-- Are two lists the same? -/
theorem same_pre {l m : List Bool} (hlen : l.length = m.length) {j : Nat} (hj : j < l.length) (h : l.take j = m.take j) : (l.take (j + 1) = m.take (j + 1)) ↔ l[j]?.getD false = m[j]?.getD false := by
  have hj2 : j < m.length := by omega
  rw [List.take_add_one, List.take_add_one, h, List.getElem?_eq_getElem hj, List.getElem?_eq_getElem hj2]
  simp only [Option.toList, Option.getD_some]
  exact ⟨fun e => by have := List.append_cancel_left e; simpa using this, fun e => by rw [e]⟩
set_option maxHeartbeats 4000000 in
theorem same_any (l m : List Bool) (A1 A2 : Option Addr) (c1 c2 : Nat) (w : World) (h1 : Bo w w.heap.size A1 l) (h2 : Bo w w.heap.size A2 m) (hl : l.length ≤ 1000) (hm : m.length ≤ 1000) :
    Calls Try.prog 22 #[.slice A1 l.length c1, .slice A2 m.length c2] w fun e w' => e = .returned (.bool (decide (l = m))) ∧ Below w.heap.size w w' := by
  have HH1 := Lib.hid h1
  have HH2 := Lib.hid h2
  obtain ⟨n, hn⟩ : ∃ n, n = l.length := ⟨_, rfl⟩
  obtain ⟨q, hq⟩ : ∃ n, n = m.length := ⟨_, rfl⟩
  rw [← hn] at hl ⊢
  rw [← hq] at hm ⊢
  have HN := Lib.hid hn
  have HQ := Lib.hid hq
  obtain ⟨b, hb⟩ : ∃ b, b = decide (l = m) := ⟨_, rfl⟩
  rw [← hb]
  have HB := Lib.hid hb
  clear h1 h2 hn hq hb
  by_cases hnq : n = q
  · subst hnq
    have HE := Lib.hid (show l.length = m.length from by rw [← HN.out, ← HQ.out])
    go_enter Try.func22, Try.ntmps22
    go_wp2_with fail
    go_loopw [5] (fun i wr => ∃ j : Nat, i = .int .i64 (j : Int) ∧ j ≤ n ∧ l.take j = m.take j ∧ ∃ q, wr = w.drewN q) (fun i _ => (n - intOf i).toNat)
    case atStart => exact ⟨0, rfl, by omega, by simp, 0, rfl⟩
    case round =>
      obtain ⟨j, rfl, hj, hk, q, rfl⟩ := hrel
      by_cases hlt : j < n
      · obtain ⟨bk, ok, hA, hbk, hkc⟩ := HH1.out (by rw [← HN.out]; omega)
        obtain ⟨bk2, ok2, hA2, hbk2, hkc2⟩ := HH2.out (by rw [← HQ.out]; omega)
        have HS := Lib.hid (same_pre HE.out (j := j) (by rw [← HN.out]; exact hlt) hk)
        obtain ⟨x, hx⟩ : ∃ x, x = l[j]?.getD false := ⟨_, rfl⟩
        obtain ⟨y, hy⟩ : ∃ x, x = m[j]?.getD false := ⟨_, rfl⟩
        have ck : w.cell? ⟨bk, ok + j, none⟩ = some (.bool x) := by rw [hkc j (by rw [← HN.out]; omega), hx]; rfl
        have ck2 : w.cell? ⟨bk2, ok2 + j, none⟩ = some (.bool y) := by rw [hkc2 j (by rw [← HQ.out]; omega), hy]; rfl
        rw [← hx, ← hy] at HS
        have hjI : (j : Int) < (n : Int) := by omega
        subst hA hA2
        by_cases hxy : x = y
        · have HT := Lib.hid (HS.out.2 hxy)
          clear hkc hkc2 hx hy hk
          subst hxy
          cases x
          all_goals
            go_wp2_with fail
            go_quiet (fail)
            go_wp2_with fail
            go_roundw
            case rel => exact ⟨j + 1, by first | rfl | go_num, by omega, HT.out, _, rfl⟩
            case measure => simp [intOf]; omega
        · have HF := Lib.hid (show b = false from by
            rw [HB.out, decide_eq_false_iff_not]
            rintro rfl
            exact hxy (by rw [hx, hy]))
          clear hkc hkc2 hx hy hk
          rcases x with _ | _ <;> rcases y with _ | _ <;> first | exact absurd rfl hxy | skip
          all_goals
            go_wp2_with fail
            go_quiet (fail)
            go_wp2_with fail
            go_ret
            exact ⟨by rw [HF.out]; rfl, (by repeat (first | exact Below.refl _ _ | assumption | refine below_drewN ?_ _ | refine Below.drew ?_ | refine Below.alloc ?_ (by simp; try omega) _ | refine Below.setCell ?_ (by simp; try omega) _))⟩
      · obtain rfl : j = n := by omega
        have HR := Lib.hid (show b = true from by
          rw [List.take_of_length_le (by rw [← HN.out]; exact Nat.le_refl _), List.take_of_length_le (by rw [← HQ.out]; exact Nat.le_refl _)] at hk
          rw [HB.out, hk]; simp)
        clear hk
        go_wp2_with fail
        go_ret
        exact ⟨by rw [HR.out]; rfl, (by repeat (first | exact Below.refl _ _ | assumption | refine below_drewN ?_ _ | refine Below.drew ?_ | refine Below.alloc ?_ (by simp; try omega) _ | refine Below.setCell ?_ (by simp; try omega) _))⟩
  · have HF := Lib.hid (show b = false from by
      rw [HB.out, decide_eq_false_iff_not]
      rintro rfl
      exact hnq (by rw [HN.out, HQ.out]))
    have hI : ((n : Int) != (q : Int)) = true := by simp; omega
    go_enter Try.func22, Try.ntmps22
    go_wp2_with fail
    go_ret
    exact ⟨by rw [HF.out]; rfl, (by repeat (first | exact Below.refl _ _ | assumption | refine below_drewN ?_ _ | refine Below.drew ?_ | refine Below.alloc ?_ (by simp; try omega) _ | refine Below.setCell ?_ (by simp; try omega) _))⟩
end Go.Proofs.Ytmpbimechgelfaa

/- The document's constants by their roots: above, root, roots. -/
import Derived.Test.YtmpbimechgelfaaRoots
import Derived.Laws.Externs
namespace Go.Proofs.Ytmpbimechgelfaa
open Go Go.RowKit

theorem mul64_any {x y h l : Nat} (hx : x < 18446744073709551616) (hy : y < 18446744073709551616) (hh : h = x * y / 18446744073709551616) (hl : l = x * y % 18446744073709551616) (w : World) :
    Calls Try.prog 74 #[.int .u64 (x : Int), .int .u64 (y : Int)] w fun e w' => e = .returned (.tuple #[.int .u64 (h : Int), .int .u64 (l : Int)]) ∧ w = w' := by
  refine (Try.bits_Mul64 x y hx hy w).mono ?_
  rintro e w' ⟨rfl, rfl⟩
  rw [hh, hl]
  exact ⟨rfl, rfl⟩
theorem add64_run {x y s c : Nat} (hs : s = (x + y) % 18446744073709551616) (hc : c = (x + y) / 18446744073709551616) (w : World) :
    (callFunc 77 #[.int .u64 (x : Int), .int .u64 (y : Int), .int .u64 0]).run Try.prog w = .ok (.value (.tuple #[.int .u64 (s : Int), .int .u64 (c : Int)])) w := by
  rw [run_callFunc_extern Try.func77 (by kernel_rfl) (by kernel_rfl) (by kernel_rfl) (e := add64Entry) (by kernel_rfl), run_add64 (x : Int) (y : Int) 0 (by omega) (by omega) (by omega) (by omega)]
  simp only [Result.andThen]
  rw [hs, hc]
  congr 5 <;> omega
theorem beq_lt {a b : Nat} : decide ((a : Int) < (b : Int)) = decide (a < b) := by rw [decide_eq_decide]; omega
theorem beq_eq {a b : Nat} : ((a : Int) == (b : Int)) = decide (a = b) := by
  by_cases h : a = b
  · subst h; simp
  · rw [decide_eq_false h, beq_eq_false_iff_ne]; omega
set_option maxRecDepth 100000 in
set_option maxHeartbeats 4000000 in
theorem above2_any (x n : Nat) (hx : x < 1099511627776) (w : World) : Calls Try.prog 76 #[.int .u64 (x : Int), .int .i64 2, .int .u64 (n : Int)] w fun e w' => e = .returned (.bool (abv x 2 n)) ∧ w' = w := by
  obtain ⟨h, hh⟩ : ∃ h, h = x * x / 18446744073709551616 := ⟨_, rfl⟩
  obtain ⟨l, hl⟩ : ∃ l, l = x * x % 18446744073709551616 := ⟨_, rfl⟩
  have HV := Lib.hid (show abv x 2 n = (decide (n < h) || (decide (h = n) && decide (0 < l))) from by rw [hh, hl]; rfl)
  have HC := Lib.hid (fun w => mul64_any (w := w) (show x < 18446744073709551616 by omega) (show x < 18446744073709551616 by omega) hh hl)
  obtain ⟨b1, hb1⟩ : ∃ b, b = decide (n < h) := ⟨_, rfl⟩
  obtain ⟨b2, hb2⟩ : ∃ b, b = decide (h = n) := ⟨_, rfl⟩
  obtain ⟨b3, hb3⟩ : ∃ b, b = decide (0 < l) := ⟨_, rfl⟩
  have q1 : decide ((n : Int) < (h : Int)) = b1 := by rw [hb1, beq_lt]
  have q1' : decide (n < h) = b1 := hb1.symm
  have q2 : ((h : Int) == (n : Int)) = b2 := by rw [hb2, beq_eq]
  have q3 : decide ((0 : Int) < (l : Int)) = b3 := by rw [hb3]; exact beq_lt (a := 0)
  have q3' : decide (0 < l) = b3 := hb3.symm
  rw [← hb1, ← hb2, ← hb3] at HV
  clear hh hl hb1 hb2 hb3 hx
  rcases b1 with _ | _ <;> rcases b2 with _ | _ <;> rcases b3 with _ | _
  all_goals
    go_enter Try.func76, Try.ntmps76
    go_wp2_with (go_at_call 74; (with_reducible refine (HC.out _).mono ?_); rintro e w' ⟨rfl, rfl⟩)
    go_ret
    exact ⟨by rw [HV.out]; rfl, rfl⟩
set_option maxRecDepth 100000 in
set_option maxHeartbeats 8000000 in
theorem above3_any (x n : Nat) (hx : x < 1099511627776) (hn : n ≤ 1000) (w : World) : Calls Try.prog 76 #[.int .u64 (x : Int), .int .i64 3, .int .u64 (n : Int)] w fun e w' => e = .returned (.bool (abv x 3 n)) ∧ w' = w := by
  obtain ⟨hi, hh⟩ : ∃ h, h = x * x / 18446744073709551616 := ⟨_, rfl⟩
  obtain ⟨lo, hl⟩ : ∃ l, l = x * x % 18446744073709551616 := ⟨_, rfl⟩
  have hxx : x * x < 1099511627776 * 1099511627776 := Nat.mul_lt_mul'' hx hx
  have hhi : hi < 65536 := by omega
  have hlo : lo < 18446744073709551616 := by rw [hl]; exact Nat.mod_lt _ (by omega)
  have HC1 := Lib.hid (fun w => mul64_any (w := w) (show x < 18446744073709551616 by omega) (show x < 18446744073709551616 by omega) hh hl)
  obtain ⟨t0, ht0⟩ : ∃ h, h = hi * x / 18446744073709551616 := ⟨_, rfl⟩
  obtain ⟨mid, hmid⟩ : ∃ l, l = hi * x % 18446744073709551616 := ⟨_, rfl⟩
  have HC2 := Lib.hid (fun w => mul64_any (w := w) (show hi < 18446744073709551616 by omega) (show x < 18446744073709551616 by omega) ht0 hmid)
  obtain ⟨up, hup⟩ : ∃ h, h = lo * x / 18446744073709551616 := ⟨_, rfl⟩
  obtain ⟨low, hlow⟩ : ∃ l, l = lo * x % 18446744073709551616 := ⟨_, rfl⟩
  have HC3 := Lib.hid (fun w => mul64_any (w := w) hlo (show x < 18446744073709551616 by omega) hup hlow)
  obtain ⟨sum, hsum⟩ : ∃ s, s = (mid + up) % 18446744073709551616 := ⟨_, rfl⟩
  obtain ⟨cy, hcy⟩ : ∃ s, s = (mid + up) / 18446744073709551616 := ⟨_, rfl⟩
  have hadd := fun w => add64_run (w := w) hsum hcy
  have hhx : hi * x < 65536 * 1099511627776 := Nat.mul_lt_mul'' hhi hx
  have ht0' : t0 ≤ 1000 := by omega
  have hlx : lo * x < 18446744073709551616 * 1099511627776 := Nat.mul_lt_mul'' hlo hx
  have hup' : up < 1099511627776 := by rw [hup]; exact Nat.div_lt_of_lt_mul hlx
  have hmid' : mid < 18446744073709551616 := by rw [hmid]; exact Nat.mod_lt _ (by omega)
  have hcy' : cy ≤ 1 := by omega
  obtain ⟨top, htop⟩ : ∃ t, t = t0 + cy := ⟨_, rfl⟩
  obtain ⟨wn, hwn⟩ : ∃ t, t = n * 4294967296 := ⟨_, rfl⟩
  have HV := Lib.hid (show abv x 3 n = (decide (0 < top) || (decide (wn < sum) || (decide (sum = wn) && decide (0 < low)))) from by
    rw [htop, hwn, hsum, hlow, hcy, hup, hmid, ht0, hh, hl]; rfl)
  have htopI : (t0 : Int) + (cy : Int) = (top : Int) := by omega
  have hwnI : (n : Int) * 4294967296 = (wn : Int) := by omega
  clear hh hl ht0 hmid hup hlow hsum hcy hhx hlx hup' hmid' hxx htop hwn hhi hlo hx
  obtain ⟨b1, hb1⟩ : ∃ b, b = decide (0 < top) := ⟨_, rfl⟩
  obtain ⟨b2, hb2⟩ : ∃ b, b = decide (wn < sum) := ⟨_, rfl⟩
  obtain ⟨b3, hb3⟩ : ∃ b, b = decide (sum = wn) := ⟨_, rfl⟩
  obtain ⟨b4, hb4⟩ : ∃ b, b = decide (0 < low) := ⟨_, rfl⟩
  have q1 : decide ((0 : Int) < (top : Int)) = b1 := by rw [hb1]; exact beq_lt (a := 0)
  have q1' : decide (0 < top) = b1 := hb1.symm
  have q2 : decide ((wn : Int) < (sum : Int)) = b2 := by rw [hb2, beq_lt]
  have q2' : decide (wn < sum) = b2 := hb2.symm
  have q3 : ((sum : Int) == (wn : Int)) = b3 := by rw [hb3, beq_eq]
  have q4 : decide ((0 : Int) < (low : Int)) = b4 := by rw [hb4]; exact beq_lt (a := 0)
  have q4' : decide (0 < low) = b4 := hb4.symm
  rw [← hb1, ← hb2, ← hb3, ← hb4] at HV
  clear hb1 hb2 hb3 hb4
  rcases b1 with _ | _ <;> rcases b2 with _ | _ <;> rcases b3 with _ | _ <;> rcases b4 with _ | _
  all_goals
    go_enter Try.func76, Try.ntmps76
    go_wp2_with fail
    refine (HC1.out _).mono ?_
    rintro e w' ⟨rfl, rfl⟩
    go_wp2_with fail
    refine (HC2.out _).mono ?_
    rintro e w' ⟨rfl, rfl⟩
    go_wp2_with fail
    refine (HC3.out _).mono ?_
    rintro e w' ⟨rfl, rfl⟩
    go_wp2_with fail
    go_ret
    exact ⟨by rw [HV.out]; rfl, rfl⟩
end Go.Proofs.Ytmpbimechgelfaa

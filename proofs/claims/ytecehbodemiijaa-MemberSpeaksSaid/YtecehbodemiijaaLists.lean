/- Lists of members: the contracts of Same, All and joined. -/
import Derived.Test.YtecehbodemiijaaMem
namespace Go.Proofs.Ytecehbodemiijaa
open Go Go.RowKit

/-- The cells of a list of members. -/
def mc (l : Nat → M) (j : Nat) : Value := if j % 2 = 0 then .int .i64 (l (j / 2)).inc else .int .i64 (l (j / 2)).st
theorem mc_0 (l : Nat → M) (i : Nat) : mc l (i * 2) = .int .i64 (l i).inc := by
  unfold mc; rw [if_pos (by omega), show i * 2 / 2 = i from by omega]
theorem mc_1 (l : Nat → M) (i : Nat) : mc l (i * 2 + 1) = .int .i64 (l i).st := by
  unfold mc; rw [if_neg (by omega), show (i * 2 + 1) / 2 = i from by omega]
theorem mc_one (l : Nat → M) (j : Nat) : (mc l j).oneCell' = true := by unfold mc; split <;> rfl
theorem mc_cells {w : World} {n b off : Nat} {l : Nat → M} (h : ∀ j, j < n * 2 → w.cell? ⟨b, off + j, none⟩ = some (mc l j)) (i : Nat) (hi : i < n) :
    w.cell? ⟨b, off + i * 2, none⟩ = some (.int .i64 (l i).inc) ∧ w.cell? ⟨b, off + i * 2 + 1, none⟩ = some (.int .i64 (l i).st) := by
  have h0 := h (i * 2) (by omega)
  have h1 := h (i * 2 + 1) (by omega)
  rw [mc_0] at h0
  rw [mc_1, ← Nat.add_assoc] at h1
  exact ⟨h0, h1⟩

theorem neq_mem (a b c d : Int) (w : World) : (binOp .neq 24 (.agg #[.int .i64 a, .int .i64 b]) (.agg #[.int .i64 c, .int .i64 d])).run Try.prog w = .ok (.bool (!(decide (a = c) && decide (b = d)))) w := by
  go_simp
  by_cases h1 : a = c <;> by_cases h2 : b = d <;> simp [h1, h2]

/-- Two lists of as many are the same. -/
def SameF (n m : Nat) (l k : Nat → M) (b : Bool) : Prop := (b = true ↔ n = m ∧ ∀ i, i < n → l i = k i)
def SameEnd (n m : Nat) (l k : Nat → M) (w : World) (e : Ending) (w' : World) : Prop := ∃ b, e = .returned (.bool b) ∧ SameF n m l k b ∧ Below w.heap.size w w'

set_option maxHeartbeats 400000 in
theorem same_any (A B : Option Addr) (n c m d : Nat) (l k : Nat → M) (w : World) (hA : Rd w w.heap.size 2 A n (mc l)) (hB : Rd w w.heap.size 2 B m (mc k)) (hn : n ≤ 9223372036854775807) (hm : m ≤ 9223372036854775807) :
    Calls Try.prog 21 #[.slice A n c, .slice B m d] w (SameEnd n m l k w) := by
  by_cases hnm : n = m
  · subst hnm
    rcases Nat.eq_zero_or_pos n with h0 | h0
    · subst h0
      go_enter Try.func21, Try.ntmps21
      go_wp2
      refine wp_loop_rounds 1 ?_; rw [rounds_succ]
      go_wp2
      go_ret
      exact ⟨_, rfl, by unfold SameF; simp, Below.refl _ _⟩
    · obtain ⟨b, off, rfl, _, hc⟩ := hA h0
      obtain ⟨b', off', rfl, _, hc'⟩ := hB h0
      go_enter Try.func21, Try.ntmps21
      go_wp2
      go_loopw [5] (fun i wr => ∃ j : Nat, j ≤ n ∧ i = .int .i64 j ∧ (∀ t, t < j → l t = k t) ∧ ∃ q, wr = w.drewN q) (fun i _ => n - (intOf i).toNat)
      case atStart => exact ⟨0, Nat.zero_le _, rfl, fun t ht => absurd ht (by omega), 0, rfl⟩
      case round =>
        obtain ⟨j, hj, rfl, hl, q, rfl⟩ := hrel
        have HL := Lib.hid hl
        clear hl
        by_cases hlt : j < n
        · obtain ⟨c1, c2⟩ := mc_cells hc j hlt
          obtain ⟨c3, c4⟩ := mc_cells hc' j hlt
          clear hc hc'
          by_cases he : l j = k j
          · have e1 : ((l j).inc = (k j).inc) := by rw [he]
            have e2 : ((l j).st = (k j).st) := by rw [he]
            have hneq1 : ∀ w, (binOp .neq 24 (.agg #[.int .i64 (l j).inc, .int .i64 (l j).st]) (.agg #[.int .i64 (k j).inc, .int .i64 (k j).st])).run Try.prog w = .ok (.bool false) w := fun w => by rw [neq_mem, e1, e2]; simp
            clear e1 e2
            have HE := Lib.hid he
            clear he
            go_wp2
            go_quiet (fail)
            go_wp2
            go_roundw
            case rel => exact ⟨j + 1, by omega, by go_num, fun t ht => by rcases Nat.lt_or_ge t j with h | h; exact HL.out t h; rw [show t = j from by omega]; exact HE.out, _, rfl⟩
            case measure => simp [intOf]; omega
          · have hneq1 : ∀ w, (binOp .neq 24 (.agg #[.int .i64 (l j).inc, .int .i64 (l j).st]) (.agg #[.int .i64 (k j).inc, .int .i64 (k j).st])).run Try.prog w = .ok (.bool true) w := fun w => by
              rw [neq_mem]
              have : ¬ ((l j).inc = (k j).inc ∧ (l j).st = (k j).st) := fun ⟨h1, h2⟩ => he (by cases hl : l j; cases hk : k j; rw [hl, hk] at h1 h2; simp_all)
              by_cases h1 : (l j).inc = (k j).inc <;> by_cases h2 : (l j).st = (k j).st <;> simp_all
            have HE := Lib.hid he
            clear he
            go_wp2
            go_quiet (fail)
            go_wp2
            go_ret
            exact ⟨_, rfl, by unfold SameF; simp; exact ⟨j, hlt, HE.out⟩, (by repeat (first | exact Below.refl _ _ | assumption | refine below_drewN ?_ _ | refine Below.drew ?_ | refine Below.alloc ?_ (by simp; try omega) _ | refine Below.setCell ?_ (by simp; try omega) _))⟩
        · go_wp2
          go_ret
          exact ⟨_, rfl, by unfold SameF; simp; exact fun i hi => HL.out i (by omega), (by repeat (first | exact Below.refl _ _ | assumption | refine below_drewN ?_ _ | refine Below.drew ?_ | refine Below.alloc ?_ (by simp; try omega) _ | refine Below.setCell ?_ (by simp; try omega) _))⟩
  · go_enter Try.func21, Try.ntmps21
    go_wp2
    go_ret
    exact ⟨_, rfl, by unfold SameF; simp [hnm], Below.refl _ _⟩
end Go.Proofs.Ytecehbodemiijaa

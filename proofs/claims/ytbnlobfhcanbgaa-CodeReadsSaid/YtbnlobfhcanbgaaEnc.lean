/- Numbers without a sign, and their digits of seven bits: plain laws. -/
import Derived.Test.YtbnlobfhcanbgaaBytes
namespace Go.Proofs.Ytbnlobfhcanbgaa
open Go Go.RowKit

/-- A number without a sign. -/
def zz (n : Int) : Nat := if n < 0 then 2 * (-(n + 1)).toNat + 1 else 2 * n.toNat
def Fit (n : Int) : Prop := -9223372036854775808 ≤ n ∧ n ≤ 9223372036854775807
theorem zz_lt {n : Int} (h : Fit n) : zz n < 18446744073709551616 := by
  unfold zz Fit at *; split <;> omega
theorem xor_ones (x : Nat) (h : x < 18446744073709551616) : x ^^^ 18446744073709551615 = 18446744073709551615 - x := by
  have h1 : (BitVec.ofNat 64 x ^^^ BitVec.allOnes 64).toNat = 18446744073709551615 - x := by
    rw [BitVec.xor_allOnes, BitVec.toNat_not, BitVec.toNat_ofNat, Nat.mod_eq_of_lt (by omega)]
  rw [BitVec.toNat_xor, BitVec.toNat_ofNat, Nat.mod_eq_of_lt (by omega), BitVec.toNat_allOnes] at h1
  exact h1
theorem wrap_u64 (n : Int) : IntKind.u64.wrap n = n % 18446744073709551616 := by simp [IntKind.wrap, IntKind.bits, IntKind.signed]
/-- What the code makes of a number, bit by bit. -/
theorem zz_bits {n : Int} (h : Fit n) : bits BinOp.xor IntKind.u64 (IntKind.u64.wrap (IntKind.u64.wrap n * 2)) (IntKind.u64.wrap (n / 9223372036854775808)) = ((zz n : Nat) : Int) := by
  unfold Fit at h
  simp only [wrap_u64]
  by_cases h0 : n < 0
  · have e1 : n / 9223372036854775808 % 18446744073709551616 = ((18446744073709551615 : Nat) : Int) := by omega
    have e2 : n % 18446744073709551616 * 2 % 18446744073709551616 = ((18446744073709551616 - 2 * (-n).toNat : Nat) : Int) := by omega
    rw [e1, e2, u64_xor_nat _ _ (by omega) (by omega), xor_ones _ (by omega)]
    unfold zz; rw [if_pos h0]; omega
  · have e1 : n / 9223372036854775808 % 18446744073709551616 = ((0 : Nat) : Int) := by omega
    have e2 : n % 18446744073709551616 * 2 % 18446744073709551616 = ((2 * n.toNat : Nat) : Int) := by omega
    rw [e1, e2, u64_xor_nat _ _ (by omega) (by omega), Nat.xor_zero]
    unfold zz; rw [if_neg h0]

/-- The digits of u from the s-th down: all but the last with bit 7. -/
def encS (u : Nat) : Nat → List Nat
  | 0 => [u % 128]
  | s + 1 => (u / 128 ^ (s + 1) % 128 + 128) :: encS u s
/-- The highest digit that counts. -/
def Top (u s : Nat) : Prop := u / 128 ^ (s + 1) = 0 ∧ (s = 0 ∨ u / 128 ^ s ≠ 0)
theorem encS_len (u s : Nat) : (encS u s).length = s + 1 := by induction s with
  | zero => rfl
  | succ s ih => simp [encS, ih]
theorem encS_byt (u s : Nat) : Byt (encS u s) := by
  induction s with
  | zero => intro x hx; simp [encS] at hx; omega
  | succ s ih =>
    intro x hx
    simp only [encS, List.mem_cons] at hx
    rcases hx with rfl | hx
    · have := Nat.mod_lt (u / 128 ^ (s + 1)) (show 0 < 128 by omega); omega
    · exact ih x hx
theorem top_ex (u : Nat) (h : u < 128 ^ 10) : ∃ s, s ≤ 9 ∧ Top u s := by
  have : ∀ k, k ≤ 9 → u < 128 ^ (k + 1) → ∃ s, s ≤ k ∧ Top u s := by
    intro k
    induction k with
    | zero => intro _ hu; exact ⟨0, Nat.le_refl _, Nat.div_eq_of_lt hu, .inl rfl⟩
    | succ k ih =>
      intro hk hu
      by_cases h0 : u < 128 ^ (k + 1)
      · obtain ⟨s, hs, ht⟩ := ih (by omega) h0
        exact ⟨s, by omega, ht⟩
      · refine ⟨k + 1, Nat.le_refl _, Nat.div_eq_of_lt hu, .inr fun h1 => ?_⟩
        have := (Nat.div_eq_zero_iff).1 h1
        rcases this with h2 | h2
        · have : 0 < 128 ^ (k + 1) := Nat.pow_pos (by omega)
          omega
        · exact h0 h2
  exact this 9 (by omega) h
theorem top_one {u s t : Nat} (hs : Top u s) (ht : Top u t) : s = t := by
  have key : ∀ {a b : Nat}, Top u a → Top u b → ¬ a < b := by
    intro a b ha hb hlt
    rcases hb.2 with h0 | h0
    · omega
    · apply h0
      have h1 := ha.1
      have : b = (a + 1) + (b - (a + 1)) := by omega
      rw [this, Nat.pow_add, ← Nat.div_div_eq_div_mul, h1, Nat.zero_div]
  have h1 := key hs ht
  have h2 := key ht hs
  omega
theorem two64_lt : (18446744073709551616 : Nat) < 128 ^ 10 := by decide
/-- The highest digit that counts, among the first ones. -/
def topD (u : Nat) : Nat → Nat
  | 0 => 0
  | k + 1 => if u / 128 ^ (k + 1) = 0 then topD u k else k + 1
theorem topD_top (u : Nat) : ∀ k, u / 128 ^ (k + 1) = 0 → Top u (topD u k)
  | 0, h => ⟨h, .inl rfl⟩
  | k + 1, h => by
    unfold topD
    by_cases h0 : u / 128 ^ (k + 1) = 0
    · rw [if_pos h0]; exact topD_top u k h0
    · rw [if_neg h0]; exact ⟨h, .inr h0⟩
/-- A number's bytes. -/
def enc (n : Int) : List Nat := encS (zz n) (topD (zz n) 9)
theorem enc_top' {n : Int} (h : Fit n) : Top (zz n) (topD (zz n) 9) := topD_top _ 9 (Nat.div_eq_of_lt (Nat.lt_trans (zz_lt h) two64_lt))
theorem enc_eq {n : Int} {s : Nat} (hf : Fit n) (h : Top (zz n) s) : enc n = encS (zz n) s := by
  unfold enc
  rw [top_one h (enc_top' hf)]
theorem enc_top {n : Int} (h : Fit n) : ∃ s, s ≤ 9 ∧ Top (zz n) s := top_ex _ (Nat.lt_trans (zz_lt h) two64_lt)
theorem enc_len {n : Int} (h : Fit n) : 1 ≤ (enc n).length ∧ (enc n).length ≤ 10 := by
  obtain ⟨s, hs, ht⟩ := enc_top h
  rw [enc_eq h ht, encS_len]; omega
theorem enc_byt (n : Int) : Byt (enc n) := encS_byt _ _
theorem pow7 (s : Nat) : 2 ^ (7 * s) = 128 ^ s := by rw [Nat.pow_mul]
set_option maxRecDepth 100000 in
/-- The code's byte: the number's digits from s on, and bit 7. -/
theorem digit_or (x : Nat) : x % 256 ||| 128 = x % 128 + 128 := by
  have h : x % 256 < 256 := Nat.mod_lt _ (by omega)
  have h2 : ∀ y : Fin 256, y.val ||| 128 = y.val % 128 + 128 := by decide
  have := h2 ⟨x % 256, h⟩
  simp only at this
  rw [this]; omega
theorem digit_and (x : Nat) : x % 256 &&& 127 = x % 128 := by
  rw [nat_mask7]; omega
end Go.Proofs.Ytbnlobfhcanbgaa

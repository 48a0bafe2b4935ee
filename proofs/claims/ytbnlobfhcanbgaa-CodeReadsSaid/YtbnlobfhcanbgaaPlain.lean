/- What is written is read: plain laws. -/
import Derived.Test.YtbnlobfhcanbgaaRead
namespace Go.Proofs.Ytbnlobfhcanbgaa
open Go Go.RowKit

theorem num_encS (r : List Nat) (u : Nat) (hu : u < 18446744073709551616) : ∀ (s : Nat) (f : Bool), (f = true → Top u s) → num (u / 128 ^ (s + 1)) f (encS u s ++ r) = some (u, r)
  | 0, f, hf => by
    have e : u / 128 ^ (0 + 1) = u / 128 := by rw [Nat.zero_add, Nat.pow_one]
    rw [e]
    show num (u / 128) f (u % 128 :: r) = some (u, r)
    rw [num_ok (by refine ⟨by omega, ?_⟩; rintro ⟨-, h⟩; omega), if_pos (by omega)]
    congr 2
    omega
  | s + 1, f, hf => by
    have e : u / 128 ^ (s + 1 + 1) = u / 128 ^ (s + 1) / 128 := by rw [Nat.pow_succ, Nat.div_div_eq_div_mul]
    have hle : u / 128 ^ (s + 1) / 128 < 144115188075855872 := by
      have : u / 128 ^ (s + 1) ≤ u := Nat.div_le_self _ _
      omega
    show num (u / 128 ^ (s + 1 + 1)) f ((u / 128 ^ (s + 1) % 128 + 128) :: (encS u s ++ r)) = some (u, r)
    rw [e, num_ok (by
      refine ⟨hle, ?_⟩
      rintro ⟨hft, h⟩
      have ht := hf hft
      have h1 := ht.1
      rw [e] at h1
      rcases ht.2 with h2 | h2
      · omega
      · omega), if_neg (by omega)]
    have e2 : u / 128 ^ (s + 1) / 128 * 128 + (u / 128 ^ (s + 1) % 128 + 128) % 128 = u / 128 ^ (s + 1) := by omega
    rw [e2]
    exact num_encS r u hu s false (fun h => by cases h)
/-- A number's bytes are read as it. -/
theorem num_enc {n : Int} (h : Fit n) (r : List Nat) : num 0 true (enc n ++ r) = some (zz n, r) := by
  have ht := enc_top' h
  have := num_encS r (zz n) (zz_lt h) (topD (zz n) 9) true (fun _ => ht)
  rw [ht.1] at this
  exact this
theorem encS_num : ∀ (l : List Nat) (U : Nat) (f : Bool) (v : Nat) (r : List Nat), Byt l → num U f l = some (v, r) → ∃ s, l = encS v s ++ r ∧ v / 128 ^ (s + 1) = U ∧ (f = true → s = 0 ∨ v / 128 ^ s ≠ 0)
  | [], U, f, v, r, _, h => by simp [num] at h
  | c :: l, U, f, v, r, hb, h => by
    have hc := hb c (by simp)
    by_cases hok : U < 144115188075855872 ∧ ¬ (f = true ∧ c = 128)
    · rw [num_ok hok] at h
      by_cases h128 : c < 128
      · rw [if_pos h128] at h
        simp only [Option.some.injEq, Prod.mk.injEq] at h
        obtain ⟨rfl, rfl⟩ := h
        refine ⟨0, ?_, ?_, fun _ => .inl rfl⟩
        · show c :: l = (U * 128 + c % 128) % 128 :: l
          congr 1; omega
        · rw [Nat.zero_add, Nat.pow_one]; omega
      · rw [if_neg h128] at h
        obtain ⟨s, hl, hv, -⟩ := encS_num l _ _ v r (fun x hx => hb x (by simp [hx])) h
        refine ⟨s + 1, ?_, ?_, fun hf => .inr ?_⟩
        · show c :: l = (v / 128 ^ (s + 1) % 128 + 128) :: (encS v s ++ r)
          rw [hv, ← hl]; congr 1; omega
        · rw [Nat.pow_succ, ← Nat.div_div_eq_div_mul, hv]; omega
        · rw [hv]
          have : c ≠ 128 := fun e => hok.2 ⟨hf, e⟩
          omega
    · rw [num_bad hok] at h; cases h
/-- Bytes that begin with a number begin with its bytes. -/
theorem enc_num {l : List Nat} {u : Nat} {r : List Nat} (hb : Byt l) (h : num 0 true l = some (u, r)) : l = enc (unzz u) ++ r := by
  obtain ⟨s, hl, hv, hs⟩ := encS_num l 0 true u r hb h
  have hf := unzz_fit (num_lt h)
  rw [enc_eq hf (s := s) (by rw [zz_unzz]; exact ⟨hv, hs rfl⟩), zz_unzz]
  exact hl
theorem num_more {l : List Nat} {U : Nat} {f : Bool} {v : Nat} {r : List Nat} (t : List Nat) (h : num U f l = some (v, r)) : num U f (l ++ t) = some (v, r ++ t) := by
  induction l generalizing U f with
  | nil => simp [num] at h
  | cons c l ih =>
    by_cases hok : U < 144115188075855872 ∧ ¬ (f = true ∧ c = 128)
    · rw [num_ok hok] at h
      rw [List.cons_append, num_ok hok]
      by_cases h128 : c < 128
      · rw [if_pos h128] at h ⊢
        simp only [Option.some.injEq, Prod.mk.injEq] at h
        obtain ⟨rfl, rfl⟩ := h
        rfl
      · rw [if_neg h128] at h ⊢
        exact ih h
    · rw [num_bad hok] at h; cases h
theorem enc_ne {n : Int} (h : Fit n) : enc n ≠ [] := by
  intro e
  have := (enc_len h).1
  rw [e] at this
  simp at this
/-- None's bytes begin another's. -/
theorem enc_apart {n m : Int} {r : List Nat} (hn : Fit n) (hm : Fit m) (h : enc m = enc n ++ r) : n = m := by
  have h1 := num_enc hm []
  rw [List.append_nil, h, num_enc hn r] at h1
  simp only [Option.some.injEq, Prod.mk.injEq] at h1
  rw [← unzz_zz (n := n), h1.1, unzz_zz]
theorem enc_inj {n m : Int} (hn : Fit n) (hm : Fit m) (h : enc m = enc n) : n = m := enc_apart (r := []) hn hm (by rw [h, List.append_nil])
theorem intR_enc {n least most : Int} (h : Fit n) (h1 : least ≤ n) (h2 : n ≤ most) (r : List Nat) : intR least most (some (enc n ++ r)) = (n, some r) := by
  rw [intR_yes (num_enc h r) (by rw [unzz_zz]; exact h1) (by rw [unzz_zz]; exact h2), unzz_zz]
end Go.Proofs.Ytbnlobfhcanbgaa

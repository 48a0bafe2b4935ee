/- The contracts of All and Same once more, in the form in which the laws use them. -/
import Derived.Test.YtecehbodemiijaaRaw
namespace Go.Proofs.Ytecehbodemiijaa
open Go Go.RowKit

theorem Rd.next {w w' : World} {sz n : Nat} {A : Option Addr} {f : Nat → Value} (h : Rd w w.heap.size sz A n f) (hb : Below w.heap.size w w') : Rd w' w'.heap.size sz A n f := (h.below hb).more hb.size

/-- The call answers a list of n members l, in memory of its own, and leaves what was there. -/
def AllRd (n : Nat) (l : Nat → M) (w : World) (e : Ending) (w' : World) : Prop :=
  ∃ A c, e = .returned (.slice A n c) ∧ Rd w' w'.heap.size 2 A n (mc l) ∧ (A = none → c = 0) ∧ Below w.heap.size w w'
theorem AllEnd.rd {n m : Nat} {l k : Nat → M} {w : World} {e : Ending} {w' : World} (h : AllEnd n m l k w e w') : AllRd (max n m) (al n m l k) w e w' := by
  obtain ⟨v, rfl, ho, hb⟩ := h
  obtain ⟨A, c, rfl, _, _, hz⟩ := ho.shape
  exact ⟨A, c, rfl, ho.rd, fun h => (hz h).2, hb⟩
theorem all_rd {A B : Option Addr} {n c m d N : Nat} {l k : Nat → M} {w : World} (hN : N = max n m) (hA : Rd w w.heap.size 2 A n (mc l)) (hB : Rd w w.heap.size 2 B m (mc k)) (hcA : A = none → c = 0) (hcB : B = none → d = 0) (hn : n ≤ 1000000) (hm : m ≤ 1000000) :
    Calls Try.prog 22 #[.slice A n c, .slice B m d] w (AllRd N (al n m l k) w) := (all_any A B n c m d l k w hA hB hcA hcB hn hm).mono fun _ _ h => by rw [hN]; exact h.rd
theorem rall_rd {A B : Option Addr} {n c m d : Nat} {l k : Nat → M} {w : World} (hA : Rd w w.heap.size 2 A n (mc l)) (hB : Rd w w.heap.size 2 B m (mc k)) (hn : n ≤ 1000000) (hm : m ≤ 1000000) :
    Calls Try.prog 23 #[.slice A n c, .slice B m d] w (AllRd (max n m) (al n m l k) w) := (rall_any A B n c m d l k w hA hB hn hm).mono fun _ _ h => h.rd
theorem same_yes {A B : Option Addr} {n c m d : Nat} {l k : Nat → M} {w : World} (hA : Rd w w.heap.size 2 A n (mc l)) (hB : Rd w w.heap.size 2 B m (mc k)) (hn : n ≤ 1000000) (hnm : n = m) (he : ∀ i, i < n → l i = k i) :
    Calls Try.prog 21 #[.slice A n c, .slice B m d] w fun e w' => e = .returned (.bool true) ∧ Below w.heap.size w w' := by
  refine (same_any A B n c m d l k w hA hB (by omega) (by omega)).mono ?_
  rintro e w' ⟨b, rfl, hs, hb⟩
  rw [hs.2 ⟨hnm, he⟩]
  exact ⟨rfl, hb⟩

theorem lt_max' (i n m : Nat) : (i < max n m) = (i < n ∨ i < m) := propext (by omega)
theorem al_comm (n m : Nat) (l k : Nat → M) (i : Nat) (hi : i < max n m) : al n m l k i = al m n k l i := by
  unfold al
  rw [lt_max'] at hi
  by_cases h1 : i < n <;> by_cases h2 : i < m <;> simp_all [jn_comm]
theorem jn_assoc (a b c : M) : jn (jn a b) c = jn a (jn b c) := by
  unfold jn
  cases a; cases b; cases c
  simp only
  (repeat' split) <;> simp_all <;> omega
theorem jn_self (a : M) : jn a a = a := by unfold jn; split <;> rfl
theorem jn_absorb (a b : M) : jn (jn a b) b = jn a b := by rw [jn_assoc, jn_self]
theorem al_assoc (n m q : Nat) (l k j : Nat → M) (i : Nat) (_hi : i < max (max n m) q) : al (max n m) q (al n m l k) j i = al n (max m q) l (al m q k j) i := by
  unfold al
  by_cases h1 : i < n <;> by_cases h2 : i < m <;> by_cases h3 : i < q <;> simp [lt_max', h1, h2, h3, jn_assoc]
theorem al_absorb (n m : Nat) (l k : Nat → M) (i : Nat) (hi : i < max (max n m) m) : al (max n m) m (al n m l k) k i = al n m l k i := by
  unfold al
  rw [lt_max', lt_max'] at hi
  by_cases h1 : i < n <;> by_cases h2 : i < m <;> simp_all [lt_max', jn_absorb]
  rw [if_neg (by omega), jn_self]
theorem al_self (n : Nat) (l : Nat → M) (i : Nat) (hi : i < max n n) : al n n l l i = l i := by
  unfold al
  have h1 : i < n := by omega
  simp [h1, jn_self]
end Go.Proofs.Ytecehbodemiijaa

/- transfer.round: the first, going round, of which something is so. -/
import Derived.Test.YtmpbimechgelfaaTb
import Derived.IntWalk
namespace Go.Proofs.Ytmpbimechgelfaa
open Go Go.RowKit

/-- The places in the order of going round from a. -/
def plc (n a k : Nat) : Nat := (a % n + k) % n
/-- The first place of which p is so. -/
def rndP (n a : Nat) (p : Nat → Bool) : Option Nat := ((List.range n).map (plc n a)).find? p
/-- As a number: -1 is none. -/
def rI (o : Option Nat) : Int := match o with | some i => (i : Int) | none => -1
theorem plc_lt {n a k : Nat} (h : 0 < n) : plc n a k < n := Nat.mod_lt _ h
theorem rndP_some {n a j : Nat} {p : Nat → Bool} (hj : j < n) (hp : p (plc n a j) = true) (h : ∀ i, i < j → p (plc n a i) = false) : rndP n a p = some (plc n a j) := by
  unfold rndP
  rw [List.find?_map, Option.map_eq_some_iff]
  refine ⟨j, ?_, rfl⟩
  rw [List.find?_eq_some_iff_getElem]
  refine ⟨hp, j, by simpa using hj, by simp, fun i hi => ?_⟩
  simp [h i hi]
theorem rndP_none {n a : Nat} {p : Nat → Bool} (h : ∀ i, i < n → p (plc n a i) = false) : rndP n a p = none := by
  unfold rndP
  rw [List.find?_eq_none]
  intro x hx
  simp only [List.mem_map, List.mem_range] at hx
  obtain ⟨i, hi, rfl⟩ := hx
  simp [h i hi]
theorem rI_le {n a : Nat} {p : Nat → Bool} : rI (rndP n a p) < n ∨ n = 0 := by
  by_cases hn : n = 0
  · exact .inr hn
  · refine .inl ?_
    cases h : rndP n a p with
    | none => show (-1 : Int) < _; omega
    | some i =>
      have := List.mem_of_find?_eq_some h
      simp only [List.mem_map, List.mem_range] at this
      obtain ⟨j, _, rfl⟩ := this
      show ((plc n a j : Nat) : Int) < _
      have := plc_lt (a := a) (k := j) (Nat.pos_of_ne_zero hn)
      omega
set_option maxHeartbeats 4000000 in
theorem round_any (n a k : Nat) (c1 c2 : Value) (p : Nat → Bool) (w : World) (hin : ∀ args w, (callFunc k args).run Try.prog w = .ok (.enter k args) w)
    (hp : ∀ i, i < n → ∀ W, Below w.heap.size w W → Calls Try.prog k #[.int .i64 (i : Int), c1, c2] W fun e w' => e = .returned (.bool (p i)) ∧ Below W.heap.size W w') (hn : n ≤ 1000) (ha : a < 18446744073709551616) :
    Calls Try.prog 38 #[.int .i64 (n : Int), .int .u64 (a : Int), .func (.func k) #[] #[c1, c2]] w fun e w' => e = .returned (.int .i64 (rI (rndP n a p))) ∧ Below w.heap.size w w' := by
  have HP := Lib.hid hp
  clear hp
  obtain ⟨r, hr⟩ : ∃ r, r = rI (rndP n a p) := ⟨_, rfl⟩
  rw [← hr]
  have HR := Lib.hid hr
  clear hr
  obtain ⟨am, ham⟩ : ∃ x, x = a % n := ⟨_, rfl⟩
  have HAM := Lib.hid ham
  obtain ⟨v, hv⟩ : ∃ v : Int, v = (a : Int) := ⟨_, rfl⟩
  rw [← hv]
  have hv0 : 0 ≤ v := by omega
  have HV := Lib.hid hv
  have HVM := Lib.hid ha
  clear ham hv ha
  go_enter Try.func38, Try.ntmps38
  go_wp2_with fail
  go_loopw [10] (fun i wr => ∃ j : Nat, i = .int .i64 (j : Int) ∧ j ≤ n ∧ (∀ i, i < j → p (plc n a i) = false) ∧ Below w.heap.size w wr) (fun i _ => (n - intOf i).toNat)
  case atStart => exact ⟨0, rfl, by omega, fun i hi => absurd hi (by omega), Below.refl _ _⟩
  case round =>
    obtain ⟨j, rfl, hj, hk, hb⟩ := hrel
    have HK := Lib.hid hk
    have HB := Lib.hid hb
    clear hk hb
    by_cases hlt : j < n
    · have hn1 : (0 : Int) < (n : Int) := by omega
      have m0 : 0 ≤ v % (n : Int) := Int.emod_nonneg _ (by omega)
      have m1 : v % (n : Int) < (n : Int) := Int.emod_lt_of_pos _ (by omega)
      have m2 : 0 ≤ (v % (n : Int) + (j : Int)) % (n : Int) := Int.emod_nonneg _ (by omega)
      have m3 : (v % (n : Int) + (j : Int)) % (n : Int) < (n : Int) := Int.emod_lt_of_pos _ (by omega)
      have HX1 := Lib.hid (show (v + (j : Int)) % (n : Int) = ((plc n a j : Nat) : Int) from by rw [HV.out]; unfold plc; rw [Nat.mod_add_mod]; push_cast; rfl)
      have HX2 := Lib.hid (show (v % (n : Int) + (j : Int)) % (n : Int) = ((plc n a j : Nat) : Int) from by rw [HV.out]; unfold plc; push_cast; rfl)
      go_wp2_with fail
      rw [HX1.out]
      refine (HP.out (plc n a j) (plc_lt (by omega)) wr HB.out).mono ?_
      rintro e w' ⟨rfl, hb⟩
      have HB' := Lib.hid (below_chain HB.out hb)
      clear hb
      cases hp : p (plc n a j) with
      | true =>
        have HE := Lib.hid (show r = (plc n a j : Nat) from by rw [HR.out, rndP_some hlt hp HK.out]; rfl)
        clear hp
        go_wp2_with fail
        go_ret
        exact ⟨by rw [HE.out, ← HX1.out]; rfl, HB'.out⟩
      | false =>
        have HF := Lib.hid hp
        clear hp
        go_wp2_with fail
        go_roundw
        case rel => exact ⟨j + 1, by go_num, by omega, fun i hi => by
          by_cases hij : i < j
          · exact HK.out i hij
          · rw [show i = j from by omega]; exact HF.out, HB'.out⟩
        case measure => simp [intOf]; omega
    · have HE := Lib.hid (show r = -1 from by rw [HR.out, rndP_none (fun i hi => HK.out i (by omega))]; rfl)
      go_wp2_with fail
      go_ret
      exact ⟨by rw [HE.out]; rfl, HB.out⟩
end Go.Proofs.Ytmpbimechgelfaa

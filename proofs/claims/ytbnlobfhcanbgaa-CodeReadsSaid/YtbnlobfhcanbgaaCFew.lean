/- few's contract. -/
import Derived.Test.YtbnlobfhcanbgaaCOpen
namespace Go.Proofs.Ytbnlobfhcanbgaa
open Go Go.RowKit

/-- At most twenty parts, of at most three hundred bytes. -/
def fewB (l : List Pt) : Bool := decide (l.length ≤ 20 ∧ ∀ x ∈ l, x.b.length ≤ 300)
theorem fewB_yes {l : List Pt} (h : fewB l = true) : l.length ≤ 20 ∧ ∀ x ∈ l, x.b.length ≤ 300 := by unfold fewB at h; simpa using h
theorem few_any (A : Option Addr) (c : Nat) (l : List Pt) (w : World) (h : InPs w A c l) :
    Calls Try.prog 12 #[.slice A l.length c] w fun e w' => e = .returned (.bool (fewB l)) ∧ w' = w := by
  have HI := Lib.hid h
  have hcm : l.length ≤ maxLen := by have := h.cap; omega
  unfold maxLen at hcm
  clear h
  go_enter Try.func12, Try.ntmps12
  by_cases h20 : l.length ≤ 20
  · go_wp2_with fail
    go_loopw [3] (fun i wr => ∃ k : Nat, i = .int .i64 (k : Int) ∧ k ≤ l.length ∧ (∀ x ∈ l.take k, x.b.length ≤ 300) ∧ wr = w) (fun i _ => (l.length - intOf i).toNat)
    case atStart => exact ⟨0, rfl, Nat.zero_le _, by simp, rfl⟩
    case round =>
      obtain ⟨k, rfl, hk, hall, rfl⟩ := hrel
      have HL := Lib.hid hall
      clear hall
      by_cases hkl : k < l.length
      · obtain ⟨x, hx⟩ : ∃ x, l[k]? = some x := ⟨_, List.getElem?_eq_getElem hkl⟩
        obtain ⟨b, off, rfl, hb, hat⟩ := HI.out.at_ hx
        have hf4 := hat.f4
        have HX := Lib.hid hx
        clear hx hat
        by_cases h3 : x.b.length ≤ 300
        · go_wp2_with fail
          go_roundw
          case rel =>
            refine ⟨k + 1, by go_num, by omega, ?_, by trivial⟩
            intro y hy
            have hx2 : l[k] = x := (List.getElem?_eq_some_iff.1 HX.out).2
            rw [List.take_succ_eq_append_getElem hkl, hx2] at hy
            rcases List.mem_append.1 hy with hy | hy
            · exact HL.out y hy
            · simp only [List.mem_singleton] at hy; subst hy; exact h3
          case measure => simp [intOf]; omega
        · go_wp2_with fail
          go_ret
          refine ⟨?_, rfl⟩
          have : fewB l = false := by
            unfold fewB
            simp only [decide_eq_false_iff_not, not_and]
            intro _ hh
            exact h3 (hh x (List.mem_of_getElem? HX.out))
          rw [this]; rfl
      · obtain rfl : k = l.length := by omega
        go_wp2_with fail
        go_ret
        refine ⟨?_, rfl⟩
        have : fewB l = true := by
          unfold fewB
          have := HL.out
          rw [List.take_length] at this
          simpa using ⟨h20, this⟩
        rw [this]; rfl
  · go_wp2_with fail
    go_ret
    refine ⟨?_, rfl⟩
    have : fewB l = false := by
      unfold fewB
      simp only [decide_eq_false_iff_not, not_and]
      intro hh
      exact absurd hh h20
    rw [this]; rfl
end Go.Proofs.Ytbnlobfhcanbgaa

/- The document's GetText. -/
import Derived.Test.YtbnlobfhcanbgaaGet
namespace Go.Proofs.Ytbnlobfhcanbgaa
open Go Go.RowKit

theorem num_suffix {U : Nat} {f : Bool} {l : List Nat} {v : Nat} {r : List Nat} (h : num U f l = some (v, r)) : ∃ pre, l = pre ++ r ∧ 0 < pre.length := by
  induction l generalizing U f with
  | nil => simp [num] at h
  | cons c l ih =>
    by_cases hok : U < 144115188075855872 ∧ ¬ (f = true ∧ c = 128)
    · rw [num_ok hok] at h
      by_cases h128 : c < 128
      · rw [if_pos h128] at h
        simp only [Option.some.injEq, Prod.mk.injEq] at h
        obtain ⟨-, rfl⟩ := h
        exact ⟨[c], rfl, by simp⟩
      · rw [if_neg h128] at h
        obtain ⟨pre, rfl, -⟩ := ih h
        exact ⟨c :: pre, rfl, by simp⟩
    · rw [num_bad hok] at h; cases h
/-- The bytes that bytes begin with, and how many they have in all. -/
def gtR (most : Int) (l : List Nat) : List Nat × Nat :=
  match (textR most (some l)).2 with
  | some r => ((textR most (some l)).1, l.length - r.length)
  | none => ([], 0)
theorem gtR_none {most : Int} {l : List Nat} (h : textR most (some l) = ([], none)) : gtR most l = ([], 0) := by unfold gtR; rw [h]
theorem gtR_some {most : Int} {l t r : List Nat} (h : textR most (some l) = (t, some r)) : gtR most l = (t, l.length - r.length) := by unfold gtR; rw [h]
/-- The end of bytes. -/
theorem Bs.drop {w : World} {B : Nat} {A A' : Option Addr} {l : List Nat} {k c : Nat} (h : Bs w B A l) (hk : k ≤ l.length) (hc : l.length ≤ c) (hA : (c = k ∧ A' = A) ∨ A' = A.map (·.add k)) : Bs w B A' (l.drop k) := by
  intro hn
  rw [List.length_drop] at hn
  obtain ⟨b, off, rfl, hb, hcell⟩ := h (by omega)
  rcases hA with ⟨h1, -⟩ | rfl
  · omega
  · refine ⟨b, off + k, by simp [add_addr], hb, fun j hj => ?_⟩
    rw [List.length_drop] at hj
    rw [Nat.add_assoc, hcell (k + j) (by omega), bf_drop]
set_option maxRecDepth 100000 in
set_option maxHeartbeats 2000000 in
theorem gettext_any (B : Nat) (A : Option Addr) (c : Nat) (l : List Nat) (most : Int) (w : World) (hB : B ≤ w.heap.size) (hb : Bs w B A l) (hc : l.length ≤ c ∧ c ≤ maxLen) (hz : A = none → l.length = 0 ∧ c = 0) (hby : Byt l) (hl : l.length ≤ 1000000) :
    Calls Try.prog 32 #[.slice A l.length c, .int .i64 most] w fun e w' => ∃ A2 c2, e = .returned (.tuple #[.slice A2 (gtR most l).1.length c2, .int .i64 ((gtR most l).2 : Nat)]) ∧ Bs w' B A2 (gtR most l).1 ∧ Below w.heap.size w w' := by
  have HC := Lib.hid hc
  have HBS := Lib.hid hb
  have HG := Lib.hid (get_any A c l w (hb.more hB) hc hby hl)
  have HZ := Lib.hid hz
  obtain ⟨hc1, hc2⟩ := hc
  unfold maxLen at hc2
  clear hb hz
  cases hn : num 0 true l with
  | none =>
    have HR := Lib.hid (gtR_none (textR_no (most := most) (fun u r e => by rw [hn] at e; cases e)))
    have HGR := Lib.hid (getR_none hn)
    clear hn
    go_enter Try.func32, Try.ntmps32
    go_wp2_with fail
    refine (Hid.out HG).mono ?_
    rintro e w2 ⟨rfl, l2⟩
    rw [HGR.out]
    have HL2 := Lib.hid l2
    clear l2 HG
    go_wp2_with fail
    go_ret2
    rw [HR.out]
    exact ⟨none, 0, rfl, Bs.nil, HL2.out⟩
  | some ur =>
    obtain ⟨u, r⟩ := ur
    obtain ⟨pre, hpre, hp0⟩ := num_suffix hn
    have hll : l.length = pre.length + r.length := by rw [hpre, List.length_append]
    have hgr := getR_some hn
    rw [show l.length - r.length = pre.length from by omega] at hgr
    have HN := Lib.hid hn
    have HPRE := Lib.hid hpre
    have HGR := Lib.hid hgr
    obtain ⟨n, hnn⟩ : ∃ n, n = unzz u := ⟨_, rfl⟩
    have HNN := Lib.hid hnn
    rw [← hnn] at HGR
    clear hn hpre hgr
    have HLL := Lib.hid hll
    have hsub : (l.length : Int) - (pre.length : Int) = (r.length : Int) := by omega
    have hk0 : ((pre.length : Int) == 0) = false := by rw [beq_eq_false_iff_ne]; omega
    clear hll
    by_cases hall : 0 ≤ n ∧ n ≤ most ∧ n ≤ (r.length : Int)
    · have HR := Lib.hid (gtR_some (textR_yes (most := most) HN.out (by rw [← hnn]; exact hall.1) (by rw [← hnn]; exact hall.2.1) (by rw [← hnn]; exact hall.2.2)))
      obtain ⟨h1, h2, h3⟩ := hall
      obtain ⟨m, rfl⟩ := Int.eq_ofNat_of_zero_le h1
      clear hnn
      go_enter Try.func32, Try.ntmps32
      go_wp2_with fail
      refine (Hid.out HG).mono ?_
      rintro e w2 ⟨rfl, l2⟩
      rw [HGR.out]
      have HL2 := Lib.hid l2
      clear l2 HG
      have hdr : l.drop pre.length = r := by rw [HPRE.out, List.drop_left]
      have hm3 : m ≤ r.length := by omega
      have hRm : gtR most l = (r.take m, pre.length + m) := by
        have h1 := HR.out
        rw [show (unzz u).toNat = m from by rw [← HNN.out]; rfl, List.length_drop] at h1
        rw [h1]
        congr 1
        have := HLL.out
        omega
      have HFIN := Lib.hid (show ∀ A2 c2, ((c = pre.length ∧ A2 = A) ∨ A2 = A.map (·.add pre.length)) → ∃ A3 c3, Ending.returned (.tuple #[.slice A2 m c2, .int .i64 ((pre.length : Int) + (m : Int))]) = Ending.returned (.tuple #[.slice A3 (gtR most l).1.length c3, .int .i64 ((gtR most l).2 : Nat)]) ∧ Bs w2 B A3 (gtR most l).1 ∧ Below w.heap.size w w2 from fun A2 c2 hA => by
        have hb := (Bs.drop (Bs.below HBS.out (HL2.out.mono hB)) (k := pre.length) (by have := HLL.out; omega) HC.out.1 hA).take m
        rw [hdr] at hb
        rw [hRm]
        refine ⟨A2, c2, ?_, hb, HL2.out⟩
        rw [List.length_take, Nat.min_eq_left hm3]
        rfl)
      clear hdr hRm
      go_wp2_with fail
      all_goals go_ret2
      all_goals first
        | exact HFIN.out _ _ (.inr rfl)
        | exact HFIN.out _ _ (.inl ⟨rfl, rfl⟩)
        | (obtain ⟨A3, c3, h1, h2, h3⟩ := HFIN.out A 0 (.inl ⟨rfl, rfl⟩)
           exact ⟨A3, ⟨c3, h1⟩, h2, h3⟩)
        | (obtain ⟨A3, c3, h1, h2, h3⟩ := HFIN.out (A.map (·.add pre.length)) (c - pre.length) (.inr rfl)
           exact ⟨A3, ⟨c3, h1⟩, h2, h3⟩)
        | (obtain ⟨A3, c3, h1, h2, h3⟩ := HFIN.out A 0 (.inl ⟨by omega, rfl⟩)
           exact ⟨A3, ⟨c3, h1⟩, h2, h3⟩)
    · have HR := Lib.hid (gtR_none (textR_no (most := most) (l := l) (fun u' r' e hh => by rw [HN.out] at e; obtain ⟨rfl, rfl⟩ := Prod.mk.inj (Option.some.inj e); rw [← hnn] at hh; exact hall hh)))
      clear hnn
      by_cases hn0 : n < 0
      · clear hall
        go_enter Try.func32, Try.ntmps32
        go_wp2_with fail
        refine (Hid.out HG).mono ?_
        rintro e w2 ⟨rfl, l2⟩
        rw [HGR.out]
        have HL2 := Lib.hid l2
        clear l2 HG
        go_wp2_with fail
        go_ret2
        rw [HR.out]
        exact ⟨none, 0, rfl, Bs.nil, HL2.out⟩
      · by_cases hnm : most < n
        · clear hall
          go_enter Try.func32, Try.ntmps32
          go_wp2_with fail
          refine (Hid.out HG).mono ?_
          rintro e w2 ⟨rfl, l2⟩
          rw [HGR.out]
          have HL2 := Lib.hid l2
          clear l2 HG
          go_wp2_with fail
          go_ret2
          rw [HR.out]
          exact ⟨none, 0, rfl, Bs.nil, HL2.out⟩
        · have hrn : (r.length : Int) < n := by omega
          clear hall
          go_enter Try.func32, Try.ntmps32
          go_wp2_with fail
          refine (Hid.out HG).mono ?_
          rintro e w2 ⟨rfl, l2⟩
          rw [HGR.out]
          have HL2 := Lib.hid l2
          clear l2 HG
          go_wp2_with fail
          go_ret2
          rw [HR.out]
          exact ⟨none, 0, rfl, Bs.nil, HL2.out⟩
end Go.Proofs.Ytbnlobfhcanbgaa

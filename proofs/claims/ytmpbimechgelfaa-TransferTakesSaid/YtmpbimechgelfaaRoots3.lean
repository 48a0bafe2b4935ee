/- The document's constants by their roots: root, roots. -/
import Derived.Test.YtmpbimechgelfaaRoots2
import Derived.Deep.Cut
namespace Go.Proofs.Ytmpbimechgelfaa
open Go Go.RowKit

theorem above_any (x n p : Nat) (hp : p = 2 ∨ p = 3) (hx : x < 1099511627776) (hn : n ≤ 1000) (w : World) : Calls Try.prog 76 #[.int .u64 (x : Int), .int .i64 (p : Int), .int .u64 (n : Int)] w fun e w' => e = .returned (.bool (abv x p n)) ∧ w' = w := by
  rcases hp with rfl | rfl
  · exact above2_any x n hx w
  · exact above3_any x n hx hn w
theorem rtB_zero (n p x : Nat) : rtB n p 0 x = x := rfl
theorem rtB_succ (n p k x : Nat) : rtB n p (k + 1) x = rtB n p k (if abv (x + 2 ^ k) p n then x else x + 2 ^ k) := rfl
set_option maxRecDepth 100000 in
set_option maxHeartbeats 8000000 in
theorem root_of (n p R : Nat) (hn : n ≤ 1000) (hp : p = 2 ∨ p = 3) (hR : rtB n p 40 0 = R) (w : World) : Calls Try.prog 70 #[.int .u64 (n : Int), .int .i64 (p : Int)] w fun e w' => e = .returned (.int .u32 ((R % 4294967296 : Nat) : Int)) ∧ w' = w := by
  go_enter Try.func70, Try.ntmps70
  go_wp2_with fail
  go_loop [5, 6] (fun x b => ∃ (y k : Nat), x = .int .u64 (y : Int) ∧ b = .int .i64 ((k : Int) - 1) ∧ k ≤ 40 ∧ y + 2 ^ k ≤ 1099511627776 ∧ rtB n p k y = R) (fun _ b => (intOf b + 1).toNat)
  case atStart => exact ⟨0, 40, rfl, rfl, by omega, by omega, hR⟩
  case round =>
    obtain ⟨y, k, rfl, rfl, hk, hy, hr⟩ := hrel
    clear hR
    rcases k with _ | k
    · rw [rtB_zero] at hr
      subst hr
      have hy2 : y < 1099511627776 := by have := Nat.two_pow_pos 0; omega
      clear hy
      rw [show ((0 : Nat) : Int) - 1 = -1 from rfl]
      go_wp2_with fail
      go_ret
      exact ⟨by first | rfl | go_num, rfl⟩
    · rw [show ((k + 1 : Nat) : Int) - 1 = (k : Int) from by push_cast; omega]
      rw [rtB_succ] at hr
      obtain ⟨q, hq⟩ : ∃ q, q = 2 ^ k := ⟨_, rfl⟩
      obtain ⟨z, hz⟩ : ∃ z, z = y + q := ⟨_, rfl⟩
      obtain ⟨bv, hbv⟩ : ∃ b, b = abv z p n := ⟨_, rfl⟩
      have hz1 : z + q ≤ 1099511627776 := by have : 2 ^ (k + 1) = 2 ^ k + 2 ^ k := by rw [Nat.pow_succ]; omega
                                             omega
      have hq0 : 0 < q := by rw [hq]; exact Nat.two_pow_pos k
      have hyq : y + q ≤ 1099511627776 := by omega
      have HZ := Lib.hid hz
      have HW := Lib.hid (show IntKind.u64.wrap ((y : Int) + IntKind.u64.wrap (2 ^ k)) = (z : Int) from by
        have e : (2 ^ k : Int) = (q : Int) := by rw [hq]; push_cast; rfl
        have e1 : IntKind.u64.wrap (q : Int) = (q : Int) := by simp [IntKind.wrap, IntKind.bits, IntKind.signed]; omega
        rw [e, e1, show (y : Int) + (q : Int) = (z : Int) from by omega]
        simp [IntKind.wrap, IntKind.bits, IntKind.signed]; omega)
      have HR := Lib.hid (show rtB n p k (if bv = true then y else z) = R from by rw [hbv, hz, hq]; exact hr)
      have HC := Lib.hid (fun w => above_any z n p hp (by omega) hn w)
      rw [← hbv] at HC
      have HQ := Lib.hid hq
      have hk39 : k ≤ 39 := by omega
      clear hy hr hq hz hbv
      have hk0 : (0 : Int) ≤ (k : Int) := by omega
      go_upto_region 6 with (fail)
      rw [HW.out]
      cases bv with
      | true =>
        go_wp2_with (go_at_call 76; (with_reducible refine (HC.out _).mono ?_); rintro e w' ⟨rfl, hw⟩; have hw2 := hw.symm; clear hw; subst hw2)
        go_round
        case rel => exact ⟨y, k, rfl, by first | rfl | go_num, by omega, by rw [← HQ.out]; omega, by simpa using HR.out⟩
        case measure => simp [intOf]
      | false =>
        go_wp2_with (go_at_call 76; (with_reducible refine (HC.out _).mono ?_); rintro e w' ⟨rfl, hw⟩; have hw2 := hw.symm; clear hw; subst hw2)
        go_round
        case rel => exact ⟨z, k, rfl, by first | rfl | go_num, by omega, by rw [← HQ.out]; omega, by simpa using HR.out⟩
        case measure => simp [intOf]
theorem root_any (n p : Nat) (hn : n ≤ 1000) (hp : p = 2 ∨ p = 3) (w : World) : Calls Try.prog 70 #[.int .u64 (n : Int), .int .i64 (p : Int)] w fun e w' => e = .returned (.int .u32 (rootB n p : Int)) ∧ w' = w := root_of n p _ hn hp rfl w
theorem pl_take_len {m : Nat} (hm : m ≤ 64) : ((pl 312).take m).length = m := by rw [List.length_take, pl_312]; omega
theorem pl_at {m j : Nat} (hm : m ≤ 64) (hj : j < m) : ∃ x, ((pl 312).take m)[j]? = some x ∧ x ≤ 1000 := by
  refine ⟨_, List.getElem?_eq_getElem (by rw [pl_take_len hm]; exact hj), ?_⟩
  have := pl_lt (List.mem_of_mem_take (List.getElem_mem (l := (pl 312).take m) (n := j) (by rw [pl_take_len hm]; exact hj)))
  omega
set_option maxRecDepth 100000 in
set_option maxHeartbeats 8000000 in
theorem roots_of (m p : Nat) (P : List Nat) (hP : P = (pl 312).take m) (hm : m ≤ 64) (hp : p = 2 ∨ p = 3) (w : World) : Calls Try.prog 58 #[.int .i64 (m : Int), .int .i64 (p : Int)] w fun e w' => ∃ v, e = .returned v ∧ No .u32 75 w' w.heap.size v (P.map fun n => rootB n p) ∧ Below w.heap.size w w' := by
  go_enter Try.func58, Try.ntmps58
  go_wp2_with fail
  refine (primes_any m hm w).mono ?_
  rintro e w1 ⟨v1, rfl, hno1, hb1⟩
  obtain ⟨A1, c1, rfl, hrd1, -, -⟩ := hno1.sl
  rw [pl_take_len hm] at hrd1
  rw [pl_take_len hm]
  have HR1 := Lib.hid hrd1
  have HB1 := Lib.hid hb1
  have hsz1 := hb1.size
  have HPA := Lib.hid (fun j (hj : j < m) => pl_at hm hj)
  have HPL := Lib.hid (pl_take_len hm)
  rw [← hP] at HR1 HPA HPL
  clear hno1 hrd1 hb1 hP
  go_wp2_with fail
  go_loopw [6, 7] (fun v i wr => ∃ (j : Nat) (A : Option Addr) (lq c : Nat), i = .int .i64 (j : Int) ∧ v = .slice A lq c ∧ lq = ((P.take j).map fun n => rootB n p).length ∧ lq = j ∧ j ≤ m ∧ No .u32 75 wr w1.heap.size (.slice A lq c) ((P.take j).map fun n => rootB n p) ∧ Below w1.heap.size w1 wr) (fun _ i _ => (m - intOf i).toNat)
  case atStart => exact ⟨0, none, 0, 0, rfl, rfl, rfl, rfl, by omega, No.nil, Below.refl _ _⟩
  case round =>
    obtain ⟨j, A, lq, c, rfl, rfl, hlq, hlj, hjm, hno, hb⟩ := hrel
    have hsz := hb.size
    have HNO := Lib.hid hno
    have HB := Lib.hid hb
    have HLQ := Lib.hid hlq
    clear hno hb hlq
    by_cases hlt : j < m
    · obtain ⟨x, hx, hx1⟩ := HPA.out j hlt
      obtain ⟨bk, ok, hA, hbk, hkc⟩ := HR1.out (by omega)
      have HS := Lib.hid (show ((P.take (j + 1)).map fun n => rootB n p) = ((P.take j).map fun n => rootB n p) ++ [rootB x p] from by
        rw [List.take_add_one, hx]; simp)
      have ck : wr.cell? ⟨bk, ok + j, none⟩ = some (.int .u64 (x : Int)) := by
        rw [HB.out.cell (p := ⟨bk, ok + j, none⟩) hbk, hkc j (by omega)]; simp only [hx]; rfl
      subst hA
      have hjI : (j : Int) < (m : Int) := by omega
      have HLJ := Lib.hid hlj
      clear hkc hx hlj
      go_wp2_with fail
      refine (root_any x p hx1 hp _).mono ?_
      rintro e w' ⟨rfl, hw⟩
      have hw2 := hw.symm
      clear hw
      subst hw2
      obtain ⟨y, hy⟩ : ∃ y, y = rootB x p := ⟨_, rfl⟩
      rw [← hy]
      rw [← hy] at HS
      clear hy
      go_wp2_with (at_builtin; refine wpl_no Try.underlying85 info_u32 (by omega) rfl (.tmp 15) (.tmp 22) rfl rfl (HNO.out.next ((Below.refl _ _).alloc (Nat.le_refl _) _)) wr.heap.size 1 y (by exact cell_of_one (heap_alloc_new wr _)) (by rfl) (by rfl) (by rw [← HLQ.out, HLJ.out]; omega) (by simp; omega) ?_; intro v5 w5 hn5 hb5)
      have HN5 := Lib.hid (show No .u32 75 w5 w1.heap.size v5 ((P.take (j + 1)).map fun n => rootB n p) from by rw [HS.out]; exact hn5)
      obtain ⟨A5, c5, rfl, -, -, -⟩ := HN5.out.sl
      have hl5 : ((P.take (j + 1)).map fun n => rootB n p).length = j + 1 := by rw [HS.out, List.length_append, ← HLQ.out, HLJ.out]; rfl
      have HL5 := Lib.hid hl5
      rw [hl5] at HN5 ⊢
      have HB5 := Lib.hid (show Below w1.heap.size w1 w5 from (HB.out.alloc hsz _).trans hb5)
      clear hn5 hb5 hl5
      go_wp2_with fail
      go_roundw
      case rel => exact ⟨j + 1, A5, j + 1, c5, by first | rfl | go_num, rfl, HL5.out.symm, rfl, by omega, HN5.out, HB5.out⟩
      case measure => simp [intOf]; omega
    · obtain rfl : j = m := by omega
      have HR := Lib.hid (show P.take j = P from List.take_of_length_le (by rw [HPL.out]; exact Nat.le_refl _))
      go_wp2_with fail
      go_ret
      exact ⟨_, rfl, by have h := HNO.out; rw [HR.out] at h; exact Own.mono h hsz1, below_chain HB1.out HB.out⟩
theorem No.ks {w : World} {base : Nat} {v : Value} {l : List Nat} (h : No .u32 75 w base v l) {m : Nat} (hm : l.length = m) : ∃ A c, v = .slice A m c ∧ Ks w w.heap.size A m (fun j => l[j]?.getD 0) := by
  subst hm
  obtain ⟨A, c, rfl, h1, -, -⟩ := h.sl
  exact ⟨A, c, rfl, h1⟩
theorem roots64_any (w : World) : Calls Try.prog 58 #[.int .i64 64, .int .i64 3] w fun e w' => ∃ A c, e = .returned (.slice A 64 c) ∧ Ks w' w'.heap.size A 64 KC ∧ Below w.heap.size w w' := by
  refine (roots_of 64 3 _ rfl (by omega) (Or.inr rfl) w).mono ?_
  rintro e w' ⟨v, rfl, h, hb⟩
  rw [List.take_of_length_le (by rw [pl_312]; exact Nat.le_refl _), roots_K] at h
  obtain ⟨A, c, rfl, h1⟩ := h.ks (m := 64) (by rfl)
  exact ⟨A, c, rfl, h1, hb⟩
theorem roots8_any (w : World) : Calls Try.prog 58 #[.int .i64 8, .int .i64 2] w fun e w' => ∃ A c, e = .returned (.slice A 8 c) ∧ Ks w' w'.heap.size A 8 SC ∧ Below w.heap.size w w' := by
  refine (roots_of 8 2 _ rfl (by omega) (Or.inl rfl) w).mono ?_
  rintro e w' ⟨v, rfl, h, hb⟩
  rw [roots_S] at h
  obtain ⟨A, c, rfl, h1⟩ := h.ks (m := 8) (by rfl)
  exact ⟨A, c, rfl, h1, hb⟩
end Go.Proofs.Ytmpbimechgelfaa

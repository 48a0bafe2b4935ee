/- The document's constants by their roots: plain functions, and the contracts of prime, primes, above, root, roots. -/
import Derived.Test.YtmpbimechgelfaaRBlock
namespace Go.Proofs.Ytmpbimechgelfaa
open Go Go.RowKit

/-- Is no number from d on, k of them at most, a divisor of n? -/
def prB : Nat → Nat → Nat → Bool
  | 0, _, n => decide (1 < n)
  | k + 1, d, n => if d * d ≤ n then (if n % d = 0 then false else prB k (d + 1) n) else decide (1 < n)
def primeB (n : Nat) : Bool := prB 40 2 n
/-- The primes below n. -/
def pl (n : Nat) : List Nat := (List.range n).filter primeB
def abv2 (x n : Nat) : Bool := decide (n < x * x / 18446744073709551616) || (decide (x * x / 18446744073709551616 = n) && decide (0 < x * x % 18446744073709551616))
def abv3 (x n : Nat) : Bool :=
  let hi := x * x / 18446744073709551616
  let lo := x * x % 18446744073709551616
  let mid := hi * x % 18446744073709551616
  let up := lo * x / 18446744073709551616
  let low := lo * x % 18446744073709551616
  let top := hi * x / 18446744073709551616 + (mid + up) / 18446744073709551616
  let sum := (mid + up) % 18446744073709551616
  decide (0 < top) || (decide (n * 4294967296 < sum) || (decide (sum = n * 4294967296) && decide (0 < low)))
def abv (x p n : Nat) : Bool := if p = 2 then abv2 x n else abv3 x n
/-- A root's bits: k more of them. -/
def rtB (n p : Nat) : Nat → Nat → Nat
  | 0, x => x
  | k + 1, x => rtB n p k (if abv (x + 2 ^ k) p n then x else x + 2 ^ k)
def rootB (n p : Nat) : Nat := rtB n p 40 0 % 4294967296
set_option maxRecDepth 100000 in
theorem pl_312 : (pl 312).length = 64 := by decide +kernel
set_option maxRecDepth 100000 in
theorem roots_K : (pl 312).map (fun n => rootB n 3) = KL := by decide +kernel
set_option maxRecDepth 100000 in
theorem roots_S : ((pl 312).take 8).map (fun n => rootB n 2) = SL := by decide +kernel
theorem pl_succ (n : Nat) : pl (n + 1) = if primeB n then pl n ++ [n] else pl n := by
  unfold pl
  rw [List.range_succ, List.filter_append]
  cases h : primeB n <;> simp [h]
theorem pl_pre (n k : Nat) : ∃ r, pl (n + k) = pl n ++ r := by
  induction k with
  | zero => exact ⟨[], by simp⟩
  | succ k ih =>
    obtain ⟨r, hr⟩ := ih
    rw [← Nat.add_assoc, pl_succ, hr]
    by_cases h : primeB (n + k) = true
    · rw [if_pos h]; exact ⟨r ++ [n + k], by simp⟩
    · rw [if_neg h]; exact ⟨r, rfl⟩
theorem pl_take {n : Nat} (h : n ≤ 312) : pl n = (pl 312).take (pl n).length := by
  obtain ⟨r, hr⟩ := pl_pre n (312 - n)
  rw [show n + (312 - n) = 312 from by omega] at hr
  rw [hr, List.take_append_of_le_length (Nat.le_refl _), List.take_length]
theorem pl_two : pl 2 = [] := by decide
theorem pl_lt {n x : Nat} (h : x ∈ pl n) : x < n := by
  have := (List.mem_filter.1 h).1
  simpa using this
set_option maxHeartbeats 2000000 in
theorem prime_any (n : Nat) (hn : n ≤ 1000) (w : World) : Calls Try.prog 75 #[.int .u64 (n : Int)] w fun e w' => e = .returned (.bool (primeB n)) ∧ w' = w := by
  go_enter Try.func75, Try.ntmps75
  go_wp2_with fail
  go_loop [3] (fun d => ∃ d' k : Nat, d = .int .u64 (d' : Int) ∧ d' + k = 42 ∧ 2 ≤ d' ∧ prB k d' n = primeB n) (fun d => 42 - (intOf d).toNat)
  case atStart => exact ⟨2, 40, rfl, rfl, by omega, rfl⟩
  case round =>
    obtain ⟨d, k, rfl, hk, hd2, hp⟩ := hrel
    have hd42 : d ≤ 42 := by omega
    obtain ⟨q, hq⟩ : ∃ q, q = d * d := ⟨_, rfl⟩
    have hq2 : q ≤ 42 * 42 := by rw [hq]; exact Nat.mul_le_mul hd42 hd42
    have hqw : IntKind.u64.wrap ((d : Int) * (d : Int)) = (q : Int) := by
      have e : (d : Int) * (d : Int) = (q : Int) := by rw [hq]; push_cast; rfl
      rw [e]; simp [IntKind.wrap, IntKind.bits, IntKind.signed]; omega
    have hdI : (1 : Int) ≤ (d : Int) := by omega
    have HQ := Lib.hid hq
    by_cases hdd : q ≤ n
    · have hd31 : d ≤ 31 := by
        by_cases h : d ≤ 31
        · exact h
        · have : 32 * 32 ≤ d * d := Nat.mul_le_mul (by omega) (by omega)
          omega
      obtain ⟨k', rfl⟩ : ∃ k', k = k' + 1 := ⟨k - 1, by omega⟩
      by_cases hm : n % d = 0
      · have hmI : ((n : Int) % (d : Int) == 0) = true := by rw [beq_iff_eq]; exact_mod_cast hm
        have HR := Lib.hid (show primeB n = false from by rw [← hp]; unfold prB; rw [if_pos (by rw [← hq]; exact hdd), if_pos hm])
        clear hp hm hq
        go_wp2_with fail
        go_ret
        exact ⟨by rw [HR.out]; rfl, rfl⟩
      · have hmI : ((n : Int) % (d : Int) == 0) = false := by rw [beq_eq_false_iff_ne]; exact_mod_cast hm
        have HR := Lib.hid (show prB k' (d + 1) n = primeB n from by rw [← hp, prB]; rw [if_pos (by rw [← hq]; exact hdd), if_neg hm])
        clear hp hm hq
        go_wp2_with fail
        go_round
        case rel => exact ⟨d + 1, k', by first | rfl | go_num, by omega, by omega, HR.out⟩
        case measure => simp [intOf]; omega
    · have HR := Lib.hid (show decide (1 < n) = primeB n from by
        rw [← hp]
        cases k with
        | zero => rfl
        | succ k => unfold prB; rw [if_neg (by rw [← hq]; exact hdd)])
      clear hp hq
      go_wp2_with fail
      go_ret
      have e : decide ((1 : Int) < (n : Int)) = decide (1 < n) := by rw [decide_eq_decide]; omega
      exact ⟨by rw [← HR.out, ← e]; rfl, rfl⟩
/-- Numbers of one kind in a slice of the call's own. -/
def No (k : IntKind) (e : TypeId) (w : World) (base : Nat) (v : Value) (l : List Nat) : Prop := Own w base e 1 v l.length (fun j => .int k ((l[j]?.getD 0 : Nat) : Int))
theorem No.nil {k : IntKind} {e : TypeId} {w : World} {base : Nat} : No k e w base (.slice none 0 0) [] := Own.nil
theorem No.next {k : IntKind} {e : TypeId} {w w' : World} {base : Nat} {v : Value} {l : List Nat} (h : No k e w base v l) (hb : Below w.heap.size w w') : No k e w' base v l := Own.below h hb
theorem No.sl {k : IntKind} {e : TypeId} {w : World} {base : Nat} {v : Value} {l : List Nat} (h : No k e w base v l) : ∃ A c, v = .slice A l.length c ∧ Rd w w.heap.size 1 A l.length (fun j => .int k ((l[j]?.getD 0 : Nat) : Int)) ∧ l.length ≤ c ∧ c ≤ maxLen := by
  obtain ⟨A, c, rfl, h1, h2, _⟩ := Own.shape h
  exact ⟨A, c, rfl, Own.rd h, h1, h2⟩
/-- 'append(v, x)' of one number, at a plain region. -/
theorem wpl_no {k : IntKind} {e t : TypeId} {by_ : Nat} (ht : Try.prog.underlying t = some (.slice e)) (hinfo : (Try.prog.info? e).map (fun i => (i.zero, i.size, i.bytes)) = some (some (.int k 0), 1, by_)) (hby : by_ ≤ 16)
    {w : World} {ops : Array Oper} {rest : List Oper} {o : Oper} {a : Act} {Q : Exit → Act → World → Prop} (hgd : o.guard = none) (s y : Operand)
    (ho : o.op = .call { callee := .builtin .append, args := #[s, y], argTypes := #[t, t] }) (hty : o.type = t) {base : Nat} {v : Value} {l : List Nat} (h : No k e w base v l) (g c x : Nat) (hg : w.cell? ⟨g, 0, none⟩ = some (.int k (x : Int)))
    (hs : a.eval s = v) (hy : a.eval y = .slice (some ⟨g, 0, none⟩) 1 c) (hlen : l.length ≤ 2000) (hbase : base ≤ w.heap.size)
    (hk : ∀ v' w', No k e w' base v' (l ++ [x]) → Below base w w' → wpList Try.prog ops Q rest (a.put o.dst v') w') : wpList Try.prog ops Q (o :: rest) a w := by
  obtain ⟨i0, hi0, hz0, hz1, hz2⟩ := info_parts hinfo
  have hr : Rd w (g + 1) 1 (some ⟨g, 0, none⟩) 1 (fun j => .int k (([x][j]?.getD 0 : Nat) : Int)) := fun _ => ⟨g, 0, rfl, by omega, fun j hj => by
    obtain rfl : j = 0 := by omega
    exact hg⟩
  obtain ⟨v', w', hrun, h2, h3, _⟩ := run_app (P := Try.prog) w base t t e i0 _ 1 by_ ht hi0 hz0 hz1 hz2 rfl (by omega) v l.length _ h (g + 1) (some ⟨g, 0, none⟩) 1 c _ hr (by intro e; cases e) (fun j _ => rfl) (by unfold maxLen; omega) (by have : (l.length + 1) * by_ ≤ 2001 * 16 := Nat.mul_le_mul (by omega) hby; omega) hbase
  have hbl : Below base w w' := (Below.refl _ _).grown h3 hbase (fun k hk => (Own.block h k hk).1)
  refine wpList_plain hgd fun K hK => ?_
  unfold Oper.wp execOp
  simp only [ho, hty, resolve, invoke, builtin, Sem.run_bind, Sem.run_pure, Result.andThen_ok, List.map_toArray, List.map_cons, List.map_nil, hs, hy, hrun]
  refine hK _ _ (hk v' w' ?_ hbl)
  unfold No
  rw [List.length_append]
  refine Own.congr h2 fun j hj => ?_
  rw [List.getElem?_append]
  by_cases hjl : j < l.length
  · rw [if_pos (by omega), if_pos hjl]
  · rw [if_neg (by omega), if_neg hjl, Nat.mul_one]
theorem info_u64 : (Try.prog.info? 24).map (fun i => (i.zero, i.size, i.bytes)) = some (some (.int .u64 0), 1, 8) := by kernel_rfl
theorem info_u32 : (Try.prog.info? 75).map (fun i => (i.zero, i.size, i.bytes)) = some (some (.int .u32 0), 1, 4) := by kernel_rfl
set_option maxHeartbeats 4000000 in
theorem primes_any (m : Nat) (hm : m ≤ 64) (w : World) : Calls Try.prog 69 #[.int .i64 (m : Int)] w fun e w' => ∃ v, e = .returned v ∧ No .u64 24 w' w.heap.size v ((pl 312).take m) ∧ Below w.heap.size w w' := by
  go_enter Try.func69, Try.ntmps69
  go_wp2_with fail
  go_loopw [3, 4] (fun v n wr => ∃ (q : Nat) (A : Option Addr) (lq c : Nat), n = .int .u64 (q : Int) ∧ v = .slice A lq c ∧ lq = (pl q).length ∧ lq ≤ m ∧ 2 ≤ q ∧ q ≤ 312 ∧ No .u64 24 wr w.heap.size (.slice A lq c) (pl q) ∧ Below w.heap.size w wr) (fun _ n _ => 312 - (intOf n).toNat)
  case atStart => exact ⟨2, none, 0, 0, rfl, rfl, by rw [pl_two]; rfl, by omega, by omega, by omega, by rw [pl_two]; exact No.nil, Below.refl _ _⟩
  case round =>
    obtain ⟨q, A, lq, c, rfl, rfl, hlq, hlm, hq2, hq3, hno, hb⟩ := hrel
    have HNO := Lib.hid hno
    have HB := Lib.hid hb
    have hsz := hb.size
    by_cases hlt : lq < m
    · have hq311 : q < 312 := by
        by_cases h : q < 312
        · exact h
        · obtain rfl : q = 312 := by omega
          rw [pl_312] at hlq; omega
      have HLQ := Lib.hid hlq
      clear hno hb hlq
      cases hpb : primeB q with
      | true =>
        have HS := Lib.hid (show pl (q + 1) = pl q ++ [q] from by rw [pl_succ, if_pos hpb])
        have HPB := Lib.hid hpb
        clear hpb
        go_wp2_with (first | (go_at_call 75; (with_reducible refine (prime_any q (by omega) _).mono ?_); rintro e w' ⟨rfl, hw⟩; have hw2 := hw.symm; clear hw; subst hw2; rw [HPB.out]) | (at_builtin; refine wpl_no Try.underlying94 info_u64 (by omega) rfl (.tmp 15) (.tmp 17) rfl rfl (HNO.out.next ((Below.refl _ _).alloc (Nat.le_refl _) _)) wr.heap.size 1 q (by exact cell_of_one (heap_alloc_new wr _)) (by rfl) (by rfl) (by rw [← HLQ.out]; omega) (by simp; omega) ?_; intro v5 w5 hn5 hb5))
        have HN5 := Lib.hid (show No .u64 24 w5 w.heap.size v5 (pl (q + 1)) from by rw [HS.out]; exact hn5)
        obtain ⟨A5, c5, rfl, -, -, -⟩ := HN5.out.sl
        have hl5 : (pl (q + 1)).length = lq + 1 := by rw [HS.out, HLQ.out]; simp
        have HL5 := Lib.hid hl5
        rw [hl5] at HN5 ⊢
        have HB5 := Lib.hid (show Below w.heap.size w w5 from (HB.out.alloc hsz _).trans hb5)
        clear hn5 hb5 hl5
        go_wp2_with fail
        go_roundw
        case rel => exact ⟨q + 1, A5, lq + 1, c5, by first | rfl | go_num, rfl, HL5.out.symm, by omega, by omega, by omega, HN5.out, HB5.out⟩
        case measure => simp [intOf]; omega
      | false =>
        have HS := Lib.hid (show pl (q + 1) = pl q from by rw [pl_succ, if_neg (by rw [hpb]; decide)])
        have HPB := Lib.hid hpb
        clear hpb
        go_wp2_with (go_at_call 75; (with_reducible refine (prime_any q (by omega) _).mono ?_); rintro e w' ⟨rfl, hw⟩; have hw2 := hw.symm; clear hw; subst hw2; rw [HPB.out])
        go_roundw
        case rel => exact ⟨q + 1, A, lq, c, by first | rfl | go_num, rfl, by rw [HS.out]; exact HLQ.out, by omega, by omega, by omega, by rw [HS.out]; exact HNO.out, HB.out⟩
        case measure => simp [intOf]; omega
    · obtain rfl : lq = m := by omega
      have HR := Lib.hid (show pl q = (pl 312).take lq from by rw [hlq]; exact pl_take hq3)
      clear hno hb hlq
      go_wp2_with fail
      go_ret
      exact ⟨_, rfl, by rw [← HR.out]; exact HNO.out, HB.out⟩
end Go.Proofs.Ytmpbimechgelfaa
